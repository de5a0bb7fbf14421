/- What a function of the program computes, and the walk that shows it; made by a program of the session's out of the translation; no conditions beyond those that the theorems name. -/
import Derived.Test.YtieakigoinebdaaS
import Derived.Test.YtieakigoinebdaaG10
import Derived.Test.YtieakigoinebdaaG11
import Derived.Test.YtieakigoinebdaaG14
import Derived.Test.YtieakigoinebdaaG16
import Derived.Test.YtieakigoinebdaaG28
namespace Go.Proofs.Ytieakigoinebdaa
open Go Go.Proofs.Ytieakigoinebdaa.RW
set_option linter.unusedVariables false
set_option maxRecDepth 100000
set_option maxHeartbeats 8000000

/-! ### armillarylaw29_QuorumMonotonic: function 6, armillary/armillarylaw29.QuorumMonotonic -/
noncomputable def K6_0 : Code := cBody Try.f6
noncomputable def K6_1 : Code := cL K6_0
noncomputable def O6_1 : List Oper := cOps K6_1
noncomputable def K6_3 : Code := cR K6_0
noncomputable def K6_4 : Code := cL K6_3
noncomputable def O6_4 : List Oper := cOps K6_4
noncomputable def K6_6 : Code := cR K6_3
noncomputable def K6_7 : Code := cL K6_6
noncomputable def O6_7 : List Oper := cOps K6_7
noncomputable def K6_9 : Code := cR K6_6
noncomputable def K6_10 : Code := cL K6_9
noncomputable def O6_10 : List Oper := cOps K6_10
noncomputable def K6_12 : Code := cR K6_9
noncomputable def K6_13 : Code := cL K6_12
noncomputable def O6_13 : List Oper := cOps K6_13
noncomputable def K6_15 : Code := cR K6_12
noncomputable def K6_16 : Code := cL K6_15
noncomputable def O6_16 : List Oper := cOps K6_16
noncomputable def K6_18 : Code := cR K6_15
noncomputable def K6_19 : Code := cL K6_18
noncomputable def O6_19 : List Oper := cOps K6_19
noncomputable def K6_21 : Code := cR K6_18
noncomputable def K6_22 : Code := cL K6_21
noncomputable def O6_22 : List Oper := cOps K6_22
noncomputable def K6_24 : Code := cR K6_21
noncomputable def K6_25 : Code := cL K6_24
noncomputable def O6_25 : List Oper := cOps K6_25
noncomputable def K6_27 : Code := cR K6_24
def armillarylaw29_QuorumMonotonic.k1  (x1 : Bool) : Option (Bool) := (some x1)
def armillarylaw29_QuorumMonotonic.f (k : Nat) (a0 : S26) (a1 : List S32) : Option (Bool) := ((armillarylaw29_sanity.f k ).bind fun t1 => ((armillarylaw29_made.f k a0).bind fun t2 => (if (([] : List S32).length + t2.1.length) * 88 ≤ 140737488355328 then ((armillaryref29_MadeAll.f k a1 t2.2.1 40).bind fun t3 => (if ((([] : List S32) ++ t2.1).length + t3.length) * 88 ≤ 140737488355328 then ((quorum_Prepared.f k t2.1 t2.2.1 t2.2.2).bind fun t4 => ((quorum_Prepared.f k ((([] : List S32) ++ t2.1) ++ t3) t2.2.1 t2.2.2).bind fun t5 => ((quorum_Committed.f k t2.1 t2.2.1 t2.2.2).bind fun t6 => ((quorum_Committed.f k ((([] : List S32) ++ t2.1) ++ t3) t2.2.1 t2.2.2).bind fun t7 => ((if t4.2 = true then (if t5.2 = true then (if t4.1 = t5.1 then (if t6.2 = true then (if t7.2 = true then (if t6.1 = t7.1 then (some t1) else (some false)) else (some false)) else (some t1)) else (some false)) else (some false)) else (if t6.2 = true then (if t7.2 = true then (if t6.1 = t7.1 then (some t1) else (some false)) else (some false)) else (some t1))).bind (armillarylaw29_QuorumMonotonic.k1)))))) else none)) else none)))
def armillarylaw29_QuorumMonotonic.Post (I : Imm) (w : World) (r : Bool) (v : Value) (w' : World) : Prop :=
  ∃ (J : Imm), v = .bool r ∧ Got w w' I J []
theorem armillarylaw29_QuorumMonotonic.calls (k : Nat) (I0 : Imm) (a0 : S26) (Ap0_0 : Option Addr) (cp0_0 : Nat) (a1 : List S32) (Ap1 : Option Addr) (cp1 : Nat) (w : World) (hI : I0.at_ w) (hlp0_0 : a0.f0.length ≤ cp0_0) (hrp0_0 : Rd t32 I0 Ap0_0 a0.f0) (hlp1 : a1.length ≤ cp1) (hrp1 : Rd t32 I0 Ap1 a1) (r : Bool) (h : armillarylaw29_QuorumMonotonic.f k a0 a1 = some r) :
    Calls Try.prog 6 [.agg #[.slice Ap0_0 a0.f0.length cp0_0, .int .u8 a0.f1, .int .i64 a0.f2.f0, .int .i64 a0.f2.f1], .slice Ap1 a1.length cp1].toArray w fun e w' => ∃ v, e = .returned v ∧ armillarylaw29_QuorumMonotonic.Post I0 w r v w' := by
  have H : ((armillarylaw29_sanity.f k ).bind fun t1 => ((armillarylaw29_made.f k a0).bind fun t2 => (if (([] : List S32).length + t2.1.length) * 88 ≤ 140737488355328 then ((armillaryref29_MadeAll.f k a1 t2.2.1 40).bind fun t3 => (if ((([] : List S32) ++ t2.1).length + t3.length) * 88 ≤ 140737488355328 then ((quorum_Prepared.f k t2.1 t2.2.1 t2.2.2).bind fun t4 => ((quorum_Prepared.f k ((([] : List S32) ++ t2.1) ++ t3) t2.2.1 t2.2.2).bind fun t5 => ((quorum_Committed.f k t2.1 t2.2.1 t2.2.2).bind fun t6 => ((quorum_Committed.f k ((([] : List S32) ++ t2.1) ++ t3) t2.2.1 t2.2.2).bind fun t7 => ((if t4.2 = true then (if t5.2 = true then (if t4.1 = t5.1 then (if t6.2 = true then (if t7.2 = true then (if t6.1 = t7.1 then (some t1) else (some false)) else (some false)) else (some t1)) else (some false)) else (some false)) else (if t6.2 = true then (if t7.2 = true then (if t6.1 = t7.1 then (some t1) else (some false)) else (some false)) else (some t1))).bind (armillarylaw29_QuorumMonotonic.k1)))))) else none)) else none))) = some r := h
  clear h
  refine calls_body Try.func6 (by kernel_rfl) 85 (by kernel_rfl) (by kernel_rfl) ⟨w, fun _ => False, I0⟩ I0 [] [(0, .agg #[.slice Ap0_0 a0.f0.length cp0_0, .int .u8 a0.f1, .int .i64 a0.f2.f0, .int .i64 a0.f2.f1]), (1, .slice Ap1 a1.length cp1)] (by kernel_rfl) (Sat.start w _ I0 hI) ?_
  generalize w.heap.size = nx0
  show OK _ K6_0 _ _ _ _ _ _ _ _
  refine OK.seq K6_1 K6_3 (by kernel_rfl) ?_
  refine OK.region 0 O6_1 (by kernel_rfl) ?_
  refine RL.simP (K' := [(2, .pointer (some ⟨nx0, 0, none⟩)), (1, .slice Ap1 a1.length cp1)]) (nx' := nx0 + 1) (L' := [⟨nx0, [.slice Ap0_0 a0.f0.length cp0_0, .int .u8 a0.f1, .int .i64 a0.f2.f0, .int .i64 a0.f2.f1], 26⟩]) [] (RFacts.nil _ _ _) 2 [.no, .no] (by kernel_rfl) (by kernel_rfl) ?_
  refine RL.nil (by kernel_rfl) ?_
  refine QN.then_ ?_
  refine OK.seq K6_4 K6_6 (by kernel_rfl) ?_
  refine OK.region 1 O6_4 (by kernel_rfl) ?_
  obtain ⟨t1, hA1, H⟩ := Option.bind_eq_some_iff.mp H
  refine RL.callP 10 [] (some 18) (fun w => armillarylaw29_sanity.Post I0 w t1) (by kernel_rfl) (by kernel_rfl) (fun w hs => armillarylaw29_sanity.calls k I0  w hs.im  t1 hA1) ?_
  rintro w v w' hs ⟨I1, rfl, hg⟩
  have hi1 := hg.le
  refine RL.resume (K' := [(18, .bool t1), (2, .pointer (some ⟨nx0, 0, none⟩)), (1, .slice Ap1 a1.length cp1)]) (X' := []) (by kernel_rfl) (hs.call hg) ?_
  clear hs hg
  generalize w'.heap.size = nx1
  clear w w'
  refine RL.simP (K' := [(5, .bool t1), (2, .pointer (some ⟨nx0, 0, none⟩)), (1, .slice Ap1 a1.length cp1)]) (nx' := nx1) (L' := [⟨nx0, [.slice Ap0_0 a0.f0.length cp0_0, .int .u8 a0.f1, .int .i64 a0.f2.f0, .int .i64 a0.f2.f1], 26⟩]) [] (RFacts.nil _ _ _) 1 [.no] (by kernel_rfl) (by kernel_rfl) ?_
  refine RL.nil (by kernel_rfl) ?_
  refine QN.then_ ?_
  refine OK.seq K6_7 K6_9 (by kernel_rfl) ?_
  refine OK.region 2 O6_7 (by kernel_rfl) ?_
  refine RL.simP (K' := [(20, .agg #[.slice Ap0_0 a0.f0.length cp0_0, .int .u8 a0.f1, .int .i64 a0.f2.f0, .int .i64 a0.f2.f1]), (5, .bool t1), (1, .slice Ap1 a1.length cp1)]) (nx' := nx1) (L' := [⟨nx0, [.slice Ap0_0 a0.f0.length cp0_0, .int .u8 a0.f1, .int .i64 a0.f2.f0, .int .i64 a0.f2.f1], 26⟩]) [] (RFacts.nil _ _ _) 1 [.l 0] (by kernel_rfl) (by kernel_rfl) ?_
  obtain ⟨t2, hA2, H⟩ := Option.bind_eq_some_iff.mp H
  refine RL.callP 11 [.agg #[.slice Ap0_0 a0.f0.length cp0_0, .int .u8 a0.f1, .int .i64 a0.f2.f0, .int .i64 a0.f2.f1]] (some 21) (fun w => armillarylaw29_made.Post I1 w t2) (by kernel_rfl) (by kernel_rfl) (fun w hs => armillarylaw29_made.calls k I1 a0 Ap0_0 cp0_0 w hs.im hlp0_0 (Rd.ext hi1 hrp0_0) t2 hA2) ?_
  rintro w v w' hs ⟨I2, A1, c1, cs1, rfl, hg, hp1⟩
  have hi2 := hg.le
  refine RL.resume (K' := [(21, .tuple #[.slice A1 t2.1.length c1, .int .i64 t2.2.1, .agg #[.int .i64 t2.2.2.f0, .int .i64 t2.2.2.f1]]), (20, .agg #[.slice Ap0_0 a0.f0.length cp0_0, .int .u8 a0.f1, .int .i64 a0.f2.f0, .int .i64 a0.f2.f1]), (5, .bool t1), (1, .slice Ap1 a1.length cp1)]) (X' := [orow 32 8 A1 t2.1.length c1 cs1]) (by kernel_rfl) (hs.call hg) ?_
  clear hs hg
  generalize w'.heap.size = nx2
  clear w w'
  refine RL.simP (K' := [(7, .int .i64 t2.2.1), (6, .slice A1 t2.1.length c1), (8, .pointer (some ⟨nx2, 0, none⟩)), (5, .bool t1), (1, .slice Ap1 a1.length cp1)]) (nx' := nx2 + 1) (L' := [⟨nx0, [.slice Ap0_0 a0.f0.length cp0_0, .int .u8 a0.f1, .int .i64 a0.f2.f0, .int .i64 a0.f2.f1], 26⟩, ⟨nx2, [.int .i64 t2.2.2.f0, .int .i64 t2.2.2.f1], 24⟩]) [] (RFacts.nil _ _ _) 8 [.no, .no, .no, .no, .no, .no, .no, .l 1] (by kernel_rfl) (by kernel_rfl) ?_
  refine RL.nil (by kernel_rfl) ?_
  refine QN.then_ ?_
  refine OK.seq K6_10 K6_12 (by kernel_rfl) ?_
  refine OK.region 3 O6_10 (by kernel_rfl) ?_
  refine RL.simP (K' := [(26, .slice A1 t2.1.length c1), (25, .slice (some ⟨nx2 + 1, 0, none⟩) 0 0), (7, .int .i64 t2.2.1), (6, .slice A1 t2.1.length c1), (8, .pointer (some ⟨nx2, 0, none⟩)), (5, .bool t1), (1, .slice Ap1 a1.length cp1)]) (nx' := nx2 + 2) (L' := [⟨nx0, [.slice Ap0_0 a0.f0.length cp0_0, .int .u8 a0.f1, .int .i64 a0.f2.f0, .int .i64 a0.f2.f1], 26⟩, ⟨nx2, [.int .i64 t2.2.2.f0, .int .i64 t2.2.2.f1], 24⟩, ⟨nx2 + 1, [], 32⟩]) [] (RFacts.nil _ _ _) 2 [.no, .no] (by kernel_rfl) (by kernel_rfl) ?_
  refine RL.freeze (e := 32) (sz := 8) (S := A1) (n := t2.1.length) (cap := c1) 0 (by kernel_rfl) hp1 rfl (fun _ h => h.elim) (fun I3 hi3 hl1 hr1 => ?_)
  skip
  refine RL.toRow (b := ⟨nx2 + 1, [], 32⟩) 2 0 8 (by kernel_rfl) (by kernel_rfl) (by decide) ?_
  have hp2 : Reps t32 I3 ([] : List S32) [] := rfl
  refine RL.norm (L' := [⟨nx0, [.slice Ap0_0 a0.f0.length cp0_0, .int .u8 a0.f1, .int .i64 a0.f2.f0, .int .i64 a0.f2.f1], 26⟩, ⟨nx2, [.int .i64 t2.2.2.f0, .int .i64 t2.2.2.f1], 24⟩]) (X' := [orow 32 8 (some ⟨nx2 + 1, 0, none⟩) (([] : List S32).length) 0 []]) rfl rfl (by kernel_rfl) (by kernel_rfl) ?_
  by_cases hz1 : (([] : List S32).length + t2.1.length) * 88 ≤ 140737488355328
  case neg => rw [if_neg hz1] at H; cases H
  rw [if_pos hz1] at H
  refine RL.appendR (T := 22) (e := 32) (S := (some ⟨nx2 + 1, 0, none⟩)) (S2 := A1) 8 88 22 0 c1 [] t32 ([] : List S32) t2.1 0 (some 27) (by kernel_rfl) (by kernel_rfl) (by kernel_rfl) (by kernel_rfl) (by kernel_rfl) (by decide) (by kernel_rfl) hp2 hr1 hz1 (by omega) (fun A2 c2 nx3 cs2 hp3 => ?_)
  refine RL.sub (K' := [(27, .slice A2 ((([] : List S32) ++ t2.1).length) c2), (26, .slice A1 t2.1.length c1), (25, .slice (some ⟨nx2 + 1, 0, none⟩) 0 0), (7, .int .i64 t2.2.1), (6, .slice A1 t2.1.length c1), (8, .pointer (some ⟨nx2, 0, none⟩)), (5, .bool t1), (1, .slice Ap1 a1.length cp1)]) (L' := [⟨nx0, [.slice Ap0_0 a0.f0.length cp0_0, .int .u8 a0.f1, .int .i64 a0.f2.f0, .int .i64 a0.f2.f1], 26⟩, ⟨nx2, [.int .i64 t2.2.2.f0, .int .i64 t2.2.2.f1], 24⟩]) (X' := [orow 32 8 A2 ((([] : List S32) ++ t2.1).length) c2 cs2]) (by kernel_rfl) (.refl _) (.refl _) ?_
  refine RL.simP (K' := [(29, .int .i64 t2.2.1), (28, .slice Ap1 a1.length cp1), (27, .slice A2 ((([] : List S32) ++ t2.1).length) c2), (7, .int .i64 t2.2.1), (6, .slice A1 t2.1.length c1), (8, .pointer (some ⟨nx2, 0, none⟩)), (5, .bool t1)]) (nx' := nx3) (L' := [⟨nx0, [.slice Ap0_0 a0.f0.length cp0_0, .int .u8 a0.f1, .int .i64 a0.f2.f0, .int .i64 a0.f2.f1], 26⟩, ⟨nx2, [.int .i64 t2.2.2.f0, .int .i64 t2.2.2.f1], 24⟩]) [] (RFacts.nil _ _ _) 2 [.no, .no] (by kernel_rfl) (by kernel_rfl) ?_
  obtain ⟨t3, hA3, H⟩ := Option.bind_eq_some_iff.mp H
  refine RL.callP 28 [.slice Ap1 a1.length cp1, .int .i64 t2.2.1, .int .i64 40] (some 30) (fun w => armillaryref29_MadeAll.Post I3 w t3) (by kernel_rfl) (by kernel_rfl) (fun w hs => armillaryref29_MadeAll.calls k I3 a1 Ap1 cp1 t2.2.1 40 w hs.im hlp1 (Rd.ext (Imm.le_trans (Imm.le_trans hi1 hi2) hi3) hrp1) t3 hA3) ?_
  rintro w v w' hs ⟨I4, A3, c3, cs3, rfl, hg, hp4⟩
  have hi4 := hg.le
  refine RL.resume (K' := [(30, .slice A3 t3.length c3), (29, .int .i64 t2.2.1), (28, .slice Ap1 a1.length cp1), (27, .slice A2 ((([] : List S32) ++ t2.1).length) c2), (7, .int .i64 t2.2.1), (6, .slice A1 t2.1.length c1), (8, .pointer (some ⟨nx2, 0, none⟩)), (5, .bool t1)]) (X' := [orow 32 8 A2 ((([] : List S32) ++ t2.1).length) c2 cs2, orow 32 8 A3 t3.length c3 cs3]) (by kernel_rfl) (hs.call hg) ?_
  clear hs hg
  generalize w'.heap.size = nx4
  clear w w'
  refine RL.freeze (e := 32) (sz := 8) (S := A3) (n := t3.length) (cap := c3) 1 (by kernel_rfl) hp4 rfl (fun _ h => h.elim) (fun I5 hi5 hl2 hr2 => ?_)
  skip
  by_cases hz2 : ((([] : List S32) ++ t2.1).length + t3.length) * 88 ≤ 140737488355328
  case neg => rw [if_neg hz2] at H; cases H
  rw [if_pos hz2] at H
  refine RL.appendR (T := 22) (e := 32) (S := A2) (S2 := A3) 8 88 22 c2 c3 cs2 t32 (([] : List S32) ++ t2.1) t3 0 (some 31) (by kernel_rfl) (by kernel_rfl) (by kernel_rfl) (by kernel_rfl) (by kernel_rfl) (by decide) (by kernel_rfl) (Reps.ext (Imm.le_trans hi4 hi5) hp3) hr2 hz2 (by omega) (fun A4 c4 nx5 cs4 hp5 => ?_)
  refine RL.sub (K' := [(31, .slice A4 (((([] : List S32) ++ t2.1) ++ t3).length) c4), (30, .slice A3 t3.length c3), (29, .int .i64 t2.2.1), (28, .slice Ap1 a1.length cp1), (7, .int .i64 t2.2.1), (6, .slice A1 t2.1.length c1), (8, .pointer (some ⟨nx2, 0, none⟩)), (5, .bool t1)]) (L' := [⟨nx0, [.slice Ap0_0 a0.f0.length cp0_0, .int .u8 a0.f1, .int .i64 a0.f2.f0, .int .i64 a0.f2.f1], 26⟩, ⟨nx2, [.int .i64 t2.2.2.f0, .int .i64 t2.2.2.f1], 24⟩]) (X' := [orow 32 8 A4 (((([] : List S32) ++ t2.1) ++ t3).length) c4 cs4]) (by kernel_rfl) (.refl _) (.refl _) ?_
  refine RL.simP (K' := [(9, .slice A4 (((([] : List S32) ++ t2.1) ++ t3).length) c4), (7, .int .i64 t2.2.1), (6, .slice A1 t2.1.length c1), (8, .pointer (some ⟨nx2, 0, none⟩)), (5, .bool t1)]) (nx' := nx5) (L' := [⟨nx0, [.slice Ap0_0 a0.f0.length cp0_0, .int .u8 a0.f1, .int .i64 a0.f2.f0, .int .i64 a0.f2.f1], 26⟩, ⟨nx2, [.int .i64 t2.2.2.f0, .int .i64 t2.2.2.f1], 24⟩]) [] (RFacts.nil _ _ _) 1 [.no] (by kernel_rfl) (by kernel_rfl) ?_
  refine RL.nil (by kernel_rfl) ?_
  refine QN.then_ ?_
  refine OK.seq K6_13 K6_15 (by kernel_rfl) ?_
  refine OK.region 4 O6_13 (by kernel_rfl) ?_
  refine RL.simP (K' := [(35, .agg #[.int .i64 t2.2.2.f0, .int .i64 t2.2.2.f1]), (34, .int .i64 t2.2.1), (33, .slice A1 t2.1.length c1), (9, .slice A4 (((([] : List S32) ++ t2.1) ++ t3).length) c4), (7, .int .i64 t2.2.1), (6, .slice A1 t2.1.length c1), (8, .pointer (some ⟨nx2, 0, none⟩)), (5, .bool t1)]) (nx' := nx5) (L' := [⟨nx0, [.slice Ap0_0 a0.f0.length cp0_0, .int .u8 a0.f1, .int .i64 a0.f2.f0, .int .i64 a0.f2.f1], 26⟩, ⟨nx2, [.int .i64 t2.2.2.f0, .int .i64 t2.2.2.f1], 24⟩]) [] (RFacts.nil _ _ _) 3 [.no, .no, .l 1] (by kernel_rfl) (by kernel_rfl) ?_
  obtain ⟨t4, hA4, H⟩ := Option.bind_eq_some_iff.mp H
  refine RL.callP 14 [.slice A1 t2.1.length c1, .int .i64 t2.2.1, .agg #[.int .i64 t2.2.2.f0, .int .i64 t2.2.2.f1]] (some 36) (fun w => quorum_Prepared.Post I5 w t4) (by kernel_rfl) (by kernel_rfl) (fun w hs => quorum_Prepared.calls k I5 t2.1 A1 c1 t2.2.1 t2.2.2 w hs.im hl1 (Rd.ext (Imm.le_trans hi4 hi5) hr1) t4 hA4) ?_
  rintro w v w' hs ⟨I6, rfl, hg⟩
  have hi6 := hg.le
  refine RL.resume (K' := [(36, .tuple #[.int .u32 t4.1, .bool t4.2]), (35, .agg #[.int .i64 t2.2.2.f0, .int .i64 t2.2.2.f1]), (34, .int .i64 t2.2.1), (33, .slice A1 t2.1.length c1), (9, .slice A4 (((([] : List S32) ++ t2.1) ++ t3).length) c4), (7, .int .i64 t2.2.1), (6, .slice A1 t2.1.length c1), (8, .pointer (some ⟨nx2, 0, none⟩)), (5, .bool t1)]) (X' := [orow 32 8 A4 (((([] : List S32) ++ t2.1) ++ t3).length) c4 cs4]) (by kernel_rfl) (hs.call hg) ?_
  clear hs hg
  generalize w'.heap.size = nx6
  clear w w'
  refine RL.simP (K' := [(11, .bool t4.2), (10, .int .u32 t4.1), (9, .slice A4 (((([] : List S32) ++ t2.1) ++ t3).length) c4), (7, .int .i64 t2.2.1), (6, .slice A1 t2.1.length c1), (8, .pointer (some ⟨nx2, 0, none⟩)), (5, .bool t1)]) (nx' := nx6) (L' := [⟨nx0, [.slice Ap0_0 a0.f0.length cp0_0, .int .u8 a0.f1, .int .i64 a0.f2.f0, .int .i64 a0.f2.f1], 26⟩, ⟨nx2, [.int .i64 t2.2.2.f0, .int .i64 t2.2.2.f1], 24⟩]) [] (RFacts.nil _ _ _) 5 [.no, .no, .no, .no, .no] (by kernel_rfl) (by kernel_rfl) ?_
  refine RL.nil (by kernel_rfl) ?_
  refine QN.then_ ?_
  refine OK.seq K6_16 K6_18 (by kernel_rfl) ?_
  refine OK.region 5 O6_16 (by kernel_rfl) ?_
  refine RL.simP (K' := [(42, .agg #[.int .i64 t2.2.2.f0, .int .i64 t2.2.2.f1]), (41, .int .i64 t2.2.1), (40, .slice A4 (((([] : List S32) ++ t2.1) ++ t3).length) c4), (11, .bool t4.2), (10, .int .u32 t4.1), (9, .slice A4 (((([] : List S32) ++ t2.1) ++ t3).length) c4), (7, .int .i64 t2.2.1), (6, .slice A1 t2.1.length c1), (8, .pointer (some ⟨nx2, 0, none⟩)), (5, .bool t1)]) (nx' := nx6) (L' := [⟨nx0, [.slice Ap0_0 a0.f0.length cp0_0, .int .u8 a0.f1, .int .i64 a0.f2.f0, .int .i64 a0.f2.f1], 26⟩, ⟨nx2, [.int .i64 t2.2.2.f0, .int .i64 t2.2.2.f1], 24⟩]) [] (RFacts.nil _ _ _) 3 [.no, .no, .l 1] (by kernel_rfl) (by kernel_rfl) ?_
  refine RL.freeze (e := 32) (sz := 8) (S := A4) (n := ((([] : List S32) ++ t2.1) ++ t3).length) (cap := c4) 0 (by kernel_rfl) (Reps.ext hi6 hp5) rfl (fun _ h => h.elim) (fun I7 hi7 hl3 hr3 => ?_)
  skip
  obtain ⟨t5, hA5, H⟩ := Option.bind_eq_some_iff.mp H
  refine RL.callP 14 [.slice A4 (((([] : List S32) ++ t2.1) ++ t3).length) c4, .int .i64 t2.2.1, .agg #[.int .i64 t2.2.2.f0, .int .i64 t2.2.2.f1]] (some 43) (fun w => quorum_Prepared.Post I7 w t5) (by kernel_rfl) (by kernel_rfl) (fun w hs => quorum_Prepared.calls k I7 ((([] : List S32) ++ t2.1) ++ t3) A4 c4 t2.2.1 t2.2.2 w hs.im hl3 hr3 t5 hA5) ?_
  rintro w v w' hs ⟨I8, rfl, hg⟩
  have hi8 := hg.le
  refine RL.resume (K' := [(43, .tuple #[.int .u32 t5.1, .bool t5.2]), (42, .agg #[.int .i64 t2.2.2.f0, .int .i64 t2.2.2.f1]), (41, .int .i64 t2.2.1), (40, .slice A4 (((([] : List S32) ++ t2.1) ++ t3).length) c4), (11, .bool t4.2), (10, .int .u32 t4.1), (9, .slice A4 (((([] : List S32) ++ t2.1) ++ t3).length) c4), (7, .int .i64 t2.2.1), (6, .slice A1 t2.1.length c1), (8, .pointer (some ⟨nx2, 0, none⟩)), (5, .bool t1)]) (X' := []) (by kernel_rfl) (hs.call hg) ?_
  clear hs hg
  generalize w'.heap.size = nx7
  clear w w'
  refine RL.simP (K' := [(13, .bool t5.2), (12, .int .u32 t5.1), (11, .bool t4.2), (10, .int .u32 t4.1), (9, .slice A4 (((([] : List S32) ++ t2.1) ++ t3).length) c4), (7, .int .i64 t2.2.1), (6, .slice A1 t2.1.length c1), (8, .pointer (some ⟨nx2, 0, none⟩)), (5, .bool t1)]) (nx' := nx7) (L' := [⟨nx0, [.slice Ap0_0 a0.f0.length cp0_0, .int .u8 a0.f1, .int .i64 a0.f2.f0, .int .i64 a0.f2.f1], 26⟩, ⟨nx2, [.int .i64 t2.2.2.f0, .int .i64 t2.2.2.f1], 24⟩]) [] (RFacts.nil _ _ _) 5 [.no, .no, .no, .no, .no] (by kernel_rfl) (by kernel_rfl) ?_
  refine RL.nil (by kernel_rfl) ?_
  refine QN.then_ ?_
  refine OK.seq K6_19 K6_21 (by kernel_rfl) ?_
  refine OK.region 6 O6_19 (by kernel_rfl) ?_
  refine RL.simP (K' := [(49, .agg #[.int .i64 t2.2.2.f0, .int .i64 t2.2.2.f1]), (48, .int .i64 t2.2.1), (47, .slice A1 t2.1.length c1), (13, .bool t5.2), (12, .int .u32 t5.1), (11, .bool t4.2), (10, .int .u32 t4.1), (9, .slice A4 (((([] : List S32) ++ t2.1) ++ t3).length) c4), (7, .int .i64 t2.2.1), (8, .pointer (some ⟨nx2, 0, none⟩)), (5, .bool t1)]) (nx' := nx7) (L' := [⟨nx0, [.slice Ap0_0 a0.f0.length cp0_0, .int .u8 a0.f1, .int .i64 a0.f2.f0, .int .i64 a0.f2.f1], 26⟩, ⟨nx2, [.int .i64 t2.2.2.f0, .int .i64 t2.2.2.f1], 24⟩]) [] (RFacts.nil _ _ _) 3 [.no, .no, .l 1] (by kernel_rfl) (by kernel_rfl) ?_
  obtain ⟨t6, hA6, H⟩ := Option.bind_eq_some_iff.mp H
  refine RL.callP 16 [.slice A1 t2.1.length c1, .int .i64 t2.2.1, .agg #[.int .i64 t2.2.2.f0, .int .i64 t2.2.2.f1]] (some 50) (fun w => quorum_Committed.Post I8 w t6) (by kernel_rfl) (by kernel_rfl) (fun w hs => quorum_Committed.calls k I8 t2.1 A1 c1 t2.2.1 t2.2.2 w hs.im hl1 (Rd.ext (Imm.le_trans (Imm.le_trans (Imm.le_trans (Imm.le_trans hi4 hi5) hi6) hi7) hi8) hr1) t6 hA6) ?_
  rintro w v w' hs ⟨I9, rfl, hg⟩
  have hi9 := hg.le
  refine RL.resume (K' := [(50, .tuple #[.int .u32 t6.1, .bool t6.2]), (49, .agg #[.int .i64 t2.2.2.f0, .int .i64 t2.2.2.f1]), (48, .int .i64 t2.2.1), (47, .slice A1 t2.1.length c1), (13, .bool t5.2), (12, .int .u32 t5.1), (11, .bool t4.2), (10, .int .u32 t4.1), (9, .slice A4 (((([] : List S32) ++ t2.1) ++ t3).length) c4), (7, .int .i64 t2.2.1), (8, .pointer (some ⟨nx2, 0, none⟩)), (5, .bool t1)]) (X' := []) (by kernel_rfl) (hs.call hg) ?_
  clear hs hg
  generalize w'.heap.size = nx8
  clear w w'
  refine RL.simP (K' := [(15, .bool t6.2), (14, .int .u32 t6.1), (13, .bool t5.2), (12, .int .u32 t5.1), (11, .bool t4.2), (10, .int .u32 t4.1), (9, .slice A4 (((([] : List S32) ++ t2.1) ++ t3).length) c4), (7, .int .i64 t2.2.1), (8, .pointer (some ⟨nx2, 0, none⟩)), (5, .bool t1)]) (nx' := nx8) (L' := [⟨nx0, [.slice Ap0_0 a0.f0.length cp0_0, .int .u8 a0.f1, .int .i64 a0.f2.f0, .int .i64 a0.f2.f1], 26⟩, ⟨nx2, [.int .i64 t2.2.2.f0, .int .i64 t2.2.2.f1], 24⟩]) [] (RFacts.nil _ _ _) 5 [.no, .no, .no, .no, .no] (by kernel_rfl) (by kernel_rfl) ?_
  refine RL.nil (by kernel_rfl) ?_
  refine QN.then_ ?_
  refine OK.seq K6_22 K6_24 (by kernel_rfl) ?_
  refine OK.region 7 O6_22 (by kernel_rfl) ?_
  refine RL.simP (K' := [(56, .agg #[.int .i64 t2.2.2.f0, .int .i64 t2.2.2.f1]), (55, .int .i64 t2.2.1), (54, .slice A4 (((([] : List S32) ++ t2.1) ++ t3).length) c4), (15, .bool t6.2), (14, .int .u32 t6.1), (13, .bool t5.2), (12, .int .u32 t5.1), (11, .bool t4.2), (10, .int .u32 t4.1), (5, .bool t1)]) (nx' := nx8) (L' := [⟨nx0, [.slice Ap0_0 a0.f0.length cp0_0, .int .u8 a0.f1, .int .i64 a0.f2.f0, .int .i64 a0.f2.f1], 26⟩, ⟨nx2, [.int .i64 t2.2.2.f0, .int .i64 t2.2.2.f1], 24⟩]) [] (RFacts.nil _ _ _) 3 [.no, .no, .l 1] (by kernel_rfl) (by kernel_rfl) ?_
  obtain ⟨t7, hA7, H⟩ := Option.bind_eq_some_iff.mp H
  refine RL.callP 16 [.slice A4 (((([] : List S32) ++ t2.1) ++ t3).length) c4, .int .i64 t2.2.1, .agg #[.int .i64 t2.2.2.f0, .int .i64 t2.2.2.f1]] (some 57) (fun w => quorum_Committed.Post I9 w t7) (by kernel_rfl) (by kernel_rfl) (fun w hs => quorum_Committed.calls k I9 ((([] : List S32) ++ t2.1) ++ t3) A4 c4 t2.2.1 t2.2.2 w hs.im hl3 (Rd.ext (Imm.le_trans hi8 hi9) hr3) t7 hA7) ?_
  rintro w v w' hs ⟨I10, rfl, hg⟩
  have hi10 := hg.le
  refine RL.resume (K' := [(57, .tuple #[.int .u32 t7.1, .bool t7.2]), (56, .agg #[.int .i64 t2.2.2.f0, .int .i64 t2.2.2.f1]), (55, .int .i64 t2.2.1), (54, .slice A4 (((([] : List S32) ++ t2.1) ++ t3).length) c4), (15, .bool t6.2), (14, .int .u32 t6.1), (13, .bool t5.2), (12, .int .u32 t5.1), (11, .bool t4.2), (10, .int .u32 t4.1), (5, .bool t1)]) (X' := []) (by kernel_rfl) (hs.call hg) ?_
  clear hs hg
  generalize w'.heap.size = nx9
  clear w w'
  refine RL.simP (K' := [(17, .bool t7.2), (16, .int .u32 t7.1), (15, .bool t6.2), (14, .int .u32 t6.1), (13, .bool t5.2), (12, .int .u32 t5.1), (11, .bool t4.2), (10, .int .u32 t4.1), (5, .bool t1)]) (nx' := nx9) (L' := [⟨nx0, [.slice Ap0_0 a0.f0.length cp0_0, .int .u8 a0.f1, .int .i64 a0.f2.f0, .int .i64 a0.f2.f1], 26⟩, ⟨nx2, [.int .i64 t2.2.2.f0, .int .i64 t2.2.2.f1], 24⟩]) [] (RFacts.nil _ _ _) 5 [.no, .no, .no, .no, .no] (by kernel_rfl) (by kernel_rfl) ?_
  refine RL.nil (by kernel_rfl) ?_
  refine QN.then_ ?_
  refine OK.seq K6_25 K6_27 (by kernel_rfl) ?_
  refine OK.join (fun K' I' _ L' X' => ∃ (x1 : Bool), K' = [(4, .bool x1)] ∧ L' = [⟨nx0, [.slice Ap0_0 a0.f0.length cp0_0, .int .u8 a0.f1, .int .i64 a0.f2.f0, .int .i64 a0.f2.f1], 26⟩, ⟨nx2, [.int .i64 t2.2.2.f0, .int .i64 t2.2.2.f1], 24⟩] ∧ X' = [] ∧ Imm.le I10 I' ∧ armillarylaw29_QuorumMonotonic.k1 x1 = some r) ?_ ?_
  · rintro _ I11 nx10 _ _ ⟨x1, rfl, rfl, rfl, hi11, H⟩
    replace H : (some x1) = some r := H
    refine QN.then_ ?_
    refine OK.ret (by kernel_rfl) ?_
    obtain rfl := Option.some.inj H
    refine QN.body rfl [] (RFacts.nil _ _ _) (.no) (.bool x1) (by kernel_rfl) (by kernel_rfl) (by kernel_rfl) ?_ _ (.inr rfl)
    exact fun w' hs' => ⟨_, rfl, I11, rfl, hs'.got _ .slnil⟩
  · intro Q_1 hJ1 hQ1
    obtain ⟨y1, H, HK1⟩ := Option.bind_eq_some_iff.mp H
    refine OK.region 8 O6_25 (by kernel_rfl) ?_
    refine RL.simP (K' := [(62, .bool (!t4.2)), (17, .bool t7.2), (16, .int .u32 t7.1), (15, .bool t6.2), (14, .int .u32 t6.1), (13, .bool t5.2), (12, .int .u32 t5.1), (10, .int .u32 t4.1), (5, .bool t1)]) (nx' := nx9) (L' := [⟨nx0, [.slice Ap0_0 a0.f0.length cp0_0, .int .u8 a0.f1, .int .i64 a0.f2.f0, .int .i64 a0.f2.f1], 26⟩, ⟨nx2, [.int .i64 t2.2.2.f0, .int .i64 t2.2.2.f1], 24⟩]) [] (RFacts.nil _ _ _) 3 [.no, .no, .no] (by kernel_rfl) (by kernel_rfl) ?_
    refine RL.cases t4.2 (fun hb => ?_) (fun hb => ?_)
    · have hc := hb
      refine RL.norm (K' := [(62, .bool false), (17, .bool t7.2), (16, .int .u32 t7.1), (15, .bool t6.2), (14, .int .u32 t6.1), (13, .bool t5.2), (12, .int .u32 t5.1), (10, .int .u32 t4.1), (5, .bool t1)]) (L' := [⟨nx0, [.slice Ap0_0 a0.f0.length cp0_0, .int .u8 a0.f1, .int .i64 a0.f2.f0, .int .i64 a0.f2.f1], 26⟩, ⟨nx2, [.int .i64 t2.2.2.f0, .int .i64 t2.2.2.f1], 24⟩]) (by rw [hb]; try rfl) rfl (by first | rfl | (rw [hb]; try rfl)) rfl ?_
      rw [if_pos hc] at H; clear hb
      refine RL.simP (K' := [(64, .bool t5.2), (62, .bool false), (17, .bool t7.2), (16, .int .u32 t7.1), (15, .bool t6.2), (14, .int .u32 t6.1), (12, .int .u32 t5.1), (10, .int .u32 t4.1), (5, .bool t1)]) (nx' := nx9) (L' := [⟨nx0, [.slice Ap0_0 a0.f0.length cp0_0, .int .u8 a0.f1, .int .i64 a0.f2.f0, .int .i64 a0.f2.f1], 26⟩, ⟨nx2, [.int .i64 t2.2.2.f0, .int .i64 t2.2.2.f1], 24⟩]) [] (RFacts.nil _ _ _) 2 [.no, .no] (by kernel_rfl) (by kernel_rfl) ?_
      refine RL.cases t5.2 (fun hb => ?_) (fun hb => ?_)
      · have hc := hb
        refine RL.norm (K' := [(64, .bool true), (62, .bool false), (17, .bool t7.2), (16, .int .u32 t7.1), (15, .bool t6.2), (14, .int .u32 t6.1), (12, .int .u32 t5.1), (10, .int .u32 t4.1), (5, .bool t1)]) (L' := [⟨nx0, [.slice Ap0_0 a0.f0.length cp0_0, .int .u8 a0.f1, .int .i64 a0.f2.f0, .int .i64 a0.f2.f1], 26⟩, ⟨nx2, [.int .i64 t2.2.2.f0, .int .i64 t2.2.2.f1], 24⟩]) (by rw [hb]; try rfl) rfl (by first | rfl | (rw [hb]; try rfl)) rfl ?_
        rw [if_pos hc] at H; clear hb
        refine RL.simP (K' := [(70, .bool (t4.1 == t5.1)), (17, .bool t7.2), (16, .int .u32 t7.1), (15, .bool t6.2), (14, .int .u32 t6.1), (5, .bool t1)]) (nx' := nx9) (L' := [⟨nx0, [.slice Ap0_0 a0.f0.length cp0_0, .int .u8 a0.f1, .int .i64 a0.f2.f0, .int .i64 a0.f2.f1], 26⟩, ⟨nx2, [.int .i64 t2.2.2.f0, .int .i64 t2.2.2.f1], 24⟩]) [] (RFacts.nil _ _ _) 6 [.no, .no, .no, .no, .no, .no] (by kernel_rfl) (by kernel_rfl) ?_
        refine RL.cases (t4.1 == t5.1) (fun hb => ?_) (fun hb => ?_)
        · have hc := (beq_iff_eq.1 hb)
          refine RL.norm (K' := [(70, .bool true), (17, .bool t7.2), (16, .int .u32 t7.1), (15, .bool t6.2), (14, .int .u32 t6.1), (5, .bool t1)]) (L' := [⟨nx0, [.slice Ap0_0 a0.f0.length cp0_0, .int .u8 a0.f1, .int .i64 a0.f2.f0, .int .i64 a0.f2.f1], 26⟩, ⟨nx2, [.int .i64 t2.2.2.f0, .int .i64 t2.2.2.f1], 24⟩]) (by rw [hb]; try rfl) rfl (by first | rfl | (rw [hb]; try rfl)) rfl ?_
          rw [if_pos hc] at H; clear hb
          refine RL.simP (K' := [(73, .bool (!t6.2)), (70, .bool true), (17, .bool t7.2), (16, .int .u32 t7.1), (14, .int .u32 t6.1), (5, .bool t1)]) (nx' := nx9) (L' := [⟨nx0, [.slice Ap0_0 a0.f0.length cp0_0, .int .u8 a0.f1, .int .i64 a0.f2.f0, .int .i64 a0.f2.f1], 26⟩, ⟨nx2, [.int .i64 t2.2.2.f0, .int .i64 t2.2.2.f1], 24⟩]) [] (RFacts.nil _ _ _) 3 [.no, .no, .no] (by kernel_rfl) (by kernel_rfl) ?_
          refine RL.cases t6.2 (fun hb => ?_) (fun hb => ?_)
          · have hc := hb
            refine RL.norm (K' := [(73, .bool false), (70, .bool true), (17, .bool t7.2), (16, .int .u32 t7.1), (14, .int .u32 t6.1), (5, .bool t1)]) (L' := [⟨nx0, [.slice Ap0_0 a0.f0.length cp0_0, .int .u8 a0.f1, .int .i64 a0.f2.f0, .int .i64 a0.f2.f1], 26⟩, ⟨nx2, [.int .i64 t2.2.2.f0, .int .i64 t2.2.2.f1], 24⟩]) (by rw [hb]; try rfl) rfl (by first | rfl | (rw [hb]; try rfl)) rfl ?_
            rw [if_pos hc] at H; clear hb
            refine RL.simP (K' := [(75, .bool t7.2), (73, .bool false), (70, .bool true), (16, .int .u32 t7.1), (14, .int .u32 t6.1), (5, .bool t1)]) (nx' := nx9) (L' := [⟨nx0, [.slice Ap0_0 a0.f0.length cp0_0, .int .u8 a0.f1, .int .i64 a0.f2.f0, .int .i64 a0.f2.f1], 26⟩, ⟨nx2, [.int .i64 t2.2.2.f0, .int .i64 t2.2.2.f1], 24⟩]) [] (RFacts.nil _ _ _) 2 [.no, .no] (by kernel_rfl) (by kernel_rfl) ?_
            refine RL.cases t7.2 (fun hb => ?_) (fun hb => ?_)
            · have hc := hb
              refine RL.norm (K' := [(75, .bool true), (73, .bool false), (70, .bool true), (16, .int .u32 t7.1), (14, .int .u32 t6.1), (5, .bool t1)]) (L' := [⟨nx0, [.slice Ap0_0 a0.f0.length cp0_0, .int .u8 a0.f1, .int .i64 a0.f2.f0, .int .i64 a0.f2.f1], 26⟩, ⟨nx2, [.int .i64 t2.2.2.f0, .int .i64 t2.2.2.f1], 24⟩]) (by rw [hb]; try rfl) rfl (by first | rfl | (rw [hb]; try rfl)) rfl ?_
              rw [if_pos hc] at H; clear hb
              refine RL.simP (K' := [(82, .bool (t6.1 == t7.1)), (5, .bool t1)]) (nx' := nx9) (L' := [⟨nx0, [.slice Ap0_0 a0.f0.length cp0_0, .int .u8 a0.f1, .int .i64 a0.f2.f0, .int .i64 a0.f2.f1], 26⟩, ⟨nx2, [.int .i64 t2.2.2.f0, .int .i64 t2.2.2.f1], 24⟩]) [] (RFacts.nil _ _ _) 7 [.no, .no, .no, .no, .no, .no, .no] (by kernel_rfl) (by kernel_rfl) ?_
              refine RL.cases (t6.1 == t7.1) (fun hb => ?_) (fun hb => ?_)
              · have hc := (beq_iff_eq.1 hb)
                refine RL.norm (K' := [(82, .bool true), (5, .bool t1)]) (L' := [⟨nx0, [.slice Ap0_0 a0.f0.length cp0_0, .int .u8 a0.f1, .int .i64 a0.f2.f0, .int .i64 a0.f2.f1], 26⟩, ⟨nx2, [.int .i64 t2.2.2.f0, .int .i64 t2.2.2.f1], 24⟩]) (by rw [hb]; try rfl) rfl (by first | rfl | (rw [hb]; try rfl)) rfl ?_
                rw [if_pos hc] at H; clear hb
                refine RL.simP (K' := [(4, .bool t1)]) (nx' := nx9) (L' := [⟨nx0, [.slice Ap0_0 a0.f0.length cp0_0, .int .u8 a0.f1, .int .i64 a0.f2.f0, .int .i64 a0.f2.f1], 26⟩, ⟨nx2, [.int .i64 t2.2.2.f0, .int .i64 t2.2.2.f1], 24⟩]) [] (RFacts.nil _ _ _) 3 [.no, .no, .no] (by kernel_rfl) (by kernel_rfl) ?_
                refine RL.nil (by kernel_rfl) ?_
                obtain rfl := Option.some.inj H
                refine QN.sub (K' := [(4, .bool t1)]) (L' := [⟨nx0, [.slice Ap0_0 a0.f0.length cp0_0, .int .u8 a0.f1, .int .i64 a0.f2.f0, .int .i64 a0.f2.f1], 26⟩, ⟨nx2, [.int .i64 t2.2.2.f0, .int .i64 t2.2.2.f1], 24⟩]) (by kernel_rfl) (.cons_cons _ (.cons_cons _ .slnil)) (.refl _) ?_
                exact hJ1 _ _ _ _ _ ⟨t1, rfl, rfl, rfl, (Imm.le_refl _), HK1⟩
              · have hc := (beq_eq_false_iff_ne.1 hb)
                refine RL.norm (K' := [(82, .bool false), (5, .bool t1)]) (L' := [⟨nx0, [.slice Ap0_0 a0.f0.length cp0_0, .int .u8 a0.f1, .int .i64 a0.f2.f0, .int .i64 a0.f2.f1], 26⟩, ⟨nx2, [.int .i64 t2.2.2.f0, .int .i64 t2.2.2.f1], 24⟩]) (by rw [hb]; try rfl) rfl (by first | rfl | (rw [hb]; try rfl)) rfl ?_
                rw [if_neg hc] at H; clear hb
                refine RL.simP (K' := [(4, .bool false)]) (nx' := nx9) (L' := [⟨nx0, [.slice Ap0_0 a0.f0.length cp0_0, .int .u8 a0.f1, .int .i64 a0.f2.f0, .int .i64 a0.f2.f1], 26⟩, ⟨nx2, [.int .i64 t2.2.2.f0, .int .i64 t2.2.2.f1], 24⟩]) [] (RFacts.nil _ _ _) 3 [.no, .no, .no] (by kernel_rfl) (by kernel_rfl) ?_
                refine RL.nil (by kernel_rfl) ?_
                obtain rfl := Option.some.inj H
                refine QN.sub (K' := [(4, .bool false)]) (L' := [⟨nx0, [.slice Ap0_0 a0.f0.length cp0_0, .int .u8 a0.f1, .int .i64 a0.f2.f0, .int .i64 a0.f2.f1], 26⟩, ⟨nx2, [.int .i64 t2.2.2.f0, .int .i64 t2.2.2.f1], 24⟩]) (by kernel_rfl) (.cons_cons _ (.cons_cons _ .slnil)) (.refl _) ?_
                exact hJ1 _ _ _ _ _ ⟨false, rfl, rfl, rfl, (Imm.le_refl _), HK1⟩
            · have hc := (Bool.eq_false_iff.1 hb)
              refine RL.norm (K' := [(75, .bool false), (73, .bool false), (70, .bool true), (16, .int .u32 t7.1), (14, .int .u32 t6.1), (5, .bool t1)]) (L' := [⟨nx0, [.slice Ap0_0 a0.f0.length cp0_0, .int .u8 a0.f1, .int .i64 a0.f2.f0, .int .i64 a0.f2.f1], 26⟩, ⟨nx2, [.int .i64 t2.2.2.f0, .int .i64 t2.2.2.f1], 24⟩]) (by rw [hb]; try rfl) rfl (by first | rfl | (rw [hb]; try rfl)) rfl ?_
              rw [if_neg hc] at H; clear hb
              refine RL.simP (K' := [(4, .bool false)]) (nx' := nx9) (L' := [⟨nx0, [.slice Ap0_0 a0.f0.length cp0_0, .int .u8 a0.f1, .int .i64 a0.f2.f0, .int .i64 a0.f2.f1], 26⟩, ⟨nx2, [.int .i64 t2.2.2.f0, .int .i64 t2.2.2.f1], 24⟩]) [] (RFacts.nil _ _ _) 10 [.no, .no, .no, .no, .no, .no, .no, .no, .no, .no] (by kernel_rfl) (by kernel_rfl) ?_
              refine RL.nil (by kernel_rfl) ?_
              obtain rfl := Option.some.inj H
              refine QN.sub (K' := [(4, .bool false)]) (L' := [⟨nx0, [.slice Ap0_0 a0.f0.length cp0_0, .int .u8 a0.f1, .int .i64 a0.f2.f0, .int .i64 a0.f2.f1], 26⟩, ⟨nx2, [.int .i64 t2.2.2.f0, .int .i64 t2.2.2.f1], 24⟩]) (by kernel_rfl) (.cons_cons _ (.cons_cons _ .slnil)) (.refl _) ?_
              exact hJ1 _ _ _ _ _ ⟨false, rfl, rfl, rfl, (Imm.le_refl _), HK1⟩
          · have hc := (Bool.eq_false_iff.1 hb)
            refine RL.norm (K' := [(73, .bool true), (70, .bool true), (17, .bool t7.2), (16, .int .u32 t7.1), (14, .int .u32 t6.1), (5, .bool t1)]) (L' := [⟨nx0, [.slice Ap0_0 a0.f0.length cp0_0, .int .u8 a0.f1, .int .i64 a0.f2.f0, .int .i64 a0.f2.f1], 26⟩, ⟨nx2, [.int .i64 t2.2.2.f0, .int .i64 t2.2.2.f1], 24⟩]) (by rw [hb]; try rfl) rfl (by first | rfl | (rw [hb]; try rfl)) rfl ?_
            rw [if_neg hc] at H; clear hb
            refine RL.simP (K' := [(4, .bool t1)]) (nx' := nx9) (L' := [⟨nx0, [.slice Ap0_0 a0.f0.length cp0_0, .int .u8 a0.f1, .int .i64 a0.f2.f0, .int .i64 a0.f2.f1], 26⟩, ⟨nx2, [.int .i64 t2.2.2.f0, .int .i64 t2.2.2.f1], 24⟩]) [] (RFacts.nil _ _ _) 12 [.no, .no, .no, .no, .no, .no, .no, .no, .no, .no, .no, .no] (by kernel_rfl) (by kernel_rfl) ?_
            refine RL.nil (by kernel_rfl) ?_
            obtain rfl := Option.some.inj H
            refine QN.sub (K' := [(4, .bool t1)]) (L' := [⟨nx0, [.slice Ap0_0 a0.f0.length cp0_0, .int .u8 a0.f1, .int .i64 a0.f2.f0, .int .i64 a0.f2.f1], 26⟩, ⟨nx2, [.int .i64 t2.2.2.f0, .int .i64 t2.2.2.f1], 24⟩]) (by kernel_rfl) (.cons_cons _ (.cons_cons _ .slnil)) (.refl _) ?_
            exact hJ1 _ _ _ _ _ ⟨t1, rfl, rfl, rfl, (Imm.le_refl _), HK1⟩
        · have hc := (beq_eq_false_iff_ne.1 hb)
          refine RL.norm (K' := [(70, .bool false), (17, .bool t7.2), (16, .int .u32 t7.1), (15, .bool t6.2), (14, .int .u32 t6.1), (5, .bool t1)]) (L' := [⟨nx0, [.slice Ap0_0 a0.f0.length cp0_0, .int .u8 a0.f1, .int .i64 a0.f2.f0, .int .i64 a0.f2.f1], 26⟩, ⟨nx2, [.int .i64 t2.2.2.f0, .int .i64 t2.2.2.f1], 24⟩]) (by rw [hb]; try rfl) rfl (by first | rfl | (rw [hb]; try rfl)) rfl ?_
          rw [if_neg hc] at H; clear hb
          refine RL.simP (K' := [(4, .bool false)]) (nx' := nx9) (L' := [⟨nx0, [.slice Ap0_0 a0.f0.length cp0_0, .int .u8 a0.f1, .int .i64 a0.f2.f0, .int .i64 a0.f2.f1], 26⟩, ⟨nx2, [.int .i64 t2.2.2.f0, .int .i64 t2.2.2.f1], 24⟩]) [] (RFacts.nil _ _ _) 15 [.no, .no, .no, .no, .no, .no, .no, .no, .no, .no, .no, .no, .no, .no, .no] (by kernel_rfl) (by kernel_rfl) ?_
          refine RL.nil (by kernel_rfl) ?_
          obtain rfl := Option.some.inj H
          refine QN.sub (K' := [(4, .bool false)]) (L' := [⟨nx0, [.slice Ap0_0 a0.f0.length cp0_0, .int .u8 a0.f1, .int .i64 a0.f2.f0, .int .i64 a0.f2.f1], 26⟩, ⟨nx2, [.int .i64 t2.2.2.f0, .int .i64 t2.2.2.f1], 24⟩]) (by kernel_rfl) (.cons_cons _ (.cons_cons _ .slnil)) (.refl _) ?_
          exact hJ1 _ _ _ _ _ ⟨false, rfl, rfl, rfl, (Imm.le_refl _), HK1⟩
      · have hc := (Bool.eq_false_iff.1 hb)
        refine RL.norm (K' := [(64, .bool false), (62, .bool false), (17, .bool t7.2), (16, .int .u32 t7.1), (15, .bool t6.2), (14, .int .u32 t6.1), (12, .int .u32 t5.1), (10, .int .u32 t4.1), (5, .bool t1)]) (L' := [⟨nx0, [.slice Ap0_0 a0.f0.length cp0_0, .int .u8 a0.f1, .int .i64 a0.f2.f0, .int .i64 a0.f2.f1], 26⟩, ⟨nx2, [.int .i64 t2.2.2.f0, .int .i64 t2.2.2.f1], 24⟩]) (by rw [hb]; try rfl) rfl (by first | rfl | (rw [hb]; try rfl)) rfl ?_
        rw [if_neg hc] at H; clear hb
        refine RL.simP (K' := [(4, .bool false)]) (nx' := nx9) (L' := [⟨nx0, [.slice Ap0_0 a0.f0.length cp0_0, .int .u8 a0.f1, .int .i64 a0.f2.f0, .int .i64 a0.f2.f1], 26⟩, ⟨nx2, [.int .i64 t2.2.2.f0, .int .i64 t2.2.2.f1], 24⟩]) [] (RFacts.nil _ _ _) 21 [.no, .no, .no, .no, .no, .no, .no, .no, .no, .no, .no, .no, .no, .no, .no, .no, .no, .no, .no, .no, .no] (by kernel_rfl) (by kernel_rfl) ?_
        refine RL.nil (by kernel_rfl) ?_
        obtain rfl := Option.some.inj H
        refine QN.sub (K' := [(4, .bool false)]) (L' := [⟨nx0, [.slice Ap0_0 a0.f0.length cp0_0, .int .u8 a0.f1, .int .i64 a0.f2.f0, .int .i64 a0.f2.f1], 26⟩, ⟨nx2, [.int .i64 t2.2.2.f0, .int .i64 t2.2.2.f1], 24⟩]) (by kernel_rfl) (.cons_cons _ (.cons_cons _ .slnil)) (.refl _) ?_
        exact hJ1 _ _ _ _ _ ⟨false, rfl, rfl, rfl, (Imm.le_refl _), HK1⟩
    · have hc := (Bool.eq_false_iff.1 hb)
      refine RL.norm (K' := [(62, .bool true), (17, .bool t7.2), (16, .int .u32 t7.1), (15, .bool t6.2), (14, .int .u32 t6.1), (13, .bool t5.2), (12, .int .u32 t5.1), (10, .int .u32 t4.1), (5, .bool t1)]) (L' := [⟨nx0, [.slice Ap0_0 a0.f0.length cp0_0, .int .u8 a0.f1, .int .i64 a0.f2.f0, .int .i64 a0.f2.f1], 26⟩, ⟨nx2, [.int .i64 t2.2.2.f0, .int .i64 t2.2.2.f1], 24⟩]) (by rw [hb]; try rfl) rfl (by first | rfl | (rw [hb]; try rfl)) rfl ?_
      rw [if_neg hc] at H; clear hb
      refine RL.simP (K' := [(73, .bool (!t6.2)), (70, .bool true), (17, .bool t7.2), (16, .int .u32 t7.1), (14, .int .u32 t6.1), (5, .bool t1)]) (nx' := nx9) (L' := [⟨nx0, [.slice Ap0_0 a0.f0.length cp0_0, .int .u8 a0.f1, .int .i64 a0.f2.f0, .int .i64 a0.f2.f1], 26⟩, ⟨nx2, [.int .i64 t2.2.2.f0, .int .i64 t2.2.2.f1], 24⟩]) [] (RFacts.nil _ _ _) 11 [.no, .no, .no, .no, .no, .no, .no, .no, .no, .no, .no] (by kernel_rfl) (by kernel_rfl) ?_
      refine RL.cases t6.2 (fun hb => ?_) (fun hb => ?_)
      · have hc := hb
        refine RL.norm (K' := [(73, .bool false), (70, .bool true), (17, .bool t7.2), (16, .int .u32 t7.1), (14, .int .u32 t6.1), (5, .bool t1)]) (L' := [⟨nx0, [.slice Ap0_0 a0.f0.length cp0_0, .int .u8 a0.f1, .int .i64 a0.f2.f0, .int .i64 a0.f2.f1], 26⟩, ⟨nx2, [.int .i64 t2.2.2.f0, .int .i64 t2.2.2.f1], 24⟩]) (by rw [hb]; try rfl) rfl (by first | rfl | (rw [hb]; try rfl)) rfl ?_
        rw [if_pos hc] at H; clear hb
        refine RL.simP (K' := [(75, .bool t7.2), (73, .bool false), (70, .bool true), (16, .int .u32 t7.1), (14, .int .u32 t6.1), (5, .bool t1)]) (nx' := nx9) (L' := [⟨nx0, [.slice Ap0_0 a0.f0.length cp0_0, .int .u8 a0.f1, .int .i64 a0.f2.f0, .int .i64 a0.f2.f1], 26⟩, ⟨nx2, [.int .i64 t2.2.2.f0, .int .i64 t2.2.2.f1], 24⟩]) [] (RFacts.nil _ _ _) 2 [.no, .no] (by kernel_rfl) (by kernel_rfl) ?_
        refine RL.cases t7.2 (fun hb => ?_) (fun hb => ?_)
        · have hc := hb
          refine RL.norm (K' := [(75, .bool true), (73, .bool false), (70, .bool true), (16, .int .u32 t7.1), (14, .int .u32 t6.1), (5, .bool t1)]) (L' := [⟨nx0, [.slice Ap0_0 a0.f0.length cp0_0, .int .u8 a0.f1, .int .i64 a0.f2.f0, .int .i64 a0.f2.f1], 26⟩, ⟨nx2, [.int .i64 t2.2.2.f0, .int .i64 t2.2.2.f1], 24⟩]) (by rw [hb]; try rfl) rfl (by first | rfl | (rw [hb]; try rfl)) rfl ?_
          rw [if_pos hc] at H; clear hb
          refine RL.simP (K' := [(82, .bool (t6.1 == t7.1)), (5, .bool t1)]) (nx' := nx9) (L' := [⟨nx0, [.slice Ap0_0 a0.f0.length cp0_0, .int .u8 a0.f1, .int .i64 a0.f2.f0, .int .i64 a0.f2.f1], 26⟩, ⟨nx2, [.int .i64 t2.2.2.f0, .int .i64 t2.2.2.f1], 24⟩]) [] (RFacts.nil _ _ _) 7 [.no, .no, .no, .no, .no, .no, .no] (by kernel_rfl) (by kernel_rfl) ?_
          refine RL.cases (t6.1 == t7.1) (fun hb => ?_) (fun hb => ?_)
          · have hc := (beq_iff_eq.1 hb)
            refine RL.norm (K' := [(82, .bool true), (5, .bool t1)]) (L' := [⟨nx0, [.slice Ap0_0 a0.f0.length cp0_0, .int .u8 a0.f1, .int .i64 a0.f2.f0, .int .i64 a0.f2.f1], 26⟩, ⟨nx2, [.int .i64 t2.2.2.f0, .int .i64 t2.2.2.f1], 24⟩]) (by rw [hb]; try rfl) rfl (by first | rfl | (rw [hb]; try rfl)) rfl ?_
            rw [if_pos hc] at H; clear hb
            refine RL.simP (K' := [(4, .bool t1)]) (nx' := nx9) (L' := [⟨nx0, [.slice Ap0_0 a0.f0.length cp0_0, .int .u8 a0.f1, .int .i64 a0.f2.f0, .int .i64 a0.f2.f1], 26⟩, ⟨nx2, [.int .i64 t2.2.2.f0, .int .i64 t2.2.2.f1], 24⟩]) [] (RFacts.nil _ _ _) 3 [.no, .no, .no] (by kernel_rfl) (by kernel_rfl) ?_
            refine RL.nil (by kernel_rfl) ?_
            obtain rfl := Option.some.inj H
            refine QN.sub (K' := [(4, .bool t1)]) (L' := [⟨nx0, [.slice Ap0_0 a0.f0.length cp0_0, .int .u8 a0.f1, .int .i64 a0.f2.f0, .int .i64 a0.f2.f1], 26⟩, ⟨nx2, [.int .i64 t2.2.2.f0, .int .i64 t2.2.2.f1], 24⟩]) (by kernel_rfl) (.cons_cons _ (.cons_cons _ .slnil)) (.refl _) ?_
            exact hJ1 _ _ _ _ _ ⟨t1, rfl, rfl, rfl, (Imm.le_refl _), HK1⟩
          · have hc := (beq_eq_false_iff_ne.1 hb)
            refine RL.norm (K' := [(82, .bool false), (5, .bool t1)]) (L' := [⟨nx0, [.slice Ap0_0 a0.f0.length cp0_0, .int .u8 a0.f1, .int .i64 a0.f2.f0, .int .i64 a0.f2.f1], 26⟩, ⟨nx2, [.int .i64 t2.2.2.f0, .int .i64 t2.2.2.f1], 24⟩]) (by rw [hb]; try rfl) rfl (by first | rfl | (rw [hb]; try rfl)) rfl ?_
            rw [if_neg hc] at H; clear hb
            refine RL.simP (K' := [(4, .bool false)]) (nx' := nx9) (L' := [⟨nx0, [.slice Ap0_0 a0.f0.length cp0_0, .int .u8 a0.f1, .int .i64 a0.f2.f0, .int .i64 a0.f2.f1], 26⟩, ⟨nx2, [.int .i64 t2.2.2.f0, .int .i64 t2.2.2.f1], 24⟩]) [] (RFacts.nil _ _ _) 3 [.no, .no, .no] (by kernel_rfl) (by kernel_rfl) ?_
            refine RL.nil (by kernel_rfl) ?_
            obtain rfl := Option.some.inj H
            refine QN.sub (K' := [(4, .bool false)]) (L' := [⟨nx0, [.slice Ap0_0 a0.f0.length cp0_0, .int .u8 a0.f1, .int .i64 a0.f2.f0, .int .i64 a0.f2.f1], 26⟩, ⟨nx2, [.int .i64 t2.2.2.f0, .int .i64 t2.2.2.f1], 24⟩]) (by kernel_rfl) (.cons_cons _ (.cons_cons _ .slnil)) (.refl _) ?_
            exact hJ1 _ _ _ _ _ ⟨false, rfl, rfl, rfl, (Imm.le_refl _), HK1⟩
        · have hc := (Bool.eq_false_iff.1 hb)
          refine RL.norm (K' := [(75, .bool false), (73, .bool false), (70, .bool true), (16, .int .u32 t7.1), (14, .int .u32 t6.1), (5, .bool t1)]) (L' := [⟨nx0, [.slice Ap0_0 a0.f0.length cp0_0, .int .u8 a0.f1, .int .i64 a0.f2.f0, .int .i64 a0.f2.f1], 26⟩, ⟨nx2, [.int .i64 t2.2.2.f0, .int .i64 t2.2.2.f1], 24⟩]) (by rw [hb]; try rfl) rfl (by first | rfl | (rw [hb]; try rfl)) rfl ?_
          rw [if_neg hc] at H; clear hb
          refine RL.simP (K' := [(4, .bool false)]) (nx' := nx9) (L' := [⟨nx0, [.slice Ap0_0 a0.f0.length cp0_0, .int .u8 a0.f1, .int .i64 a0.f2.f0, .int .i64 a0.f2.f1], 26⟩, ⟨nx2, [.int .i64 t2.2.2.f0, .int .i64 t2.2.2.f1], 24⟩]) [] (RFacts.nil _ _ _) 10 [.no, .no, .no, .no, .no, .no, .no, .no, .no, .no] (by kernel_rfl) (by kernel_rfl) ?_
          refine RL.nil (by kernel_rfl) ?_
          obtain rfl := Option.some.inj H
          refine QN.sub (K' := [(4, .bool false)]) (L' := [⟨nx0, [.slice Ap0_0 a0.f0.length cp0_0, .int .u8 a0.f1, .int .i64 a0.f2.f0, .int .i64 a0.f2.f1], 26⟩, ⟨nx2, [.int .i64 t2.2.2.f0, .int .i64 t2.2.2.f1], 24⟩]) (by kernel_rfl) (.cons_cons _ (.cons_cons _ .slnil)) (.refl _) ?_
          exact hJ1 _ _ _ _ _ ⟨false, rfl, rfl, rfl, (Imm.le_refl _), HK1⟩
      · have hc := (Bool.eq_false_iff.1 hb)
        refine RL.norm (K' := [(73, .bool true), (70, .bool true), (17, .bool t7.2), (16, .int .u32 t7.1), (14, .int .u32 t6.1), (5, .bool t1)]) (L' := [⟨nx0, [.slice Ap0_0 a0.f0.length cp0_0, .int .u8 a0.f1, .int .i64 a0.f2.f0, .int .i64 a0.f2.f1], 26⟩, ⟨nx2, [.int .i64 t2.2.2.f0, .int .i64 t2.2.2.f1], 24⟩]) (by rw [hb]; try rfl) rfl (by first | rfl | (rw [hb]; try rfl)) rfl ?_
        rw [if_neg hc] at H; clear hb
        refine RL.simP (K' := [(4, .bool t1)]) (nx' := nx9) (L' := [⟨nx0, [.slice Ap0_0 a0.f0.length cp0_0, .int .u8 a0.f1, .int .i64 a0.f2.f0, .int .i64 a0.f2.f1], 26⟩, ⟨nx2, [.int .i64 t2.2.2.f0, .int .i64 t2.2.2.f1], 24⟩]) [] (RFacts.nil _ _ _) 12 [.no, .no, .no, .no, .no, .no, .no, .no, .no, .no, .no, .no] (by kernel_rfl) (by kernel_rfl) ?_
        refine RL.nil (by kernel_rfl) ?_
        obtain rfl := Option.some.inj H
        refine QN.sub (K' := [(4, .bool t1)]) (L' := [⟨nx0, [.slice Ap0_0 a0.f0.length cp0_0, .int .u8 a0.f1, .int .i64 a0.f2.f0, .int .i64 a0.f2.f1], 26⟩, ⟨nx2, [.int .i64 t2.2.2.f0, .int .i64 t2.2.2.f1], 24⟩]) (by kernel_rfl) (.cons_cons _ (.cons_cons _ .slnil)) (.refl _) ?_
        exact hJ1 _ _ _ _ _ ⟨t1, rfl, rfl, rfl, (Imm.le_refl _), HK1⟩

end Go.Proofs.Ytieakigoinebdaa
