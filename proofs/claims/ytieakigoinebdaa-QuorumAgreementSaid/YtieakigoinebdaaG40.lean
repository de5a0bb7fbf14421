/- What a function of the program computes, and the walk that shows it; made by a program of the session's out of the translation; no conditions beyond those that the theorems name. -/
import Derived.Test.YtieakigoinebdaaS
import Derived.Test.YtieakigoinebdaaG47
import Derived.Test.YtieakigoinebdaaG48
namespace Go.Proofs.Ytieakigoinebdaa
open Go Go.Proofs.Ytieakigoinebdaa.RW
set_option linter.unusedVariables false
set_option maxRecDepth 100000
set_option maxHeartbeats 8000000

/-! ### armillaryref27_EncodeEntry: function 40, armillary/armillaryref27.EncodeEntry -/
noncomputable def K40_0 : Code := cBody Try.f40
noncomputable def K40_1 : Code := cL K40_0
noncomputable def O40_1 : List Oper := cOps K40_1
noncomputable def K40_3 : Code := cR K40_0
noncomputable def K40_4 : Code := cL K40_3
noncomputable def K40_5 : Code := cL K40_4
noncomputable def O40_5 : List Oper := cOps K40_5
noncomputable def K40_7 : Code := cR K40_4
noncomputable def K40_8 : Code := cL K40_7
noncomputable def K40_9 : Code := cL K40_8
noncomputable def O40_9 : List Oper := cOps K40_9
noncomputable def K40_11 : Code := cR K40_8
noncomputable def K40_12 : Code := cR K40_7
noncomputable def K40_13 : Code := cR K40_3
noncomputable def K40_14 : Code := cL K40_13
noncomputable def O40_14 : List Oper := cOps K40_14
noncomputable def K40_16 : Code := cR K40_13
noncomputable def K40_17 : Code := cL K40_16
noncomputable def O40_17 : List Oper := cOps K40_17
noncomputable def K40_19 : Code := cR K40_16
noncomputable def K40_20 : Code := cL K40_19
noncomputable def O40_20 : List Oper := cOps K40_20
noncomputable def K40_22 : Code := cR K40_19
noncomputable def K40_23 : Code := cL K40_22
noncomputable def O40_23 : List Oper := cOps K40_23
noncomputable def K40_25 : Code := cR K40_22
noncomputable def K40_26 : Code := cL K40_25
noncomputable def O40_26 : List Oper := cOps K40_26
noncomputable def K40_28 : Code := cR K40_25
def armillaryref27_EncodeEntry.f (k : Nat) (a0 : S30) : Option (List Int × Int) := ((armillaryref27_ValidEntry.f a0).bind fun t1 => (if t1 = true then ((armillaryref27_AppendVarint.f k [] a0.f0).bind fun t2 => ((armillaryref27_AppendVarint.f k t2 (a0.f1.size : Int)).bind fun t3 => (if a0.f1.size ≤ 9223372036854775807 then (if (t3.length + (bytesOf a0.f1).length) * 1 ≤ 140737488355328 then ((armillaryref27_AppendVarint.f k (t3 ++ (bytesOf a0.f1)) (a0.f2.length : Int)).bind fun t4 => (if (t4.length + a0.f2.length) * 1 ≤ 140737488355328 then (some ((t4 ++ a0.f2), 0)) else none)) else none) else none))) else (some ([], 1))))
def armillaryref27_EncodeEntry.Post (I : Imm) (w : World) (r : List Int × Int) (v : Value) (w' : World) : Prop :=
  ∃ (J : Imm) (A0 : Option Addr) (c0 : Nat) (cs0 : List Value), v = .tuple #[.slice A0 r.1.length c0, .int .i64 r.2] ∧ Got w w' I J [orow 5 1 A0 r.1.length c0 cs0] ∧ Reps (Ty.int .u8) J r.1 cs0
theorem armillaryref27_EncodeEntry.calls (k : Nat) (I0 : Imm) (a0 : S30) (Ap0_2 : Option Addr) (cp0_2 : Nat) (w : World) (hI : I0.at_ w) (hlp0_2 : a0.f2.length ≤ cp0_2) (hrp0_2 : Rd (Ty.int .u8) I0 Ap0_2 a0.f2) (r : List Int × Int) (h : armillaryref27_EncodeEntry.f k a0 = some r) :
    Calls Try.prog 40 [.agg #[.int .i64 a0.f0, .string a0.f1, .slice Ap0_2 a0.f2.length cp0_2]].toArray w fun e w' => ∃ v, e = .returned v ∧ armillaryref27_EncodeEntry.Post I0 w r v w' := by
  have H : ((armillaryref27_ValidEntry.f a0).bind fun t1 => (if t1 = true then ((armillaryref27_AppendVarint.f k [] a0.f0).bind fun t2 => ((armillaryref27_AppendVarint.f k t2 (a0.f1.size : Int)).bind fun t3 => (if a0.f1.size ≤ 9223372036854775807 then (if (t3.length + (bytesOf a0.f1).length) * 1 ≤ 140737488355328 then ((armillaryref27_AppendVarint.f k (t3 ++ (bytesOf a0.f1)) (a0.f2.length : Int)).bind fun t4 => (if (t4.length + a0.f2.length) * 1 ≤ 140737488355328 then (some ((t4 ++ a0.f2), 0)) else none)) else none) else none))) else (some ([], 1)))) = some r := h
  clear h
  refine calls_body Try.func40 (by kernel_rfl) 30 (by kernel_rfl) (by kernel_rfl) ⟨w, fun _ => False, I0⟩ I0 [] [(0, .agg #[.int .i64 a0.f0, .string a0.f1, .slice Ap0_2 a0.f2.length cp0_2])] (by kernel_rfl) (Sat.start w _ I0 hI) ?_
  generalize w.heap.size = nx0
  show OK _ K40_0 _ _ _ _ _ _ _ _
  refine OK.seq K40_1 K40_3 (by kernel_rfl) ?_
  refine OK.region 0 O40_1 (by kernel_rfl) ?_
  refine RL.simP (K' := [(1, .pointer (some ⟨nx0, 0, none⟩))]) (nx' := nx0 + 1) (L' := [⟨nx0, [.int .i64 a0.f0, .string a0.f1, .slice Ap0_2 a0.f2.length cp0_2], 30⟩]) [] (RFacts.nil _ _ _) 3 [.no, .no, .no] (by kernel_rfl) (by kernel_rfl) ?_
  refine RL.nil (by kernel_rfl) ?_
  refine QN.then_ ?_
  refine OK.seq K40_4 K40_13 (by kernel_rfl) ?_
  refine OK.seq K40_5 K40_7 (by kernel_rfl) ?_
  refine OK.region 1 O40_5 (by kernel_rfl) ?_
  refine RL.simP (K' := [(5, .agg #[.int .i64 a0.f0, .string a0.f1, .slice Ap0_2 a0.f2.length cp0_2]), (1, .pointer (some ⟨nx0, 0, none⟩))]) (nx' := nx0 + 1) (L' := [⟨nx0, [.int .i64 a0.f0, .string a0.f1, .slice Ap0_2 a0.f2.length cp0_2], 30⟩]) [] (RFacts.nil _ _ _) 1 [.l 0] (by kernel_rfl) (by kernel_rfl) ?_
  obtain ⟨t1, hA1, H⟩ := Option.bind_eq_some_iff.mp H
  refine RL.callP 47 [.agg #[.int .i64 a0.f0, .string a0.f1, .slice Ap0_2 a0.f2.length cp0_2]] (some 6) (fun w => armillaryref27_ValidEntry.Post I0 w t1) (by kernel_rfl) (by kernel_rfl) (fun w hs => armillaryref27_ValidEntry.calls I0 a0 Ap0_2 cp0_2 w hs.im hlp0_2 hrp0_2 t1 hA1) ?_
  rintro w v w' hs ⟨I1, rfl, hg⟩
  have hi1 := hg.le
  refine RL.resume (K' := [(6, .bool t1), (5, .agg #[.int .i64 a0.f0, .string a0.f1, .slice Ap0_2 a0.f2.length cp0_2]), (1, .pointer (some ⟨nx0, 0, none⟩))]) (X' := []) (by kernel_rfl) (hs.call hg) ?_
  clear hs hg
  generalize w'.heap.size = nx1
  clear w w'
  refine RL.simP (K' := [(7, .bool (!t1)), (1, .pointer (some ⟨nx0, 0, none⟩))]) (nx' := nx1) (L' := [⟨nx0, [.int .i64 a0.f0, .string a0.f1, .slice Ap0_2 a0.f2.length cp0_2], 30⟩]) [] (RFacts.nil _ _ _) 1 [.no] (by kernel_rfl) (by kernel_rfl) ?_
  refine RL.nil (by kernel_rfl) ?_
  refine QN.then_ ?_
  refine OK.cond (.tmp 7) K40_8 K40_12 (!t1) (by kernel_rfl) (by kernel_rfl) (by kernel_rfl) (fun hb => ?_) (fun hb => ?_)
  · have hb : t1 = false := by simpa using hb
    have hc := (Bool.eq_false_iff.1 hb)
    rw [if_neg hc] at H
    clear hb
    refine OK.seq K40_9 K40_11 (by kernel_rfl) ?_
    refine OK.region 2 O40_9 (by kernel_rfl) ?_
    refine RL.simP (K' := [(3, .int .i64 1), (2, .slice none 0 0)]) (nx' := nx1) (L' := [⟨nx0, [.int .i64 a0.f0, .string a0.f1, .slice Ap0_2 a0.f2.length cp0_2], 30⟩]) [] (RFacts.nil _ _ _) 2 [.no, .no] (by kernel_rfl) (by kernel_rfl) ?_
    refine RL.nil (by kernel_rfl) ?_
    refine QN.then_ ?_
    refine OK.ret (by kernel_rfl) ?_
    refine QN.thenR ?_
    obtain rfl := Option.some.inj H
    refine QN.body rfl [] (RFacts.nil _ _ _) (.no) (.tuple #[.slice none 0 0, .int .i64 1]) (by kernel_rfl) (by kernel_rfl) (by kernel_rfl) ?_ _ (.inr rfl)
    exact fun w' hs' => ⟨_, rfl, I1, none, 0, [], rfl, gotNil1 (hs'.got [] (List.nil_sublist _)), rfl⟩
  · have hb : t1 = true := by simpa using hb
    have hc := hb
    rw [if_pos hc] at H
    clear hb
    refine OK.skip (by kernel_rfl) ?_
    refine QN.then_ ?_
    refine OK.seq K40_14 K40_16 (by kernel_rfl) ?_
    refine OK.region 3 O40_14 (by kernel_rfl) ?_
    refine RL.simP (K' := [(9, .int .i64 a0.f0), (1, .pointer (some ⟨nx0, 0, none⟩))]) (nx' := nx1) (L' := [⟨nx0, [.int .i64 a0.f0, .string a0.f1, .slice Ap0_2 a0.f2.length cp0_2], 30⟩]) [] (RFacts.nil _ _ _) 2 [.no, .l 0] (by kernel_rfl) (by kernel_rfl) ?_
    obtain ⟨t2, hA2, H⟩ := Option.bind_eq_some_iff.mp H
    refine RL.callP 48 [.slice none 0 0, .int .i64 a0.f0] (some 10) (fun w => armillaryref27_AppendVarint.Post I1 w t2) (by kernel_rfl) (by kernel_rfl) (fun w hs => armillaryref27_AppendVarint.calls k I1 [] none 0 a0.f0 w hs.im (Nat.le_refl _) (Rd.nil _ _ _) t2 hA2) ?_
    rintro w v w' hs ⟨I2, A1, c1, cs1, rfl, hg, hp1⟩
    have hi2 := hg.le
    refine RL.resume (K' := [(10, .slice A1 t2.length c1), (9, .int .i64 a0.f0), (1, .pointer (some ⟨nx0, 0, none⟩))]) (X' := [orow 5 1 A1 t2.length c1 cs1]) (by kernel_rfl) (hs.call hg) ?_
    clear hs hg
    generalize w'.heap.size = nx2
    clear w w'
    refine RL.simP (K' := [(4, .slice A1 t2.length c1), (1, .pointer (some ⟨nx0, 0, none⟩))]) (nx' := nx2) (L' := [⟨nx0, [.int .i64 a0.f0, .string a0.f1, .slice Ap0_2 a0.f2.length cp0_2], 30⟩]) [] (RFacts.nil _ _ _) 1 [.no] (by kernel_rfl) (by kernel_rfl) ?_
    refine RL.nil (by kernel_rfl) ?_
    refine QN.then_ ?_
    refine OK.seq K40_17 K40_19 (by kernel_rfl) ?_
    refine OK.region 4 O40_17 (by kernel_rfl) ?_
    refine RL.simP (K' := [(14, .int .i64 (a0.f1.size : Int)), (11, .slice A1 t2.length c1), (4, .slice A1 t2.length c1), (1, .pointer (some ⟨nx0, 0, none⟩))]) (nx' := nx2) (L' := [⟨nx0, [.int .i64 a0.f0, .string a0.f1, .slice Ap0_2 a0.f2.length cp0_2], 30⟩]) [] (RFacts.nil _ _ _) 4 [.no, .no, .l 0, .no] (by kernel_rfl) (by kernel_rfl) ?_
    refine RL.freeze (e := 5) (sz := 1) (S := A1) (n := t2.length) (cap := c1) 0 (by kernel_rfl) hp1 rfl (fun _ h => h.elim) (fun I3 hi3 hl1 hr1 => ?_)
    skip
    obtain ⟨t3, hA3, H⟩ := Option.bind_eq_some_iff.mp H
    refine RL.callP 48 [.slice A1 t2.length c1, .int .i64 (a0.f1.size : Int)] (some 15) (fun w => armillaryref27_AppendVarint.Post I3 w t3) (by kernel_rfl) (by kernel_rfl) (fun w hs => armillaryref27_AppendVarint.calls k I3 t2 A1 c1 (a0.f1.size : Int) w hs.im hl1 hr1 t3 hA3) ?_
    rintro w v w' hs ⟨I4, A2, c2, cs2, rfl, hg, hp2⟩
    have hi4 := hg.le
    refine RL.resume (K' := [(15, .slice A2 t3.length c2), (14, .int .i64 (a0.f1.size : Int)), (11, .slice A1 t2.length c1), (4, .slice A1 t2.length c1), (1, .pointer (some ⟨nx0, 0, none⟩))]) (X' := [orow 5 1 A2 t3.length c2 cs2]) (by kernel_rfl) (hs.call hg) ?_
    clear hs hg
    generalize w'.heap.size = nx3
    clear w w'
    refine RL.simP (K' := [(4, .slice A2 t3.length c2), (1, .pointer (some ⟨nx0, 0, none⟩))]) (nx' := nx3) (L' := [⟨nx0, [.int .i64 a0.f0, .string a0.f1, .slice Ap0_2 a0.f2.length cp0_2], 30⟩]) [] (RFacts.nil _ _ _) 1 [.no] (by kernel_rfl) (by kernel_rfl) ?_
    refine RL.nil (by kernel_rfl) ?_
    refine QN.then_ ?_
    refine OK.seq K40_20 K40_22 (by kernel_rfl) ?_
    refine OK.region 5 O40_20 (by kernel_rfl) ?_
    refine RL.simP (K' := [(18, .string a0.f1), (16, .slice A2 t3.length c2), (4, .slice A2 t3.length c2), (1, .pointer (some ⟨nx0, 0, none⟩))]) (nx' := nx3) (L' := [⟨nx0, [.int .i64 a0.f0, .string a0.f1, .slice Ap0_2 a0.f2.length cp0_2], 30⟩]) [] (RFacts.nil _ _ _) 3 [.no, .no, .l 0] (by kernel_rfl) (by kernel_rfl) ?_
    by_cases hz1 : a0.f1.size ≤ 9223372036854775807
    case neg => rw [if_neg hz1] at H; cases H
    rw [if_pos hz1] at H
    refine RL.toBytes (src := 9) (dst := 28) (e := 5) a0.f1 .string (some 19) (by kernel_rfl) (by kernel_rfl) (by kernel_rfl) (by kernel_rfl) (by kernel_rfl) hz1 (fun I5 c3 nx4 hi5 hl2 hr2 => ?_)
    refine RL.norm (K' := [(19, .slice (some ⟨nx3, 0, none⟩) ((bytesOf a0.f1).length) c3), (18, .string a0.f1), (16, .slice A2 t3.length c2), (4, .slice A2 t3.length c2), (1, .pointer (some ⟨nx0, 0, none⟩))]) (by kernel_rfl) rfl rfl rfl ?_
    by_cases hz2 : (t3.length + (bytesOf a0.f1).length) * 1 ≤ 140737488355328
    case neg => rw [if_neg hz2] at H; cases H
    rw [if_pos hz2] at H
    refine RL.appendR (T := 28) (e := 5) (S := A2) (S2 := (some ⟨nx3, 0, none⟩)) 1 1 28 c2 c3 cs2 (Ty.int .u8) t3 (bytesOf a0.f1) 0 (some 20) (by kernel_rfl) (by kernel_rfl) (by kernel_rfl) (by kernel_rfl) (by kernel_rfl) (by decide) (by kernel_rfl) (Reps.ext hi5 hp2) hr2 hz2 (by omega) (fun A3 c4 nx5 cs3 hp3 => ?_)
    refine RL.sub (K' := [(20, .slice A3 ((t3 ++ (bytesOf a0.f1)).length) c4), (19, .slice (some ⟨nx3, 0, none⟩) ((bytesOf a0.f1).length) c3), (18, .string a0.f1), (1, .pointer (some ⟨nx0, 0, none⟩))]) (L' := [⟨nx0, [.int .i64 a0.f0, .string a0.f1, .slice Ap0_2 a0.f2.length cp0_2], 30⟩]) (X' := [orow 5 1 A3 ((t3 ++ (bytesOf a0.f1)).length) c4 cs3]) (by kernel_rfl) (.refl _) (.refl _) ?_
    refine RL.simP (K' := [(4, .slice A3 ((t3 ++ (bytesOf a0.f1)).length) c4), (1, .pointer (some ⟨nx0, 0, none⟩))]) (nx' := nx5) (L' := [⟨nx0, [.int .i64 a0.f0, .string a0.f1, .slice Ap0_2 a0.f2.length cp0_2], 30⟩]) [] (RFacts.nil _ _ _) 1 [.no] (by kernel_rfl) (by kernel_rfl) ?_
    refine RL.nil (by kernel_rfl) ?_
    refine QN.then_ ?_
    refine OK.seq K40_23 K40_25 (by kernel_rfl) ?_
    refine OK.region 6 O40_23 (by kernel_rfl) ?_
    refine RL.simP (K' := [(24, .int .i64 (a0.f2.length : Int)), (21, .slice A3 ((t3 ++ (bytesOf a0.f1)).length) c4), (4, .slice A3 ((t3 ++ (bytesOf a0.f1)).length) c4), (1, .pointer (some ⟨nx0, 0, none⟩))]) (nx' := nx5) (L' := [⟨nx0, [.int .i64 a0.f0, .string a0.f1, .slice Ap0_2 a0.f2.length cp0_2], 30⟩]) [] (RFacts.nil _ _ _) 4 [.no, .no, .l 0, .no] (by kernel_rfl) (by kernel_rfl) ?_
    refine RL.freeze (e := 5) (sz := 1) (S := A3) (n := (t3 ++ (bytesOf a0.f1)).length) (cap := c4) 0 (by kernel_rfl) hp3 rfl (fun _ h => h.elim) (fun I6 hi6 hl3 hr3 => ?_)
    skip
    obtain ⟨t4, hA4, H⟩ := Option.bind_eq_some_iff.mp H
    refine RL.callP 48 [.slice A3 ((t3 ++ (bytesOf a0.f1)).length) c4, .int .i64 (a0.f2.length : Int)] (some 25) (fun w => armillaryref27_AppendVarint.Post I6 w t4) (by kernel_rfl) (by kernel_rfl) (fun w hs => armillaryref27_AppendVarint.calls k I6 (t3 ++ (bytesOf a0.f1)) A3 c4 (a0.f2.length : Int) w hs.im hl3 hr3 t4 hA4) ?_
    rintro w v w' hs ⟨I7, A4, c5, cs4, rfl, hg, hp4⟩
    have hi7 := hg.le
    refine RL.resume (K' := [(25, .slice A4 t4.length c5), (24, .int .i64 (a0.f2.length : Int)), (21, .slice A3 ((t3 ++ (bytesOf a0.f1)).length) c4), (4, .slice A3 ((t3 ++ (bytesOf a0.f1)).length) c4), (1, .pointer (some ⟨nx0, 0, none⟩))]) (X' := [orow 5 1 A4 t4.length c5 cs4]) (by kernel_rfl) (hs.call hg) ?_
    clear hs hg
    generalize w'.heap.size = nx6
    clear w w'
    refine RL.simP (K' := [(4, .slice A4 t4.length c5), (1, .pointer (some ⟨nx0, 0, none⟩))]) (nx' := nx6) (L' := [⟨nx0, [.int .i64 a0.f0, .string a0.f1, .slice Ap0_2 a0.f2.length cp0_2], 30⟩]) [] (RFacts.nil _ _ _) 1 [.no] (by kernel_rfl) (by kernel_rfl) ?_
    refine RL.nil (by kernel_rfl) ?_
    refine QN.then_ ?_
    refine OK.seq K40_26 K40_28 (by kernel_rfl) ?_
    refine OK.region 7 O40_26 (by kernel_rfl) ?_
    refine RL.simP (K' := [(28, .slice Ap0_2 a0.f2.length cp0_2), (26, .slice A4 t4.length c5)]) (nx' := nx6) (L' := [⟨nx0, [.int .i64 a0.f0, .string a0.f1, .slice Ap0_2 a0.f2.length cp0_2], 30⟩]) [] (RFacts.nil _ _ _) 3 [.no, .no, .l 0] (by kernel_rfl) (by kernel_rfl) ?_
    by_cases hz3 : (t4.length + a0.f2.length) * 1 ≤ 140737488355328
    case neg => rw [if_neg hz3] at H; cases H
    rw [if_pos hz3] at H
    refine RL.appendR (T := 28) (e := 5) (S := A4) (S2 := Ap0_2) 1 1 28 c5 cp0_2 cs4 (Ty.int .u8) t4 a0.f2 0 (some 29) (by kernel_rfl) (by kernel_rfl) (by kernel_rfl) (by kernel_rfl) (by kernel_rfl) (by decide) (by kernel_rfl) hp4 (Rd.ext (Imm.le_trans (Imm.le_trans (Imm.le_trans (Imm.le_trans (Imm.le_trans (Imm.le_trans hi1 hi2) hi3) hi4) hi5) hi6) hi7) hrp0_2) hz3 (by omega) (fun A5 c6 nx7 cs5 hp5 => ?_)
    refine RL.sub (K' := [(29, .slice A5 ((t4 ++ a0.f2).length) c6), (28, .slice Ap0_2 a0.f2.length cp0_2)]) (L' := [⟨nx0, [.int .i64 a0.f0, .string a0.f1, .slice Ap0_2 a0.f2.length cp0_2], 30⟩]) (X' := [orow 5 1 A5 ((t4 ++ a0.f2).length) c6 cs5]) (by kernel_rfl) (.refl _) (.refl _) ?_
    refine RL.simP (K' := [(3, .int .i64 0), (2, .slice A5 ((t4 ++ a0.f2).length) c6)]) (nx' := nx7) (L' := [⟨nx0, [.int .i64 a0.f0, .string a0.f1, .slice Ap0_2 a0.f2.length cp0_2], 30⟩]) [] (RFacts.nil _ _ _) 2 [.no, .no] (by kernel_rfl) (by kernel_rfl) ?_
    refine RL.nil (by kernel_rfl) ?_
    refine QN.then_ ?_
    refine OK.ret (by kernel_rfl) ?_
    obtain rfl := Option.some.inj H
    refine QN.body rfl [] (RFacts.nil _ _ _) (.no) (.tuple #[.slice A5 ((t4 ++ a0.f2).length) c6, .int .i64 0]) (by kernel_rfl) (by kernel_rfl) (by kernel_rfl) ?_ _ (.inr rfl)
    exact fun w' hs' => ⟨_, rfl, I7, A5, c6, cs5, rfl, hs'.got _ (.cons_cons _ .slnil), hp5⟩

end Go.Proofs.Ytieakigoinebdaa
