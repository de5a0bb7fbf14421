/- What a function of the program computes, and the walk that shows it; made by a program of the session's out of the translation; no conditions beyond those that the theorems name. -/
import Derived.Test.YtieakigoinebdaaS
import Derived.Test.YtieakigoinebdaaG39
namespace Go.Proofs.Ytieakigoinebdaa
open Go Go.Proofs.Ytieakigoinebdaa.RW
set_option linter.unusedVariables false
set_option maxRecDepth 100000
set_option maxHeartbeats 8000000

/-! ### armillaryref29_MadeAll: function 28, armillary/armillaryref29.MadeAll -/
noncomputable def K28_0 : Code := cBody Try.f28
noncomputable def K28_1 : Code := cL K28_0
noncomputable def O28_1 : List Oper := cOps K28_1
noncomputable def K28_3 : Code := cR K28_0
noncomputable def K28_4 : Code := cL K28_3
noncomputable def O28_4 : List Oper := cOps K28_4
noncomputable def K28_6 : Code := cR K28_3
noncomputable def K28_7 : Code := cL K28_6
noncomputable def K28_8 : Code := cL K28_7
noncomputable def O28_8 : List Oper := cOps K28_8
noncomputable def K28_10 : Code := cR K28_7
noncomputable def K28_11 : Code := cL K28_10
noncomputable def K28_12 : Code := cL K28_11
noncomputable def K28_13 : Code := cL K28_12
noncomputable def K28_14 : Code := cL K28_13
noncomputable def O28_14 : List Oper := cOps K28_14
noncomputable def K28_16 : Code := cR K28_13
noncomputable def K28_17 : Code := cL K28_16
noncomputable def K28_18 : Code := cR K28_16
noncomputable def K28_19 : Code := cR K28_12
noncomputable def K28_20 : Code := cL K28_19
noncomputable def K28_21 : Code := cL K28_20
noncomputable def O28_21 : List Oper := cOps K28_21
noncomputable def K28_23 : Code := cR K28_19
noncomputable def O28_23 : List Oper := cOps K28_23
noncomputable def K28_25 : Code := cR K28_6
noncomputable def K28_26 : Code := cL K28_25
noncomputable def O28_26 : List Oper := cOps K28_26
noncomputable def K28_28 : Code := cR K28_25
def armillaryref29_MadeAll.k1  (x1 : List S32) : Option (List S32) := (some x1)
def armillaryref29_MadeAll.l1 (a0 : List S32) (a1 : Int) (a2 : Int) : Nat → (List S32) → Int → Option (List S32)
  | 0, _, _ => none
  | k + 1, x2, x3 => ((if x3 < (a0.length : Int) then (some (decide (x3 < a2))) else (some false)).bind (fun x4 => (if x4 = true then (if 0 ≤ x3 then (if x3 < (a0.length : Int) then ((armillaryref29_Made.f k (a0.getD (x3).toNat z32) a1).bind fun t1 => (if (x2.length + [t1].length) * 88 ≤ 140737488355328 then (armillaryref29_MadeAll.l1 a0 a1 a2 k (x2 ++ [t1]) (W .i64 (x3 + 1))) else none)) else none) else none) else (some x2))))
def armillaryref29_MadeAll.f (k : Nat) (a0 : List S32) (a1 : Int) (a2 : Int) : Option (List S32) := ((armillaryref29_MadeAll.l1 a0 a1 a2 k ([] : List S32) 0).bind (armillaryref29_MadeAll.k1))
def armillaryref29_MadeAll.Post (I : Imm) (w : World) (r : List S32) (v : Value) (w' : World) : Prop :=
  ∃ (J : Imm) (A0 : Option Addr) (c0 : Nat) (cs0 : List Value), v = .slice A0 r.length c0 ∧ Got w w' I J [orow 32 8 A0 r.length c0 cs0] ∧ Reps t32 J r cs0
theorem armillaryref29_MadeAll.calls (k : Nat) (I0 : Imm) (a0 : List S32) (Ap0 : Option Addr) (cp0 : Nat) (a1 : Int) (a2 : Int) (w : World) (hI : I0.at_ w) (hlp0 : a0.length ≤ cp0) (hrp0 : Rd t32 I0 Ap0 a0) (r : List S32) (h : armillaryref29_MadeAll.f k a0 a1 a2 = some r) :
    Calls Try.prog 28 [.slice Ap0 a0.length cp0, .int .i64 a1, .int .i64 a2].toArray w fun e w' => ∃ v, e = .returned v ∧ armillaryref29_MadeAll.Post I0 w r v w' := by
  have H : ((armillaryref29_MadeAll.l1 a0 a1 a2 k ([] : List S32) 0).bind (armillaryref29_MadeAll.k1)) = some r := h
  clear h
  refine calls_body Try.func28 (by kernel_rfl) 31 (by kernel_rfl) (by kernel_rfl) ⟨w, fun _ => False, I0⟩ I0 [] [(0, .slice Ap0 a0.length cp0), (1, .int .i64 a1), (2, .int .i64 a2)] (by kernel_rfl) (Sat.start w _ I0 hI) ?_
  generalize w.heap.size = nx0
  show OK _ K28_0 _ _ _ _ _ _ _ _
  refine OK.seq K28_1 K28_3 (by kernel_rfl) ?_
  refine OK.region 0 O28_1 (by kernel_rfl) ?_
  refine RL.simP (K' := [(0, .slice Ap0 a0.length cp0), (1, .int .i64 a1), (2, .int .i64 a2)]) (nx' := nx0) (L' := []) [] (RFacts.nil _ _ _) 1 [.no] (by kernel_rfl) (by kernel_rfl) ?_
  refine RL.nil (by kernel_rfl) ?_
  refine QN.then_ ?_
  refine OK.seq K28_4 K28_6 (by kernel_rfl) ?_
  refine OK.region 1 O28_4 (by kernel_rfl) ?_
  refine RL.simP (K' := [(7, .slice (some ⟨nx0, 0, none⟩) 0 0), (0, .slice Ap0 a0.length cp0), (1, .int .i64 a1), (2, .int .i64 a2)]) (nx' := nx0 + 1) (L' := [⟨nx0, [], 32⟩]) [] (RFacts.nil _ _ _) 2 [.no, .no] (by kernel_rfl) (by kernel_rfl) ?_
  refine RL.nil (by kernel_rfl) ?_
  refine QN.then_ ?_
  refine OK.seq K28_7 K28_25 (by kernel_rfl) ?_
  refine OK.seq K28_8 K28_10 (by kernel_rfl) ?_
  refine OK.region 2 O28_8 (by kernel_rfl) ?_
  refine RL.simP (K' := [(8, .int .i64 0), (7, .slice (some ⟨nx0, 0, none⟩) 0 0), (0, .slice Ap0 a0.length cp0), (1, .int .i64 a1), (2, .int .i64 a2)]) (nx' := nx0 + 1) (L' := [⟨nx0, [], 32⟩]) [] (RFacts.nil _ _ _) 1 [.no] (by kernel_rfl) (by kernel_rfl) ?_
  refine RL.nil (by kernel_rfl) ?_
  refine QN.then_ ?_
  refine OK.join (fun K' I' _ L' X' => ∃ (x1 : List S32) (A1 : Option Addr) (c1 : Nat) (cs1 : List Value), K' = [(7, .slice A1 x1.length c1)] ∧ L' = [] ∧ X' = [orow 32 8 A1 x1.length c1 cs1] ∧ Imm.le I0 I' ∧ Reps t32 I' x1 cs1 ∧ armillaryref29_MadeAll.k1 x1 = some r) ?_ ?_
  · rintro _ I1 nx1 _ _ ⟨x1, A1, c1, cs1, rfl, rfl, rfl, hi1, hp1, H⟩
    replace H : (some x1) = some r := H
    refine QN.then_ ?_
    refine OK.seq K28_26 K28_28 (by kernel_rfl) ?_
    refine OK.region 6 O28_26 (by kernel_rfl) ?_
    refine RL.simP (K' := [(6, .slice A1 x1.length c1)]) (nx' := nx1) (L' := []) [] (RFacts.nil _ _ _) 2 [.no, .no] (by kernel_rfl) (by kernel_rfl) ?_
    refine RL.nil (by kernel_rfl) ?_
    refine QN.then_ ?_
    refine OK.ret (by kernel_rfl) ?_
    obtain rfl := Option.some.inj H
    refine QN.body rfl [] (RFacts.nil _ _ _) (.no) (.slice A1 x1.length c1) (by kernel_rfl) (by kernel_rfl) (by kernel_rfl) ?_ _ (.inr rfl)
    exact fun w' hs' => ⟨_, rfl, I1, A1, c1, cs1, rfl, hs'.got _ (.cons_cons _ .slnil), hp1⟩
  · intro Q_1 hJ1 hQ1
    obtain ⟨y1, H, HK1⟩ := Option.bind_eq_some_iff.mp H
    refine OK.block 0 K28_11 (by kernel_rfl) ?_
    refine OK.toRow (b := ⟨nx0, [], 32⟩) 0 0 8 (by kernel_rfl) (by kernel_rfl) (by decide) ?_
    have hp5 : Reps t32 I0 ([] : List S32) [] := rfl
    refine OK.norm (L' := []) (X' := [orow 32 8 (some ⟨nx0, 0, none⟩) (([] : List S32).length) 0 []]) rfl rfl (by kernel_rfl) (by kernel_rfl) ?_
    refine OK.sub (K' := [(0, .slice Ap0 a0.length cp0), (1, .int .i64 a1), (2, .int .i64 a2), (7, .slice (some ⟨nx0, 0, none⟩) 0 0), (8, .int .i64 0)]) (L' := []) (by kernel_rfl) .slnil (.refl _) ?_
    refine OK.loopInv K28_12 (by kernel_rfl) (fun n_ K' I' _ L' X' => ∃ (x2 : List S32) (x3 : Int) (A2 : Option Addr) (c2 : Nat) (cs2 : List Value), K' = [(0, .slice Ap0 a0.length cp0), (1, .int .i64 a1), (2, .int .i64 a2), (7, .slice A2 x2.length c2), (8, .int .i64 x3)] ∧ L' = [] ∧ X' = [orow 32 8 A2 x2.length c2 cs2] ∧ Imm.le I0 I' ∧ Reps t32 I' x2 cs2 ∧ armillaryref29_MadeAll.l1 a0 a1 a2 n_ x2 x3 = some y1) k ⟨([] : List S32), 0, (some ⟨nx0, 0, none⟩), 0, [], rfl, rfl, rfl, (Imm.le_refl _), hp5, H⟩ ?_ ?_
    · rintro _ _ _ _ _ ⟨x2, x3, A2, c2, cs2, rfl, rfl, rfl, _, hp2, H⟩
      cases H
    · rintro kq1 _ I2 nx2 _ _ ⟨x2, x3, A2, c2, cs2, rfl, rfl, rfl, hi2, hp2, H⟩ Q_l1 hJ2 hQ2
      replace H : ((if x3 < (a0.length : Int) then (some (decide (x3 < a2))) else (some false)).bind (fun x4 => (if x4 = true then (if 0 ≤ x3 then (if x3 < (a0.length : Int) then ((armillaryref29_Made.f kq1 (a0.getD (x3).toNat z32) a1).bind fun t1 => (if (x2.length + [t1].length) * 88 ≤ 140737488355328 then (armillaryref29_MadeAll.l1 a0 a1 a2 kq1 (x2 ++ [t1]) (W .i64 (x3 + 1))) else none)) else none) else none) else (some x2)))) = some y1 := H
      refine OK.seq K28_13 K28_19 (by kernel_rfl) ?_
      refine OK.seq K28_14 K28_16 (by kernel_rfl) ?_
      refine OK.join (fun K' I' _ L' X' => ∃ (x4 : Bool), K' = [(0, .slice Ap0 a0.length cp0), (1, .int .i64 a1), (2, .int .i64 a2), (7, .slice A2 x2.length c2), (8, .int .i64 x3), (18, .bool x4)] ∧ L' = [] ∧ X' = [orow 32 8 A2 x2.length c2 cs2] ∧ Imm.le I2 I' ∧ (if x4 = true then (if 0 ≤ x3 then (if x3 < (a0.length : Int) then ((armillaryref29_Made.f kq1 (a0.getD (x3).toNat z32) a1).bind fun t1 => (if (x2.length + [t1].length) * 88 ≤ 140737488355328 then (armillaryref29_MadeAll.l1 a0 a1 a2 kq1 (x2 ++ [t1]) (W .i64 (x3 + 1))) else none)) else none) else none) else (some x2)) = some y1) ?_ ?_
      · rintro _ I3 nx3 _ _ ⟨x4, rfl, rfl, rfl, hi3, H⟩
        replace H : (if x4 = true then (if 0 ≤ x3 then (if x3 < (a0.length : Int) then ((armillaryref29_Made.f kq1 (a0.getD (x3).toNat z32) a1).bind fun t1 => (if (x2.length + [t1].length) * 88 ≤ 140737488355328 then (armillaryref29_MadeAll.l1 a0 a1 a2 kq1 (x2 ++ [t1]) (W .i64 (x3 + 1))) else none)) else none) else none) else (some x2)) = some y1 := H
        refine QN.then_ ?_
        refine OK.cond (.tmp 18) K28_17 K28_18 x4 (by kernel_rfl) (by kernel_rfl) (by kernel_rfl) (fun hb => ?_) (fun hb => ?_)
        · skip
          have hc := hb
          rw [if_pos hc] at H
          clear hb
          refine OK.skip (by kernel_rfl) ?_
          refine QN.then_ ?_
          refine OK.seq K28_20 K28_23 (by kernel_rfl) ?_
          refine OK.block 1 K28_21 (by kernel_rfl) ?_
          refine OK.region 5 O28_21 (by kernel_rfl) ?_
          refine RL.simP (K' := [(23, .int .i64 x3), (22, .slice Ap0 a0.length cp0), (21, .slice A2 x2.length c2), (0, .slice Ap0 a0.length cp0), (1, .int .i64 a1), (2, .int .i64 a2), (7, .slice A2 x2.length c2), (8, .int .i64 x3)]) (nx' := nx3) (L' := []) [] (RFacts.nil _ _ _) 3 [.no, .no, .no] (by kernel_rfl) (by kernel_rfl) ?_
          by_cases hib0 : 0 ≤ x3
          case neg => rw [if_neg hib0] at H; cases H
          rw [if_pos hib0] at H
          by_cases hib1 : x3 < (a0.length : Int)
          case neg => rw [if_neg hib1] at H; cases H
          rw [if_pos hib1] at H
          obtain ⟨g1_, o1_, hA1_, A1_5_2_, c1_5_2_, hl1_5_2_, hr1_5_2_, hc1_⟩ := t32_at (Rd.ext (Imm.le_trans hi2 hi3) hrp0) x3 hib0 hib1
          refine RL.idx 8 .i64 x3 hA1_ a0.length cp0 (some 24) (by kernel_rfl) (by kernel_rfl) (T := 22) (e := 32) (by kernel_rfl) (by kernel_rfl) hib0 hib1 (K' := [(24, .pointer (some ⟨g1_, o1_ + (x3).toNat * 8, none⟩)), (23, .int .i64 x3), (22, .slice Ap0 a0.length cp0), (21, .slice A2 x2.length c2), (0, .slice Ap0 a0.length cp0), (1, .int .i64 a1), (2, .int .i64 a2), (7, .slice A2 x2.length c2), (8, .int .i64 x3)]) (by kernel_rfl) ?_
          refine RL.simP (K' := [(26, .int .i64 a1), (25, .agg #[.int .i64 ((a0.getD (x3).toNat z32).f0), .int .i64 ((a0.getD (x3).toNat z32).f1), .int .i64 ((a0.getD (x3).toNat z32).f2), .int .i64 ((a0.getD (x3).toNat z32).f3), .int .u32 ((a0.getD (x3).toNat z32).f4), .int .i64 ((a0.getD (x3).toNat z32).f5.f0), .string ((a0.getD (x3).toNat z32).f5.f1), .slice A1_5_2_ (((a0.getD (x3).toNat z32).f5.f2).length) c1_5_2_]), (21, .slice A2 x2.length c2), (0, .slice Ap0 a0.length cp0), (1, .int .i64 a1), (2, .int .i64 a2), (7, .slice A2 x2.length c2), (8, .int .i64 x3)]) (nx' := nx3) (L' := []) [(⟨g1_, o1_ + (x3).toNat * 8, none⟩, .int .i64 ((a0.getD (x3).toNat z32).f0)), (⟨g1_, o1_ + (x3).toNat * 8 + 1, none⟩, .int .i64 ((a0.getD (x3).toNat z32).f1)), (⟨g1_, o1_ + (x3).toNat * 8 + 2, none⟩, .int .i64 ((a0.getD (x3).toNat z32).f2)), (⟨g1_, o1_ + (x3).toNat * 8 + 3, none⟩, .int .i64 ((a0.getD (x3).toNat z32).f3)), (⟨g1_, o1_ + (x3).toNat * 8 + 4, none⟩, .int .u32 ((a0.getD (x3).toNat z32).f4)), (⟨g1_, o1_ + (x3).toNat * 8 + 5, none⟩, .int .i64 ((a0.getD (x3).toNat z32).f5.f0)), (⟨g1_, o1_ + (x3).toNat * 8 + 6, none⟩, .string ((a0.getD (x3).toNat z32).f5.f1)), (⟨g1_, o1_ + (x3).toNat * 8 + 7, none⟩, .slice A1_5_2_ (((a0.getD (x3).toNat z32).f5.f2).length) c1_5_2_)] (RFacts.imm (hc1_ 0 _ rfl) (RFacts.imm (hc1_ 1 _ rfl) (RFacts.imm (hc1_ 2 _ rfl) (RFacts.imm (hc1_ 3 _ rfl) (RFacts.imm (hc1_ 4 _ rfl) (RFacts.imm (hc1_ 5 _ rfl) (RFacts.imm (hc1_ 6 _ rfl) (RFacts.imm (hc1_ 7 _ rfl) (RFacts.nil _ _ _))))))))) 2 [.r 0, .no] (by kernel_rfl) (by kernel_rfl) ?_
          obtain ⟨t1, hA1, H⟩ := Option.bind_eq_some_iff.mp H
          refine RL.callP 39 [.agg #[.int .i64 ((a0.getD (x3).toNat z32).f0), .int .i64 ((a0.getD (x3).toNat z32).f1), .int .i64 ((a0.getD (x3).toNat z32).f2), .int .i64 ((a0.getD (x3).toNat z32).f3), .int .u32 ((a0.getD (x3).toNat z32).f4), .int .i64 ((a0.getD (x3).toNat z32).f5.f0), .string ((a0.getD (x3).toNat z32).f5.f1), .slice A1_5_2_ (((a0.getD (x3).toNat z32).f5.f2).length) c1_5_2_], .int .i64 a1] (some 27) (fun w => armillaryref29_Made.Post I3 w t1) (by kernel_rfl) (by kernel_rfl) (fun w hs => armillaryref29_Made.calls kq1 I3 (a0.getD (x3).toNat z32) A1_5_2_ c1_5_2_ a1 w hs.im hl1_5_2_ hr1_5_2_ t1 hA1) ?_
          rintro w v w' hs ⟨I4, A3, c3, cs3, rfl, hg, hp3⟩
          have hi4 := hg.le
          refine RL.resume (K' := [(27, .agg #[.int .i64 t1.f0, .int .i64 t1.f1, .int .i64 t1.f2, .int .i64 t1.f3, .int .u32 t1.f4, .int .i64 t1.f5.f0, .string t1.f5.f1, .slice A3 t1.f5.f2.length c3]), (26, .int .i64 a1), (25, .agg #[.int .i64 ((a0.getD (x3).toNat z32).f0), .int .i64 ((a0.getD (x3).toNat z32).f1), .int .i64 ((a0.getD (x3).toNat z32).f2), .int .i64 ((a0.getD (x3).toNat z32).f3), .int .u32 ((a0.getD (x3).toNat z32).f4), .int .i64 ((a0.getD (x3).toNat z32).f5.f0), .string ((a0.getD (x3).toNat z32).f5.f1), .slice A1_5_2_ (((a0.getD (x3).toNat z32).f5.f2).length) c1_5_2_]), (21, .slice A2 x2.length c2), (0, .slice Ap0 a0.length cp0), (1, .int .i64 a1), (2, .int .i64 a2), (7, .slice A2 x2.length c2), (8, .int .i64 x3)]) (X' := [orow 32 8 A2 x2.length c2 cs2, orow 5 1 A3 t1.f5.f2.length c3 cs3]) (by kernel_rfl) (hs.call hg) ?_
          clear hs hg
          generalize w'.heap.size = nx4
          clear w w'
          refine RL.freeze (e := 5) (sz := 1) (S := A3) (n := t1.f5.f2.length) (cap := c3) 1 (by kernel_rfl) hp3 rfl (fun _ h => h.elim) (fun I5 hi5 hl1 hr1 => ?_)
          skip
          refine RL.simP (K' := [(28, .slice (some ⟨nx4, 0, none⟩) 1 1), (21, .slice A2 x2.length c2), (0, .slice Ap0 a0.length cp0), (1, .int .i64 a1), (2, .int .i64 a2), (7, .slice A2 x2.length c2), (8, .int .i64 x3)]) (nx' := nx4 + 1) (L' := [⟨nx4, [.int .i64 t1.f0, .int .i64 t1.f1, .int .i64 t1.f2, .int .i64 t1.f3, .int .u32 t1.f4, .int .i64 t1.f5.f0, .string t1.f5.f1, .slice A3 t1.f5.f2.length c3], 32⟩]) [] (RFacts.nil _ _ _) 1 [.no] (by kernel_rfl) (by kernel_rfl) ?_
          by_cases hz1 : (x2.length + [t1].length) * 88 ≤ 140737488355328
          case neg => rw [if_neg hz1] at H; cases H
          rw [if_pos hz1] at H
          refine RL.appendB (T := 22) (e := 32) (S := A2) 8 88 22 c2 0 1 nx4 32 cs2 [.int .i64 t1.f0, .int .i64 t1.f1, .int .i64 t1.f2, .int .i64 t1.f3, .int .u32 t1.f4, .int .i64 t1.f5.f0, .string t1.f5.f1, .slice A3 t1.f5.f2.length c3] t32 x2 [t1] 0 (some 29) (by kernel_rfl) (by kernel_rfl) (by kernel_rfl) (by kernel_rfl) (by kernel_rfl) (by decide) (by kernel_rfl) (Reps.ext (Imm.le_trans (Imm.le_trans hi3 hi4) hi5) hp2) (by kernel_rfl) ⟨_, _, rfl, (t32_mk _ _ hl1 hr1), rfl⟩ hz1 (by omega) (fun A4 c4 nx5 cs4 hp4 => ?_)
          refine RL.sub (K' := [(29, .slice A4 ((x2 ++ [t1]).length) c4), (28, .slice (some ⟨nx4, 0, none⟩) 1 1), (0, .slice Ap0 a0.length cp0), (1, .int .i64 a1), (2, .int .i64 a2), (8, .int .i64 x3)]) (L' := [⟨nx4, [.int .i64 t1.f0, .int .i64 t1.f1, .int .i64 t1.f2, .int .i64 t1.f3, .int .u32 t1.f4, .int .i64 t1.f5.f0, .string t1.f5.f1, .slice A3 t1.f5.f2.length c3], 32⟩]) (X' := [orow 32 8 A4 ((x2 ++ [t1]).length) c4 cs4]) (by kernel_rfl) (.refl _) (.refl _) ?_
          refine RL.simP (K' := [(7, .slice A4 ((x2 ++ [t1]).length) c4), (0, .slice Ap0 a0.length cp0), (1, .int .i64 a1), (2, .int .i64 a2), (8, .int .i64 x3)]) (nx' := nx5) (L' := [⟨nx4, [.int .i64 t1.f0, .int .i64 t1.f1, .int .i64 t1.f2, .int .i64 t1.f3, .int .u32 t1.f4, .int .i64 t1.f5.f0, .string t1.f5.f1, .slice A3 t1.f5.f2.length c3], 32⟩]) [] (RFacts.nil _ _ _) 1 [.no] (by kernel_rfl) (by kernel_rfl) ?_
          refine RL.nil (by kernel_rfl) ?_
          refine QN.blkN ?_
          refine QN.then_ ?_
          refine OK.region 4 O28_23 (by kernel_rfl) ?_
          refine RL.simP (K' := [(8, .int .i64 (W .i64 (x3 + 1))), (7, .slice A4 ((x2 ++ [t1]).length) c4), (0, .slice Ap0 a0.length cp0), (1, .int .i64 a1), (2, .int .i64 a2)]) (nx' := nx5) (L' := [⟨nx4, [.int .i64 t1.f0, .int .i64 t1.f1, .int .i64 t1.f2, .int .i64 t1.f3, .int .u32 t1.f4, .int .i64 t1.f5.f0, .string t1.f5.f1, .slice A3 t1.f5.f2.length c3], 32⟩]) [] (RFacts.nil _ _ _) 3 [.no, .no, .no] (by kernel_rfl) (by kernel_rfl) ?_
          refine RL.nil (by kernel_rfl) ?_
          refine QN.sub (K' := [(0, .slice Ap0 a0.length cp0), (1, .int .i64 a1), (2, .int .i64 a2), (7, .slice A4 ((x2 ++ [t1]).length) c4), (8, .int .i64 (W .i64 (x3 + 1)))]) (L' := []) (by kernel_rfl) (.cons _ .slnil) (.refl _) ?_
          exact hJ2 _ _ _ _ _ ⟨(x2 ++ [t1]), W .i64 (x3 + 1), A4, c4, cs4, rfl, rfl, rfl, (Imm.le_trans (Imm.le_trans (Imm.le_trans hi2 hi3) hi4) hi5), hp4, H⟩
        · skip
          have hc := (Bool.eq_false_iff.1 hb)
          rw [if_neg hc] at H
          clear hb
          refine OK.exit 0 (by kernel_rfl) ?_
          refine QN.thenE ?_
          refine QN.outE hQ2 ?_
          refine QN.blkE ?_
          obtain rfl := Option.some.inj H
          refine QN.sub (K' := [(7, .slice A2 x2.length c2)]) (L' := []) (by kernel_rfl) .slnil (.refl _) ?_
          exact hJ1 _ _ _ _ _ ⟨x2, A2, c2, cs2, rfl, rfl, rfl, (Imm.le_trans hi2 hi3), (Reps.ext hi3 hp2), HK1⟩
      · intro Q_2 hJ3 hQ3
        obtain ⟨y2, H, HK2⟩ := Option.bind_eq_some_iff.mp H
        refine OK.region 3 O28_14 (by kernel_rfl) ?_
        refine RL.simP (K' := [(14, .bool (decide (x3 < (a0.length : Int)))), (0, .slice Ap0 a0.length cp0), (1, .int .i64 a1), (2, .int .i64 a2), (7, .slice A2 x2.length c2), (8, .int .i64 x3)]) (nx' := nx2) (L' := []) [] (RFacts.nil _ _ _) 5 [.no, .no, .no, .no, .no] (by kernel_rfl) (by kernel_rfl) ?_
        refine RL.cases (decide (x3 < (a0.length : Int))) (fun hb => ?_) (fun hb => ?_)
        · have hc := (of_decide_eq_true hb)
          refine RL.norm (K' := [(14, .bool true), (0, .slice Ap0 a0.length cp0), (1, .int .i64 a1), (2, .int .i64 a2), (7, .slice A2 x2.length c2), (8, .int .i64 x3)]) (L' := []) (by rw [hb]; try rfl) rfl (by first | rfl | (rw [hb]; try rfl)) rfl ?_
          rw [if_pos hc] at H; clear hb
          refine RL.simP (K' := [(18, .bool (decide (x3 < a2))), (0, .slice Ap0 a0.length cp0), (1, .int .i64 a1), (2, .int .i64 a2), (7, .slice A2 x2.length c2), (8, .int .i64 x3)]) (nx' := nx2) (L' := []) [] (RFacts.nil _ _ _) 4 [.no, .no, .no, .no] (by kernel_rfl) (by kernel_rfl) ?_
          refine RL.nil (by kernel_rfl) ?_
          obtain rfl := Option.some.inj H
          refine QN.sub (K' := [(0, .slice Ap0 a0.length cp0), (1, .int .i64 a1), (2, .int .i64 a2), (7, .slice A2 x2.length c2), (8, .int .i64 x3), (18, .bool (decide (x3 < a2)))]) (L' := []) (by kernel_rfl) .slnil (.refl _) ?_
          exact hJ3 _ _ _ _ _ ⟨(decide (x3 < a2)), rfl, rfl, rfl, (Imm.le_refl _), HK2⟩
        · have hc := (of_decide_eq_false hb)
          refine RL.norm (K' := [(14, .bool false), (0, .slice Ap0 a0.length cp0), (1, .int .i64 a1), (2, .int .i64 a2), (7, .slice A2 x2.length c2), (8, .int .i64 x3)]) (L' := []) (by rw [hb]; try rfl) rfl (by first | rfl | (rw [hb]; try rfl)) rfl ?_
          rw [if_neg hc] at H; clear hb
          refine RL.simP (K' := [(18, .bool false), (0, .slice Ap0 a0.length cp0), (1, .int .i64 a1), (2, .int .i64 a2), (7, .slice A2 x2.length c2), (8, .int .i64 x3)]) (nx' := nx2) (L' := []) [] (RFacts.nil _ _ _) 4 [.no, .no, .no, .no] (by kernel_rfl) (by kernel_rfl) ?_
          refine RL.nil (by kernel_rfl) ?_
          obtain rfl := Option.some.inj H
          refine QN.sub (K' := [(0, .slice Ap0 a0.length cp0), (1, .int .i64 a1), (2, .int .i64 a2), (7, .slice A2 x2.length c2), (8, .int .i64 x3), (18, .bool false)]) (L' := []) (by kernel_rfl) .slnil (.refl _) ?_
          exact hJ3 _ _ _ _ _ ⟨false, rfl, rfl, rfl, (Imm.le_refl _), HK2⟩

end Go.Proofs.Ytieakigoinebdaa
