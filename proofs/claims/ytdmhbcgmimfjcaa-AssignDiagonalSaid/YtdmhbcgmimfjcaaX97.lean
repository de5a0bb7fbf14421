/- Words of the walk, the functions' walks and plain laws, joined; no conditions beyond those that the theorems name. -/
import Derived.Test.YtdmhbcgmimfjcaaX92
import Derived.Test.YtdmhbcgmimfjcaaX96
import Derived.Test.YtdmhbcgmimfjcaaX95
namespace Go.Proofs.Ytdmhbcgmimfjcaa
open Go Go.Proofs.Ytdmhbcgmimfjcaa.RW
set_option linter.unusedVariables false
set_option maxRecDepth 100000
set_option maxHeartbeats 8000000

/-! ### assign_Valid: function 11, armillary/assign.Valid -/
noncomputable def K11_0 : Code := cBody Try.f11
noncomputable def K11_1 : Code := cL K11_0
noncomputable def O11_1 : List Oper := cOps K11_1
noncomputable def K11_3 : Code := cR K11_0
noncomputable def K11_4 : Code := cL K11_3
noncomputable def K11_5 : Code := cL K11_4
noncomputable def O11_5 : List Oper := cOps K11_5
noncomputable def K11_7 : Code := cR K11_4
noncomputable def K11_8 : Code := cL K11_7
noncomputable def K11_9 : Code := cL K11_8
noncomputable def O11_9 : List Oper := cOps K11_9
noncomputable def K11_11 : Code := cR K11_8
noncomputable def K11_12 : Code := cR K11_7
noncomputable def K11_13 : Code := cR K11_3
noncomputable def K11_14 : Code := cL K11_13
noncomputable def K11_15 : Code := cL K11_14
noncomputable def O11_15 : List Oper := cOps K11_15
noncomputable def K11_17 : Code := cR K11_14
noncomputable def K11_18 : Code := cL K11_17
noncomputable def K11_19 : Code := cL K11_18
noncomputable def K11_20 : Code := cL K11_19
noncomputable def O11_20 : List Oper := cOps K11_20
noncomputable def K11_22 : Code := cR K11_19
noncomputable def K11_23 : Code := cL K11_22
noncomputable def K11_24 : Code := cL K11_23
noncomputable def K11_25 : Code := cR K11_23
noncomputable def K11_26 : Code := cR K11_22
noncomputable def K11_27 : Code := cL K11_26
noncomputable def K11_28 : Code := cL K11_27
noncomputable def K11_29 : Code := cL K11_28
noncomputable def O11_29 : List Oper := cOps K11_29
noncomputable def K11_31 : Code := cR K11_28
noncomputable def K11_32 : Code := cL K11_31
noncomputable def O11_32 : List Oper := cOps K11_32
noncomputable def K11_34 : Code := cR K11_31
noncomputable def K11_35 : Code := cL K11_34
noncomputable def K11_36 : Code := cL K11_35
noncomputable def O11_36 : List Oper := cOps K11_36
noncomputable def K11_38 : Code := cR K11_35
noncomputable def K11_39 : Code := cR K11_34
noncomputable def K11_40 : Code := cR K11_26
noncomputable def O11_40 : List Oper := cOps K11_40
noncomputable def K11_42 : Code := cR K11_13
noncomputable def K11_43 : Code := cL K11_42
noncomputable def O11_43 : List Oper := cOps K11_43
noncomputable def K11_45 : Code := cR K11_42
def assign_Valid.k1  : (Unit) ⊕ (Bool) → Option (Bool)
 | .inl () => (some true)
 | .inr r_ => some r_
def assign_Valid.l1 (a0 : List (List Int)) : Nat → Int → Option ((Unit) ⊕ (Bool))
 | 0, _ => none
 | k + 1, x1 => (if x1 < (a0.length : Int) then (if 0 ≤ x1 then (if x1 < (a0.length : Int) then ((if 0 < (a0.length : Int) then (if ((a0.getD (x1).toNat []).length : Int) ≠ ((a0.getD (0 : Int).toNat []).length : Int) then (some true) else (if ((a0.getD (x1).toNat []).length : Int) > 12 then (some true) else ((slices_ContainsFunc_int64_int64s0.f k (a0.getD (x1).toNat [])).bind fun t1 => (some t1)))) else none).bind (fun x2 => (if x2 = true then (some (Sum.inr false)) else (assign_Valid.l1 a0 k (W .i64 (x1 + 1)))))) else none) else none) else (some (Sum.inl ())))
def assign_Valid.f (k : Nat) (a0 : List (List Int)) : Option (Bool) := (if (a0.length : Int) > 12 then (some false) else ((assign_Valid.l1 a0 k 0).bind (assign_Valid.k1)))
def assign_Valid.Post (I : Imm) (w : World) (r : Bool) (v : Value) (w' : World) : Prop :=
 ∃ (J : Imm), v = .bool r ∧ Got w w' I J []
theorem assign_Valid.calls (k : Nat) (I0 : Imm) (a0 : List (List Int)) (Ap0 : Option Addr) (cp0 : Nat) (w : World) (hI : I0.at_ w) (hlp0 : a0.length ≤ cp0) (hrp0 : Rd (Ty.slice (Ty.int .i64)) I0 Ap0 a0) (r : Bool) (h : assign_Valid.f k a0 = some r) :
  Calls Try.prog 11 [.slice Ap0 a0.length cp0].toArray w fun e w' => ∃ v, e = .returned v ∧ assign_Valid.Post I0 w r v w' := by
 have H : (if (a0.length : Int) > 12 then (some false) else ((assign_Valid.l1 a0 k 0).bind (assign_Valid.k1))) = some r := h
 clear h
 refine calls_body Try.func11 (by kernel_rfl) 31 (by kernel_rfl) (by kernel_rfl) ⟨w, fun _ => False, I0⟩ I0 [] [(0, .slice Ap0 a0.length cp0)] (by kernel_rfl) (Sat.start w _ I0 hI) ?_
 generalize w.heap.size = nx0
 show OK _ K11_0 _ _ _ _ _ _ _ _
 refine OK.seq K11_1 K11_3 (by kernel_rfl) ?_
 refine OK.region 0 O11_1 (by kernel_rfl) ?_
 refine RL.simK (K' := [(0, .slice Ap0 a0.length cp0)]) [] (RFacts.nil _ _ _) 1 [.no] (by kernel_rfl) (by kernel_rfl) ?_
 refine RL.nil (by kernel_rfl) ?_
 refine QN.then_ ?_
 refine OK.seq K11_4 K11_13 (by kernel_rfl) ?_
 refine OK.seq K11_5 K11_7 (by kernel_rfl) ?_
 refine OK.region 1 O11_5 (by kernel_rfl) ?_
 refine RL.simK (K' := [(7, .bool (decide ((a0.length : Int) > 12))), (0, .slice Ap0 a0.length cp0)]) [] (RFacts.nil _ _ _) 3 [.no, .no, .no] (by kernel_rfl) (by kernel_rfl) ?_
 refine RL.nil (by kernel_rfl) ?_
 refine QN.then_ ?_
 refine OK.cond (.tmp 7) K11_8 K11_12 (decide ((a0.length : Int) > 12)) (by kernel_rfl) (by kernel_rfl) (by kernel_rfl) (fun hb => ?_) (fun hb => ?_)
 ·skip
  have hc := (of_decide_eq_true hb)
  rw [if_pos hc] at H
  clear hb
  refine OK.seq K11_9 K11_11 (by kernel_rfl) ?_
  refine OK.region 2 O11_9 (by kernel_rfl) ?_
  refine RL.simK (K' := [(2, .bool false)]) [] (RFacts.nil _ _ _) 1 [.no] (by kernel_rfl) (by kernel_rfl) ?_
  refine RL.nil (by kernel_rfl) ?_
  refine QN.then_ ?_
  refine OK.ret (by kernel_rfl) ?_
  refine QN.thenR ?_
  obtain rfl := Option.some.inj H
  refine QN.body rfl [] (RFacts.nil _ _ _) (.no) (.bool false) (by kernel_rfl) (by kernel_rfl) (by kernel_rfl) ?_ _ (.inr rfl)
  exact fun w' hs' => ⟨_, rfl, I0, rfl, hs'.got _ .slnil⟩
 ·skip
  have hc := (of_decide_eq_false hb)
  rw [if_neg hc] at H
  clear hb
  refine OK.skip (by kernel_rfl) ?_
  refine QN.then_ ?_
  refine OK.seq K11_14 K11_42 (by kernel_rfl) ?_
  refine OK.seq K11_15 K11_17 (by kernel_rfl) ?_
  refine OK.region 3 O11_15 (by kernel_rfl) ?_
  refine RL.simK (K' := [(10, .int .i64 0), (9, .int .i64 (a0.length : Int)), (8, .slice Ap0 a0.length cp0), (0, .slice Ap0 a0.length cp0)]) [] (RFacts.nil _ _ _) 3 [.no, .no, .no] (by kernel_rfl) (by kernel_rfl) ?_
  refine RL.nil (by kernel_rfl) ?_
  refine QN.then_ ?_
  refine OK.join (fun K' I' _ L' X' => K' = [] ∧ L' = [] ∧ X' = [] ∧ Imm.le I0 I' ∧ assign_Valid.k1 (Sum.inl ()) = some r) ?_ ?_
  ·rintro _ I1 nx1 _ _ ⟨rfl, rfl, rfl, hi1, H⟩
   replace H : (some true) = some r := H
   refine QN.then_ ?_
   refine OK.seq K11_43 K11_45 (by kernel_rfl) ?_
   refine OK.region 9 O11_43 (by kernel_rfl) ?_
   refine RL.simK (K' := [(2, .bool true)]) [] (RFacts.nil _ _ _) 1 [.no] (by kernel_rfl) (by kernel_rfl) ?_
   refine RL.nil (by kernel_rfl) ?_
   refine QN.then_ ?_
   refine OK.ret (by kernel_rfl) ?_
   obtain rfl := Option.some.inj H
   refine QN.body rfl [] (RFacts.nil _ _ _) (.no) (.bool true) (by kernel_rfl) (by kernel_rfl) (by kernel_rfl) ?_ _ (.inr rfl)
   exact fun w' hs' => ⟨_, rfl, I1, rfl, hs'.got _ .slnil⟩
  ·intro Q_1 hJ1 hQ1
   obtain ⟨y1, H, HK1⟩ := Option.bind_eq_some_iff.mp H
   refine OK.block 0 K11_18 (by kernel_rfl) ?_
   refine OK.sub (K' := [(0, .slice Ap0 a0.length cp0), (8, .slice Ap0 a0.length cp0), (9, .int .i64 (a0.length : Int)), (10, .int .i64 0)]) (L' := []) (by kernel_rfl) .slnil (.refl _) ?_
   refine OK.loopInv K11_19 (by kernel_rfl) (fun n_ K' I' _ L' X' => ∃ (x1 : Int), K' = [(0, .slice Ap0 a0.length cp0), (8, .slice Ap0 a0.length cp0), (9, .int .i64 (a0.length : Int)), (10, .int .i64 x1)] ∧ L' = [] ∧ X' = [] ∧ Imm.le I0 I' ∧ assign_Valid.l1 a0 n_ x1 = some y1) k ⟨0, rfl, rfl, rfl, (Imm.le_refl _), H⟩ ?_ ?_
   ·rintro _ _ _ _ _ ⟨x1, rfl, rfl, rfl, _, H⟩
    cases H
   ·rintro kq1 _ I2 nx2 _ _ ⟨x1, rfl, rfl, rfl, hi2, H⟩ Q_l1 hJ2 hQ2
    replace H : (if x1 < (a0.length : Int) then (if 0 ≤ x1 then (if x1 < (a0.length : Int) then ((if 0 < (a0.length : Int) then (if ((a0.getD (x1).toNat []).length : Int) ≠ ((a0.getD (0 : Int).toNat []).length : Int) then (some true) else (if ((a0.getD (x1).toNat []).length : Int) > 12 then (some true) else ((slices_ContainsFunc_int64_int64s0.f kq1 (a0.getD (x1).toNat [])).bind fun t1 => (some t1)))) else none).bind (fun x2 => (if x2 = true then (some (Sum.inr false)) else (assign_Valid.l1 a0 kq1 (W .i64 (x1 + 1)))))) else none) else none) else (some (Sum.inl ()))) = some y1 := H
    refine OK.seq K11_20 K11_22 (by kernel_rfl) ?_
    refine OK.region 4 O11_20 (by kernel_rfl) ?_
    refine RL.simK (K' := [(11, .bool (decide (x1 < (a0.length : Int)))), (0, .slice Ap0 a0.length cp0), (8, .slice Ap0 a0.length cp0), (9, .int .i64 (a0.length : Int)), (10, .int .i64 x1)]) [] (RFacts.nil _ _ _) 1 [.no] (by kernel_rfl) (by kernel_rfl) ?_
    refine RL.nil (by kernel_rfl) ?_
    refine QN.then_ ?_
    refine OK.seq K11_23 K11_26 (by kernel_rfl) ?_
    refine OK.cond (.tmp 11) K11_24 K11_25 (decide (x1 < (a0.length : Int))) (by kernel_rfl) (by kernel_rfl) (by kernel_rfl) (fun hb => ?_) (fun hb => ?_)
    ·skip
     have hc := (of_decide_eq_true hb)
     rw [if_pos hc] at H
     clear hb
     refine OK.skip (by kernel_rfl) ?_
     refine QN.then_ ?_
     refine OK.seq K11_27 K11_40 (by kernel_rfl) ?_
     refine OK.block 1 K11_28 (by kernel_rfl) ?_
     refine OK.seq K11_29 K11_31 (by kernel_rfl) ?_
     refine OK.region 5 O11_29 (by kernel_rfl) ?_
     by_cases hib0 : 0 ≤ x1
     case neg => rw [if_neg hib0] at H; cases H
     rw [if_pos hib0] at H
     by_cases hib1 : x1 < (a0.length : Int)
     case neg => rw [if_neg hib1] at H; cases H
     rw [if_pos hib1] at H
     obtain ⟨g1_, o1_, hA1_, A1_, c1_, hl1_, hr1_, hc1_⟩ := Ty.slice_at (Rd.ext hi2 hrp0) x1 hib0 hib1
     refine RL.idx 1 .i64 x1 hA1_ a0.length cp0 (some 12) (by kernel_rfl) (by kernel_rfl) (T := 22) (e := 24) (by kernel_rfl) (by kernel_rfl) hib0 hib1 (K' := [(12, .pointer (some ⟨g1_, o1_ + (x1).toNat * 1, none⟩)), (11, .bool (decide (x1 < (a0.length : Int)))), (0, .slice Ap0 a0.length cp0), (8, .slice Ap0 a0.length cp0), (9, .int .i64 (a0.length : Int)), (10, .int .i64 x1)]) (by kernel_rfl) ?_
     refine RL.simK (K' := [(4, .slice A1_ ((a0.getD (x1).toNat []).length) c1_), (0, .slice Ap0 a0.length cp0), (8, .slice Ap0 a0.length cp0), (9, .int .i64 (a0.length : Int)), (10, .int .i64 x1)]) [(⟨g1_, o1_ + (x1).toNat * 1, none⟩, .slice A1_ ((a0.getD (x1).toNat []).length) c1_)] (RFacts.imm (hc1_ 0 _ rfl) (RFacts.nil _ _ _)) 2 [.r 0, .no] (by kernel_rfl) (by kernel_rfl) ?_
     refine RL.nil (by kernel_rfl) ?_
     refine QN.then_ ?_
     refine OK.seq K11_32 K11_34 (by kernel_rfl) ?_
     refine OK.join (fun K' I' _ L' X' => ∃ (x2 : Bool), K' = [(0, .slice Ap0 a0.length cp0), (8, .slice Ap0 a0.length cp0), (9, .int .i64 (a0.length : Int)), (10, .int .i64 x1), (29, .bool x2)] ∧ L' = [] ∧ X' = [] ∧ Imm.le I2 I' ∧ (if x2 = true then (some (Sum.inr false)) else (assign_Valid.l1 a0 kq1 (W .i64 (x1 + 1)))) = some y1) ?_ ?_
     ·rintro _ I3 nx3 _ _ ⟨x2, rfl, rfl, rfl, hi3, H⟩
      replace H : (if x2 = true then (some (Sum.inr false)) else (assign_Valid.l1 a0 kq1 (W .i64 (x1 + 1)))) = some y1 := H
      refine QN.then_ ?_
      refine OK.cond (.tmp 29) K11_35 K11_39 x2 (by kernel_rfl) (by kernel_rfl) (by kernel_rfl) (fun hb => ?_) (fun hb => ?_)
      ·skip
       have hc := hb
       rw [if_pos hc] at H
       clear hb
       refine OK.seq K11_36 K11_38 (by kernel_rfl) ?_
       refine OK.region 7 O11_36 (by kernel_rfl) ?_
       refine RL.simK (K' := [(2, .bool false)]) [] (RFacts.nil _ _ _) 1 [.no] (by kernel_rfl) (by kernel_rfl) ?_
       refine RL.nil (by kernel_rfl) ?_
       refine QN.then_ ?_
       refine OK.ret (by kernel_rfl) ?_
       refine QN.blkR ?_
       refine QN.thenR ?_
       refine QN.outR hQ2 ?_
       refine QN.blkR ?_
       refine QN.outR hQ1 ?_
       refine QN.thenR ?_
       obtain rfl := Option.some.inj H
       replace H : some false = some r := HK1
       obtain rfl := Option.some.inj H
       refine QN.body rfl [] (RFacts.nil _ _ _) (.no) (.bool false) (by kernel_rfl) (by kernel_rfl) (by kernel_rfl) ?_ _ (.inr rfl)
       exact fun w' hs' => ⟨_, rfl, I3, rfl, hs'.got _ .slnil⟩
      ·skip
       have hc := (Bool.eq_false_iff.1 hb)
       rw [if_neg hc] at H
       clear hb
       refine OK.skip (by kernel_rfl) ?_
       refine QN.blkN ?_
       refine QN.then_ ?_
       refine OK.region 8 O11_40 (by kernel_rfl) ?_
       refine RL.simK (K' := [(10, .int .i64 (W .i64 (x1 + 1))), (0, .slice Ap0 a0.length cp0), (8, .slice Ap0 a0.length cp0), (9, .int .i64 (a0.length : Int))]) [] (RFacts.nil _ _ _) 2 [.no, .no] (by kernel_rfl) (by kernel_rfl) ?_
       refine RL.nil (by kernel_rfl) ?_
       refine QN.sub (K' := [(0, .slice Ap0 a0.length cp0), (8, .slice Ap0 a0.length cp0), (9, .int .i64 (a0.length : Int)), (10, .int .i64 (W .i64 (x1 + 1)))]) (L' := []) (by kernel_rfl) .slnil (.refl _) ?_
       exact hJ2 _ _ _ _ _ ⟨W .i64 (x1 + 1), rfl, rfl, rfl, (Imm.le_trans hi2 hi3), H⟩
     ·intro Q_2 hJ3 hQ3
      obtain ⟨y2, H, HK2⟩ := Option.bind_eq_some_iff.mp H
      refine OK.region 6 O11_32 (by kernel_rfl) ?_
      refine RL.simK (K' := [(16, .slice Ap0 a0.length cp0), (15, .int .i64 ((a0.getD (x1).toNat []).length : Int)), (4, .slice A1_ ((a0.getD (x1).toNat []).length) c1_), (0, .slice Ap0 a0.length cp0), (8, .slice Ap0 a0.length cp0), (9, .int .i64 (a0.length : Int)), (10, .int .i64 x1)]) [] (RFacts.nil _ _ _) 3 [.no, .no, .no] (by kernel_rfl) (by kernel_rfl) ?_
      have hib0 : (0 : Int) ≤ 0 := by decide
      by_cases hib1 : 0 < (a0.length : Int)
      case neg => rw [if_neg hib1] at H; cases H
      rw [if_pos hib1] at H
      obtain ⟨g2_, o2_, hA2_, A2_, c2_, hl2_, hr2_, hc2_⟩ := Ty.slice_at (Rd.ext hi2 hrp0) 0 hib0 hib1
      refine RL.idx 1 .i64 0 hA2_ a0.length cp0 (some 17) (by kernel_rfl) (by kernel_rfl) (T := 22) (e := 24) (by kernel_rfl) (by kernel_rfl) hib0 hib1 (K' := [(17, .pointer (some ⟨g2_, o2_ + (0 : Int).toNat * 1, none⟩)), (16, .slice Ap0 a0.length cp0), (15, .int .i64 ((a0.getD (x1).toNat []).length : Int)), (4, .slice A1_ ((a0.getD (x1).toNat []).length) c1_), (0, .slice Ap0 a0.length cp0), (8, .slice Ap0 a0.length cp0), (9, .int .i64 (a0.length : Int)), (10, .int .i64 x1)]) (by kernel_rfl) ?_
      refine RL.simK (K' := [(21, .bool (((a0.getD (x1).toNat []).length : Int) != ((a0.getD (0 : Int).toNat []).length : Int))), (4, .slice A1_ ((a0.getD (x1).toNat []).length) c1_), (0, .slice Ap0 a0.length cp0), (8, .slice Ap0 a0.length cp0), (9, .int .i64 (a0.length : Int)), (10, .int .i64 x1)]) [(⟨g2_, o2_ + (0 : Int).toNat * 1, none⟩, .slice A2_ ((a0.getD (0 : Int).toNat []).length) c2_)] (RFacts.imm (hc2_ 0 _ rfl) (RFacts.nil _ _ _)) 4 [.r 0, .no, .no, .no] (by kernel_rfl) (by kernel_rfl) ?_
      refine RL.cases (((a0.getD (x1).toNat []).length : Int) != ((a0.getD (0 : Int).toNat []).length : Int)) (fun hb => ?_) (fun hb => ?_)
      ·have hc := (bne_iff_ne.1 hb)
       rw [hb]
       rw [if_pos hc] at H; clear hb
       refine RL.simK (K' := [(29, .bool true), (0, .slice Ap0 a0.length cp0), (8, .slice Ap0 a0.length cp0), (9, .int .i64 (a0.length : Int)), (10, .int .i64 x1)]) [] (RFacts.nil _ _ _) 8 [.no, .no, .no, .no, .no, .no, .no, .no] (by kernel_rfl) (by kernel_rfl) ?_
       refine RL.nil (by kernel_rfl) ?_
       obtain rfl := Option.some.inj H
       refine QN.sub (K' := [(0, .slice Ap0 a0.length cp0), (8, .slice Ap0 a0.length cp0), (9, .int .i64 (a0.length : Int)), (10, .int .i64 x1), (29, .bool true)]) (L' := []) (by kernel_rfl) .slnil (.refl _) ?_
       exact hJ3 _ _ _ _ _ ⟨true, rfl, rfl, rfl, (Imm.le_refl _), HK2⟩
      ·have hc := (not_not_intro (bne_eq_false_iff_eq.1 hb))
       rw [hb]
       rw [if_neg hc] at H; clear hb
       refine RL.simK (K' := [(26, .bool (decide (((a0.getD (x1).toNat []).length : Int) > 12))), (4, .slice A1_ ((a0.getD (x1).toNat []).length) c1_), (0, .slice Ap0 a0.length cp0), (8, .slice Ap0 a0.length cp0), (9, .int .i64 (a0.length : Int)), (10, .int .i64 x1)]) [] (RFacts.nil _ _ _) 5 [.no, .no, .no, .no, .no] (by kernel_rfl) (by kernel_rfl) ?_
       refine RL.cases (decide (((a0.getD (x1).toNat []).length : Int) > 12)) (fun hb => ?_) (fun hb => ?_)
       ·have hc := (of_decide_eq_true hb)
        rw [hb]
        rw [if_pos hc] at H; clear hb
        refine RL.simK (K' := [(29, .bool true), (0, .slice Ap0 a0.length cp0), (8, .slice Ap0 a0.length cp0), (9, .int .i64 (a0.length : Int)), (10, .int .i64 x1)]) [] (RFacts.nil _ _ _) 3 [.no, .no, .no] (by kernel_rfl) (by kernel_rfl) ?_
        refine RL.nil (by kernel_rfl) ?_
        obtain rfl := Option.some.inj H
        refine QN.sub (K' := [(0, .slice Ap0 a0.length cp0), (8, .slice Ap0 a0.length cp0), (9, .int .i64 (a0.length : Int)), (10, .int .i64 x1), (29, .bool true)]) (L' := []) (by kernel_rfl) .slnil (.refl _) ?_
        exact hJ3 _ _ _ _ _ ⟨true, rfl, rfl, rfl, (Imm.le_refl _), HK2⟩
       ·have hc := (of_decide_eq_false hb)
        rw [hb]
        rw [if_neg hc] at H; clear hb
        refine RL.simK (K' := [(27, .slice A1_ ((a0.getD (x1).toNat []).length) c1_), (26, .bool false), (0, .slice Ap0 a0.length cp0), (8, .slice Ap0 a0.length cp0), (9, .int .i64 (a0.length : Int)), (10, .int .i64 x1)]) [] (RFacts.nil _ _ _) 1 [.no] (by kernel_rfl) (by kernel_rfl) ?_
        obtain ⟨t1, hA1, H⟩ := Option.bind_eq_some_iff.mp H
        refine RL.callM (L1 := []) (L2 := []) (X1 := []) (X2 := []) rfl rfl 27 [.slice A1_ ((a0.getD (x1).toNat []).length) c1_, .func (.func 28) #[] #[]] (some 28) (fun w => slices_ContainsFunc_int64_int64s0.Post (SM [] []) (a0.getD (x1).toNat []) A1_ c1_ I2 w t1) (by kernel_rfl) (by kernel_rfl) (fun w hs => slices_ContainsFunc_int64_int64s0.calls kq1 I2 (a0.getD (x1).toNat []) A1_ c1_ w hs hl1_ hr1_ t1 hA1) ?_
        rintro w v w' hs ⟨I4, rfl, hg⟩
        have hi4 : Imm.le I2 I4 := hg.le
        refine RL.resume (L' := []) (X' := []) rfl (hs.outof hg) ?_
        clear hs hg
        generalize w'.heap.size = nx4
        clear w w'
        refine RL.simK (K' := [(29, .bool t1), (0, .slice Ap0 a0.length cp0), (8, .slice Ap0 a0.length cp0), (9, .int .i64 (a0.length : Int)), (10, .int .i64 x1)]) [] (RFacts.nil _ _ _) 1 [.no] (by kernel_rfl) (by kernel_rfl) ?_
        refine RL.nil (by kernel_rfl) ?_
        obtain rfl := Option.some.inj H
        refine QN.sub (K' := [(0, .slice Ap0 a0.length cp0), (8, .slice Ap0 a0.length cp0), (9, .int .i64 (a0.length : Int)), (10, .int .i64 x1), (29, .bool t1)]) (L' := []) (by kernel_rfl) .slnil (.refl _) ?_
        exact hJ3 _ _ _ _ _ ⟨t1, rfl, rfl, rfl, hi4, HK2⟩
    ·skip
     have hc := (of_decide_eq_false hb)
     rw [if_neg hc] at H
     clear hb
     refine OK.exit 0 (by kernel_rfl) ?_
     refine QN.thenE ?_
     refine QN.outE hQ2 ?_
     refine QN.blkE ?_
     obtain rfl := Option.some.inj H
     refine QN.sub (K' := []) (L' := []) (by kernel_rfl) .slnil (.refl _) ?_
     exact hJ1 _ _ _ _ _ ⟨rfl, rfl, rfl, hi2, HK1⟩

end Go.Proofs.Ytdmhbcgmimfjcaa
namespace Go.Proofs.Ytdmhbcgmimfjcaa
open Go Go.Proofs.Ytdmhbcgmimfjcaa.RW
set_option linter.unusedVariables false
set_option maxRecDepth 100000
set_option maxHeartbeats 8000000

/-! ### armillaryref22_Same: function 17, armillary/armillaryref22.Same -/
noncomputable def K17_0 : Code := cBody Try.f17
noncomputable def K17_1 : Code := cL K17_0
noncomputable def O17_1 : List Oper := cOps K17_1
noncomputable def K17_3 : Code := cR K17_0
noncomputable def K17_4 : Code := cL K17_3
noncomputable def K17_5 : Code := cL K17_4
noncomputable def O17_5 : List Oper := cOps K17_5
noncomputable def K17_7 : Code := cR K17_4
noncomputable def K17_8 : Code := cL K17_7
noncomputable def K17_9 : Code := cL K17_8
noncomputable def O17_9 : List Oper := cOps K17_9
noncomputable def K17_11 : Code := cR K17_8
noncomputable def K17_12 : Code := cR K17_7
noncomputable def K17_13 : Code := cR K17_3
noncomputable def K17_14 : Code := cL K17_13
noncomputable def K17_15 : Code := cL K17_14
noncomputable def O17_15 : List Oper := cOps K17_15
noncomputable def K17_17 : Code := cR K17_14
noncomputable def K17_18 : Code := cL K17_17
noncomputable def K17_19 : Code := cL K17_18
noncomputable def K17_20 : Code := cL K17_19
noncomputable def K17_21 : Code := cL K17_20
noncomputable def O17_21 : List Oper := cOps K17_21
noncomputable def K17_23 : Code := cR K17_20
noncomputable def K17_24 : Code := cL K17_23
noncomputable def K17_25 : Code := cR K17_23
noncomputable def K17_26 : Code := cR K17_19
noncomputable def K17_27 : Code := cL K17_26
noncomputable def K17_28 : Code := cL K17_27
noncomputable def K17_29 : Code := cL K17_28
noncomputable def O17_29 : List Oper := cOps K17_29
noncomputable def K17_31 : Code := cR K17_28
noncomputable def K17_32 : Code := cL K17_31
noncomputable def K17_33 : Code := cL K17_32
noncomputable def O17_33 : List Oper := cOps K17_33
noncomputable def K17_35 : Code := cR K17_32
noncomputable def K17_36 : Code := cR K17_31
noncomputable def K17_37 : Code := cR K17_26
noncomputable def O17_37 : List Oper := cOps K17_37
noncomputable def K17_39 : Code := cR K17_13
noncomputable def K17_40 : Code := cL K17_39
noncomputable def O17_40 : List Oper := cOps K17_40
noncomputable def K17_42 : Code := cR K17_39
def armillaryref22_Same.k1  : (Unit) ⊕ (Bool) → Option (Bool)
 | .inl () => (some true)
 | .inr r_ => some r_
def armillaryref22_Same.l1 (a0 : List Int) (a1 : List Int) : Nat → Int → Option ((Unit) ⊕ (Bool))
 | 0, _ => none
 | k + 1, x1 => (if x1 < (a0.length : Int) then (if 0 ≤ x1 then (if x1 < (a0.length : Int) then (if 0 ≤ x1 then (if x1 < (a1.length : Int) then (if (a0.getD (x1).toNat 0) ≠ (a1.getD (x1).toNat 0) then (some (Sum.inr false)) else (armillaryref22_Same.l1 a0 a1 k (W .i64 (x1 + 1)))) else none) else none) else none) else none) else (some (Sum.inl ())))
def armillaryref22_Same.f (k : Nat) (a0 : List Int) (a1 : List Int) : Option (Bool) := (if (a0.length : Int) ≠ (a1.length : Int) then (some false) else ((armillaryref22_Same.l1 a0 a1 k 0).bind (armillaryref22_Same.k1)))
def armillaryref22_Same.Post (I : Imm) (w : World) (r : Bool) (v : Value) (w' : World) : Prop :=
 ∃ (J : Imm), v = .bool r ∧ Got w w' I J []
noncomputable def a17_29n : List Nat := [0, 0, 3, 7, 0, 0, 48, 112, 255]
theorem a17_29 : ancs O17_29 [] = a17_29n := by kernel_rfl
theorem a17_29o : drawOk O17_29 a17_29n 8 = true := by kernel_rfl
noncomputable def u17d1l  : List Ld :=
 []
noncomputable def u17d1g (x1 : Int) (g1_ : Nat) (o1_ : Nat) (g2_ : Nat) (o2_ : Nat) : List (Nat × ((Nat → Wt) → Value)) := [(2, fun u => .pointer (some ⟨g1_, o1_ + (x1).toNat * 1, none⟩)), (6, fun u => .pointer (some ⟨g2_, o2_ + (x1).toNat * 1, none⟩))]
noncomputable def u17d1q (a0 : List Int) (Ap0 : Option Addr) (cp0 : Nat) (a1 : List Int) (Ap1 : Option Addr) (cp1 : Nat) (x1 : Int) (g1_ : Nat) (o1_ : Nat) (g2_ : Nat) (o2_ : Nat) (u : Nat → Wt) : Option (List Value × List (Nat × Value) × List (Nat × Nat)) := qSim Try.prog [(⟨g1_, o1_ + (x1).toNat * 1, none⟩, .int .i64 (a0.getD (x1).toNat 0)), (⟨g2_, o2_ + (x1).toNat * 1, none⟩, .int .i64 (a1.getD (x1).toNat 0))] [] O17_29 ⟨26, []⟩ (Ld.vl u17d1l) (u17d1g x1 g1_ o1_ g2_ o2_) u [.no, .no, .no, .r 0, .no, .no, .no, .r 1] 0 (O17_29.take 8) [(14, .bool (decide (x1 < (a0.length : Int)))), (0, .slice Ap0 a0.length cp0), (1, .slice Ap1 a1.length cp1), (5, .int .i64 x1)]
noncomputable def u17d1s (a0 : List Int) (Ap0 : Option Addr) (cp0 : Nat) (a1 : List Int) (Ap1 : Option Addr) (cp1 : Nat) (x1 : Int) (g1_ : Nat) (o1_ : Nat) (g2_ : Nat) (o2_ : Nat) (u : Nat → Wt) : List Value := [.slice Ap0 a0.length cp0, .int .i64 x1, .pointer (some ⟨g1_, o1_ + (x1).toNat * 1, none⟩), .int .i64 (a0.getD (x1).toNat 0), .slice Ap1 a1.length cp1, .int .i64 x1, .pointer (some ⟨g2_, o2_ + (x1).toNat * 1, none⟩), .int .i64 (a1.getD (x1).toNat 0)]
noncomputable def u17d1f (a0 : List Int) (Ap0 : Option Addr) (cp0 : Nat) (a1 : List Int) (Ap1 : Option Addr) (cp1 : Nat) (x1 : Int) (g1_ : Nat) (o1_ : Nat) (g2_ : Nat) (o2_ : Nat) (i : Nat) (u : Nat → Wt) : List (Nat × Value) := foldPut ⟨26, []⟩ [(14, .bool (decide (x1 < (a0.length : Int)))), (0, .slice Ap0 a0.length cp0), (1, .slice Ap1 a1.length cp1), (5, .int .i64 x1)] (O17_29.take i) (((u17d1s a0 Ap0 cp0 a1 Ap1 cp1 x1 g1_ o1_ g2_ o2_) u).take i)
theorem u17d1v (a0 : List Int) (Ap0 : Option Addr) (cp0 : Nat) (a1 : List Int) (Ap1 : Option Addr) (cp1 : Nat) (x1 : Int) (g1_ : Nat) (o1_ : Nat) (g2_ : Nat) (o2_ : Nat) (u : Nat → Wt) : (u17d1q a0 Ap0 cp0 a1 Ap1 cp1 x1 g1_ o1_ g2_ o2_ u).map (fun x => (x.1, x.2.1)) = some ((u17d1s a0 Ap0 cp0 a1 Ap1 cp1 x1 g1_ o1_ g2_ o2_) u, (u17d1f a0 Ap0 cp0 a1 Ap1 cp1 x1 g1_ o1_ g2_ o2_ 8) u) := by kernel_rfl
theorem u17d1e (a0 : List Int) (Ap0 : Option Addr) (cp0 : Nat) (a1 : List Int) (Ap1 : Option Addr) (cp1 : Nat) (x1 : Int) (g1_ : Nat) (o1_ : Nat) (g2_ : Nat) (o2_ : Nat) (u : Nat → Wt) : (u17d1q a0 Ap0 cp0 a1 Ap1 cp1 x1 g1_ o1_ g2_ o2_ u).map (fun x => x.2.2.map (·.1)) = (u17d1q a0 Ap0 cp0 a1 Ap1 cp1 x1 g1_ o1_ g2_ o2_ u).map (fun x => x.2.2.map (·.2)) := by kernel_rfl
theorem armillaryref22_Same.calls (k : Nat) (I0 : Imm) (a0 : List Int) (Ap0 : Option Addr) (cp0 : Nat) (a1 : List Int) (Ap1 : Option Addr) (cp1 : Nat) (w : World) (hI : I0.at_ w) (hlp0 : a0.length ≤ cp0) (hrp0 : Rd (Ty.int .i64) I0 Ap0 a0) (hlp1 : a1.length ≤ cp1) (hrp1 : Rd (Ty.int .i64) I0 Ap1 a1) (r : Bool) (h : armillaryref22_Same.f k a0 a1 = some r) :
  Calls Try.prog 17 [.slice Ap0 a0.length cp0, .slice Ap1 a1.length cp1].toArray w fun e w' => ∃ v, e = .returned v ∧ armillaryref22_Same.Post I0 w r v w' := by
 have H : (if (a0.length : Int) ≠ (a1.length : Int) then (some false) else ((armillaryref22_Same.l1 a0 a1 k 0).bind (armillaryref22_Same.k1))) = some r := h
 clear h
 refine calls_body Try.func17 (by kernel_rfl) 26 (by kernel_rfl) (by kernel_rfl) ⟨w, fun _ => False, I0⟩ I0 [] [(0, .slice Ap0 a0.length cp0), (1, .slice Ap1 a1.length cp1)] (by kernel_rfl) (Sat.start w _ I0 hI) ?_
 generalize w.heap.size = nx0
 show OK _ K17_0 _ _ _ _ _ _ _ _
 refine OK.seq K17_1 K17_3 (by kernel_rfl) ?_
 refine OK.region 0 O17_1 (by kernel_rfl) ?_
 refine RL.simK (K' := [(0, .slice Ap0 a0.length cp0), (1, .slice Ap1 a1.length cp1)]) [] (RFacts.nil _ _ _) 1 [.no] (by kernel_rfl) (by kernel_rfl) ?_
 refine RL.nil (by kernel_rfl) ?_
 refine QN.then_ ?_
 refine OK.seq K17_4 K17_13 (by kernel_rfl) ?_
 refine OK.seq K17_5 K17_7 (by kernel_rfl) ?_
 refine OK.region 1 O17_5 (by kernel_rfl) ?_
 refine RL.simK (K' := [(10, .bool ((a0.length : Int) != (a1.length : Int))), (0, .slice Ap0 a0.length cp0), (1, .slice Ap1 a1.length cp1)]) [] (RFacts.nil _ _ _) 5 [.no, .no, .no, .no, .no] (by kernel_rfl) (by kernel_rfl) ?_
 refine RL.nil (by kernel_rfl) ?_
 refine QN.then_ ?_
 refine OK.cond (.tmp 10) K17_8 K17_12 ((a0.length : Int) != (a1.length : Int)) (by kernel_rfl) (by kernel_rfl) (by kernel_rfl) (fun hb => ?_) (fun hb => ?_)
 ·skip
  have hc := (bne_iff_ne.1 hb)
  rw [if_pos hc] at H
  clear hb
  refine OK.seq K17_9 K17_11 (by kernel_rfl) ?_
  refine OK.region 2 O17_9 (by kernel_rfl) ?_
  refine RL.simK (K' := [(4, .bool false)]) [] (RFacts.nil _ _ _) 1 [.no] (by kernel_rfl) (by kernel_rfl) ?_
  refine RL.nil (by kernel_rfl) ?_
  refine QN.then_ ?_
  refine OK.ret (by kernel_rfl) ?_
  refine QN.thenR ?_
  obtain rfl := Option.some.inj H
  refine QN.body rfl [] (RFacts.nil _ _ _) (.no) (.bool false) (by kernel_rfl) (by kernel_rfl) (by kernel_rfl) ?_ _ (.inr rfl)
  exact fun w' hs' => ⟨_, rfl, I0, rfl, hs'.got _ .slnil⟩
 ·skip
  have hc := (not_not_intro (bne_eq_false_iff_eq.1 hb))
  rw [if_neg hc] at H
  clear hb
  refine OK.skip (by kernel_rfl) ?_
  refine QN.then_ ?_
  refine OK.seq K17_14 K17_39 (by kernel_rfl) ?_
  refine OK.seq K17_15 K17_17 (by kernel_rfl) ?_
  refine OK.region 3 O17_15 (by kernel_rfl) ?_
  refine RL.simK (K' := [(5, .int .i64 0), (0, .slice Ap0 a0.length cp0), (1, .slice Ap1 a1.length cp1)]) [] (RFacts.nil _ _ _) 1 [.no] (by kernel_rfl) (by kernel_rfl) ?_
  refine RL.nil (by kernel_rfl) ?_
  refine QN.then_ ?_
  refine OK.join (fun K' I' _ L' X' => K' = [] ∧ L' = [] ∧ X' = [] ∧ Imm.le I0 I' ∧ armillaryref22_Same.k1 (Sum.inl ()) = some r) ?_ ?_
  ·rintro _ I1 nx1 _ _ ⟨rfl, rfl, rfl, hi1, H⟩
   replace H : (some true) = some r := H
   refine QN.then_ ?_
   refine OK.seq K17_40 K17_42 (by kernel_rfl) ?_
   refine OK.region 8 O17_40 (by kernel_rfl) ?_
   refine RL.simK (K' := [(4, .bool true)]) [] (RFacts.nil _ _ _) 1 [.no] (by kernel_rfl) (by kernel_rfl) ?_
   refine RL.nil (by kernel_rfl) ?_
   refine QN.then_ ?_
   refine OK.ret (by kernel_rfl) ?_
   obtain rfl := Option.some.inj H
   refine QN.body rfl [] (RFacts.nil _ _ _) (.no) (.bool true) (by kernel_rfl) (by kernel_rfl) (by kernel_rfl) ?_ _ (.inr rfl)
   exact fun w' hs' => ⟨_, rfl, I1, rfl, hs'.got _ .slnil⟩
  ·intro Q_1 hJ1 hQ1
   obtain ⟨y1, H, HK1⟩ := Option.bind_eq_some_iff.mp H
   refine OK.block 0 K17_18 (by kernel_rfl) ?_
   refine OK.sub (K' := [(0, .slice Ap0 a0.length cp0), (1, .slice Ap1 a1.length cp1), (5, .int .i64 0)]) (L' := []) (by kernel_rfl) .slnil (.refl _) ?_
   refine OK.loopInv K17_19 (by kernel_rfl) (fun n_ K' I' _ L' X' => ∃ (x1 : Int), K' = [(0, .slice Ap0 a0.length cp0), (1, .slice Ap1 a1.length cp1), (5, .int .i64 x1)] ∧ L' = [] ∧ X' = [] ∧ Imm.le I0 I' ∧ armillaryref22_Same.l1 a0 a1 n_ x1 = some y1) k ⟨0, rfl, rfl, rfl, (Imm.le_refl _), H⟩ ?_ ?_
   ·rintro _ _ _ _ _ ⟨x1, rfl, rfl, rfl, _, H⟩
    cases H
   ·rintro kq1 _ I2 nx2 _ _ ⟨x1, rfl, rfl, rfl, hi2, H⟩ Q_l1 hJ2 hQ2
    replace H : (if x1 < (a0.length : Int) then (if 0 ≤ x1 then (if x1 < (a0.length : Int) then (if 0 ≤ x1 then (if x1 < (a1.length : Int) then (if (a0.getD (x1).toNat 0) ≠ (a1.getD (x1).toNat 0) then (some (Sum.inr false)) else (armillaryref22_Same.l1 a0 a1 kq1 (W .i64 (x1 + 1)))) else none) else none) else none) else none) else (some (Sum.inl ()))) = some y1 := H
    refine OK.seq K17_20 K17_26 (by kernel_rfl) ?_
    refine OK.seq K17_21 K17_23 (by kernel_rfl) ?_
    refine OK.region 4 O17_21 (by kernel_rfl) ?_
    refine RL.simK (K' := [(14, .bool (decide (x1 < (a0.length : Int)))), (0, .slice Ap0 a0.length cp0), (1, .slice Ap1 a1.length cp1), (5, .int .i64 x1)]) [] (RFacts.nil _ _ _) 4 [.no, .no, .no, .no] (by kernel_rfl) (by kernel_rfl) ?_
    refine RL.nil (by kernel_rfl) ?_
    refine QN.then_ ?_
    refine OK.cond (.tmp 14) K17_24 K17_25 (decide (x1 < (a0.length : Int))) (by kernel_rfl) (by kernel_rfl) (by kernel_rfl) (fun hb => ?_) (fun hb => ?_)
    ·skip
     have hc := (of_decide_eq_true hb)
     rw [if_pos hc] at H
     clear hb
     refine OK.skip (by kernel_rfl) ?_
     refine QN.then_ ?_
     refine OK.seq K17_27 K17_37 (by kernel_rfl) ?_
     refine OK.block 1 K17_28 (by kernel_rfl) ?_
     refine OK.seq K17_29 K17_31 (by kernel_rfl) ?_
     by_cases hi0_1 : 0 ≤ x1
     case neg => rw [if_neg hi0_1] at H; cases H
     rw [if_pos hi0_1] at H
     by_cases hi1_1 : x1 < (a0.length : Int)
     case neg => rw [if_neg hi1_1] at H; cases H
     rw [if_pos hi1_1] at H
     obtain ⟨g1_, o1_, hA1_, hc1_⟩ := Ty.int_at (Rd.ext hi2 hrp0) x1 hi0_1 hi1_1
     by_cases hi0_2 : 0 ≤ x1
     case neg => rw [if_neg hi0_2] at H; cases H
     rw [if_pos hi0_2] at H
     by_cases hi1_2 : x1 < (a1.length : Int)
     case neg => rw [if_neg hi1_2] at H; cases H
     rw [if_pos hi1_2] at H
     obtain ⟨g2_, o2_, hA2_, hc2_⟩ := Ty.int_at (Rd.ext hi2 hrp1) x1 hi0_2 hi1_2
     refine OK.drawnC 6 8 O17_29 a17_29n (by kernel_rfl) (by kernel_rfl) u17d1l (u17d1g x1 g1_ o1_ g2_ o2_) [(⟨g1_, o1_ + (x1).toNat * 1, none⟩, .int .i64 (a0.getD (x1).toNat 0)), (⟨g2_, o2_ + (x1).toNat * 1, none⟩, .int .i64 (a1.getD (x1).toNat 0))] (RI.cons (hc1_ 0 _ rfl) (RI.cons (hc2_ 0 _ rfl) (RI.nil _))) [.no, .no, .no, .r 0, .no, .no, .no, .r 1] a17_29 a17_29o (by kernel_rfl) (by kernel_rfl) (u17d1s a0 Ap0 cp0 a1 Ap1 cp1 x1 g1_ o1_ g2_ o2_) (u17d1f a0 Ap0 cp0 a1 Ap1 cp1 x1 g1_ o1_ g2_ o2_ 8) (u17d1v a0 Ap0 cp0 a1 Ap1 cp1 x1 g1_ o1_ g2_ o2_) (u17d1e a0 Ap0 cp0 a1 Ap1 cp1 x1 g1_ o1_ g2_ o2_) [] framesOk.nil ?_ [u17d1f a0 Ap0 cp0 a1 Ap1 cp1 x1 g1_ o1_ g2_ o2_ 2, u17d1f a0 Ap0 cp0 a1 Ap1 cp1 x1 g1_ o1_ g2_ o2_ 6] (framesOk.cons (fun u => rfl) (framesOk.cons (fun u => rfl) framesOk.nil)) ?_ ?_
     ·refine LoudsG.nil
     ·refine Givens.cons (fun u w =>  ?_) (fun _ _ _ => rfl) (Givens.cons (fun u w =>  ?_) (fun _ _ _ => rfl) (Givens.nil))
      ·exact giv_idx (T := 23) (e := 3) 1 .i64 x1 hA1_ a0.length cp0 (by kernel_rfl) (by kernel_rfl) (by kernel_rfl) hi0_1 hi1_1 w
      ·exact giv_idx (T := 23) (e := 3) 1 .i64 x1 hA2_ a1.length cp1 (by kernel_rfl) (by kernel_rfl) (by kernel_rfl) hi0_2 hi1_2 w
     intro u I3 nx3 hi3 hF
     clear hF
     refine RL.norm (K' := [(24, .int .i64 (a1.getD (x1).toNat 0)), (23, .pointer (some ⟨g2_, o2_ + (x1).toNat * 1, none⟩)), (22, .int .i64 x1), (21, .slice Ap1 a1.length cp1), (20, .int .i64 (a0.getD (x1).toNat 0)), (19, .pointer (some ⟨g1_, o1_ + (x1).toNat * 1, none⟩)), (18, .int .i64 x1), (17, .slice Ap0 a0.length cp0), (14, .bool (decide (x1 < (a0.length : Int)))), (0, .slice Ap0 a0.length cp0), (1, .slice Ap1 a1.length cp1), (5, .int .i64 x1)]) (X' := []) (by kernel_rfl) rfl rfl rfl ?_
     refine RL.simK (K' := [(25, .bool ((a0.getD (x1).toNat 0) != (a1.getD (x1).toNat 0))), (0, .slice Ap0 a0.length cp0), (1, .slice Ap1 a1.length cp1), (5, .int .i64 x1)]) [] (RFacts.nil _ _ _) 1 [.no] (by kernel_rfl) (by kernel_rfl) ?_
     refine RL.nil (by kernel_rfl) ?_
     refine QN.then_ ?_
     refine OK.cond (.tmp 25) K17_32 K17_36 ((a0.getD (x1).toNat 0) != (a1.getD (x1).toNat 0)) (by kernel_rfl) (by kernel_rfl) (by kernel_rfl) (fun hb => ?_) (fun hb => ?_)
     ·skip
      have hc := (bne_iff_ne.1 hb)
      rw [if_pos hc] at H
      clear hb
      refine OK.seq K17_33 K17_35 (by kernel_rfl) ?_
      refine OK.region 7 O17_33 (by kernel_rfl) ?_
      refine RL.simK (K' := [(4, .bool false)]) [] (RFacts.nil _ _ _) 1 [.no] (by kernel_rfl) (by kernel_rfl) ?_
      refine RL.nil (by kernel_rfl) ?_
      refine QN.then_ ?_
      refine OK.ret (by kernel_rfl) ?_
      refine QN.blkR ?_
      refine QN.thenR ?_
      refine QN.outR hQ2 ?_
      refine QN.blkR ?_
      refine QN.outR hQ1 ?_
      refine QN.thenR ?_
      obtain rfl := Option.some.inj H
      replace H : some false = some r := HK1
      obtain rfl := Option.some.inj H
      refine QN.body rfl [] (RFacts.nil _ _ _) (.no) (.bool false) (by kernel_rfl) (by kernel_rfl) (by kernel_rfl) ?_ _ (.inr rfl)
      exact fun w' hs' => ⟨_, rfl, I3, rfl, hs'.got _ .slnil⟩
     ·skip
      have hc := (not_not_intro (bne_eq_false_iff_eq.1 hb))
      rw [if_neg hc] at H
      clear hb
      refine OK.skip (by kernel_rfl) ?_
      refine QN.blkN ?_
      refine QN.then_ ?_
      refine OK.region 5 O17_37 (by kernel_rfl) ?_
      refine RL.simK (K' := [(5, .int .i64 (W .i64 (x1 + 1))), (0, .slice Ap0 a0.length cp0), (1, .slice Ap1 a1.length cp1)]) [] (RFacts.nil _ _ _) 3 [.no, .no, .no] (by kernel_rfl) (by kernel_rfl) ?_
      refine RL.nil (by kernel_rfl) ?_
      refine QN.sub (K' := [(0, .slice Ap0 a0.length cp0), (1, .slice Ap1 a1.length cp1), (5, .int .i64 (W .i64 (x1 + 1)))]) (L' := []) (by kernel_rfl) .slnil (.refl _) ?_
      exact hJ2 _ _ _ _ _ ⟨W .i64 (x1 + 1), rfl, rfl, rfl, (Imm.le_trans hi2 hi3), H⟩
    ·skip
     have hc := (of_decide_eq_false hb)
     rw [if_neg hc] at H
     clear hb
     refine OK.exit 0 (by kernel_rfl) ?_
     refine QN.thenE ?_
     refine QN.outE hQ2 ?_
     refine QN.blkE ?_
     obtain rfl := Option.some.inj H
     refine QN.sub (K' := []) (L' := []) (by kernel_rfl) .slnil (.refl _) ?_
     exact hJ1 _ _ _ _ _ ⟨rfl, rfl, rfl, hi2, HK1⟩

end Go.Proofs.Ytdmhbcgmimfjcaa
namespace Go.Proofs.Ytdmhbcgmimfjcaa.hun
open Go Go.Proofs.Ytdmhbcgmimfjcaa Go.Proofs.Ytdmhbcgmimfjcaa.RW
set_option linter.unusedVariables false
set_option maxRecDepth 100000
set_option maxHeartbeats 4000000
/-- What a row of a valid matrix is. -/
def Rok (raw : List (List Int)) (i : Nat) : Prop := (row raw i).length = (row raw 0).length ∧ (row raw i).length ≤ 12 ∧ ∀ j, j < (row raw i).length → 0 ≤ we raw i j ∧ we raw i j ≤ 1073741824
def Mok (raw : List (List Int)) : Prop := raw.length ≤ 12 ∧ ∀ i, i < raw.length → Rok raw i
theorem valid1 (x : Int) : ∃ b, assign_Valid_1.f x = some b ∧ (b = false ↔ 0 ≤ x ∧ x ≤ 1073741824) := by
  unfold assign_Valid_1.f
  by_cases h : x < 0
  · exact ⟨true, by simp [h, assign_Valid_1.k1], by simp; omega⟩
  · by_cases h2 : x > 1073741824
    · exact ⟨true, by simp [h, h2, assign_Valid_1.k1], by simp; omega⟩
    · exact ⟨false, by simp [h, h2, assign_Valid_1.k1], by simp; omega⟩
theorem index_ (l : List Int) (hl : l.length ≤ 12) : ∀ (d k n : Nat), d + n = l.length → d < k → ∃ s, slices_IndexFunc_int64_int64s0.l1 l k (n : Int) = some s ∧ ((s = .inl () ∧ ∀ j, n ≤ j → j < l.length → 0 ≤ g l j ∧ g l j ≤ 1073741824) ∨ (∃ q : Nat, s = .inr (q : Int) ∧ ¬ ∀ j, n ≤ j → j < l.length → 0 ≤ g l j ∧ g l j ≤ 1073741824)) := by
  intro d
  induction d with
  | zero =>
    intro k n hd hk
    obtain ⟨k, rfl⟩ : ∃ m, k = m + 1 := ⟨k - 1, by omega⟩
    simp only [slices_IndexFunc_int64_int64s0.l1]
    rw [if_neg (by omega)]
    exact ⟨_, rfl, .inl ⟨rfl, fun j h1 h2 => by omega⟩⟩
  | succ d ih =>
    intro k n hd hk
    obtain ⟨k, rfl⟩ : ∃ m, k = m + 1 := ⟨k - 1, by omega⟩
    simp only [slices_IndexFunc_int64_int64s0.l1, tn]
    rw [if_pos (by omega), if_pos (by omega), if_pos (by omega)]
    obtain ⟨b, e, hb⟩ := valid1 (l.getD n 0)
    rw [e, Option.bind_some, Wn (by omega)]
    cases b with
    | true =>
      rw [if_pos rfl]
      refine ⟨_, rfl, .inr ⟨n, rfl, fun h => ?_⟩⟩
      have := hb.2 (h n (Nat.le_refl _) (by omega))
      cases this
    | false =>
      rw [if_neg (by decide)]
      have hn := hb.1 rfl
      obtain ⟨s, e2, h⟩ := ih k (n + 1) (by omega) (by omega)
      refine ⟨s, e2, h.imp (fun h => ⟨h.1, fun j h1 h2 => ?_⟩) (fun ⟨q, h1, h2⟩ => ⟨q, h1, fun h3 => h2 fun j h4 h5 => h3 j (by omega) h5⟩)⟩
      by_cases e3 : j = n
      · subst e3; exact hn
      · exact h.2 j (by omega) h2
theorem contains_ (l : List Int) (hl : l.length ≤ 12) {k : Nat} (hk : 13 ≤ k) : ∃ b, slices_ContainsFunc_int64_int64s0.f k l = some b ∧ (b = false ↔ ∀ j, j < l.length → 0 ≤ g l j ∧ g l j ≤ 1073741824) := by
  obtain ⟨s, e, h⟩ := index_ l hl l.length k 0 (by omega) (by omega)
  unfold slices_ContainsFunc_int64_int64s0.f slices_IndexFunc_int64_int64s0.f
  rw [show slices_IndexFunc_int64_int64s0.l1 l k 0 = some s from e, Option.bind_some]
  rcases h with ⟨rfl, h⟩ | ⟨q, rfl, h⟩
  · simp only [slices_IndexFunc_int64_int64s0.k1, Option.bind_some]
    exact ⟨_, rfl, fun _ j hj => h j (by omega) hj, fun _ => by decide⟩
  · simp only [slices_IndexFunc_int64_int64s0.k1, Option.bind_some]
    refine ⟨_, rfl, fun h1 => ?_, fun h1 => absurd (fun j _ hj => h1 j hj) h⟩
    have := of_decide_eq_false h1
    omega
theorem vrows (raw : List (List Int)) (hl : raw.length ≤ 12) : ∀ (d k n : Nat), d + n = raw.length → d + 20 ≤ k → ∃ s, assign_Valid.l1 raw k (n : Int) = some s ∧ ((s = .inl () ∧ ∀ i, n ≤ i → i < raw.length → Rok raw i) ∨ (s = .inr false ∧ ¬ ∀ i, n ≤ i → i < raw.length → Rok raw i)) := by
  intro d
  induction d with
  | zero =>
    intro k n hd hk
    obtain ⟨k, rfl⟩ : ∃ m, k = m + 1 := ⟨k - 1, by omega⟩
    simp only [assign_Valid.l1]
    rw [if_neg (by omega)]
    exact ⟨_, rfl, .inl ⟨rfl, fun j h1 h2 => by omega⟩⟩
  | succ d ih =>
    intro k n hd hk
    obtain ⟨k, rfl⟩ : ∃ m, k = m + 1 := ⟨k - 1, by omega⟩
    have bad : ¬ Rok raw n → ∃ s, some (Sum.inr false : Unit ⊕ Bool) = some s ∧ ((s = .inl () ∧ ∀ i, n ≤ i → i < raw.length → Rok raw i) ∨ (s = .inr false ∧ ¬ ∀ i, n ≤ i → i < raw.length → Rok raw i)) := fun h => ⟨_, rfl, .inr ⟨rfl, fun h2 => h (h2 n (Nat.le_refl _) (by omega))⟩⟩
    simp only [assign_Valid.l1, tn]
    rw [if_pos (by omega), if_pos (by omega), if_pos (by omega), if_pos (by omega)]
    by_cases h1 : ((raw.getD n []).length : Int) ≠ ((raw.getD (0 : Int).toNat []).length : Int)
    · rw [if_pos h1]
      exact bad fun h => h1 (by rw [show (raw.getD n []).length = _ from h.1]; rfl)
    · rw [if_neg h1]
      by_cases h2 : ((raw.getD n []).length : Int) > 12
      · rw [if_pos h2]
        exact bad fun h => by have : (raw.getD n []).length ≤ 12 := h.2.1; omega
      · rw [if_neg h2]
        obtain ⟨b, e, hb⟩ := contains_ (raw.getD n []) (by omega) (k := k) (by omega)
        rw [e]
        simp only [Option.bind_some]
        cases b with
        | true =>
          rw [if_pos rfl]
          exact bad fun h => by have := hb.2 h.2.2; cases this
        | false =>
          rw [if_neg (by decide), Wn (by omega)]
          have hn : Rok raw n := ⟨by have := Decidable.not_not.1 h1; show (raw.getD n []).length = (raw.getD (0 : Int).toNat []).length; omega, by show (raw.getD n []).length ≤ 12; omega, hb.1 rfl⟩
          obtain ⟨s, e2, h⟩ := ih k (n + 1) (by omega) (by omega)
          refine ⟨s, e2, h.imp (fun h => ⟨h.1, fun i h3 h4 => ?_⟩) (fun ⟨h3, h4⟩ => ⟨h3, fun h5 => h4 fun i h6 h7 => h5 i (by omega) h7⟩)⟩
          by_cases e3 : i = n
          · subst e3; exact hn
          · exact h.2 i (by omega) h4
theorem valid_spec (raw : List (List Int)) {k : Nat} (hk : 40 ≤ k) : ∃ b, assign_Valid.f k raw = some b ∧ (b = true ↔ Mok raw) := by
  unfold assign_Valid.f
  by_cases h : (raw.length : Int) > 12
  · rw [if_pos h]
    exact ⟨_, rfl, ⟨fun h2 => (nomatch h2), fun h2 => by have := h2.1; omega⟩⟩
  · rw [if_neg h]
    obtain ⟨s, e, h1⟩ := vrows raw (by omega) raw.length k 0 (by omega) (by omega)
    rw [show assign_Valid.l1 raw k 0 = some s from e, Option.bind_some]
    rcases h1 with ⟨rfl, h1⟩ | ⟨rfl, h1⟩
    · exact ⟨_, rfl, ⟨fun _ => ⟨by omega, fun i hi => h1 i (by omega) hi⟩, fun _ => rfl⟩⟩
    · exact ⟨_, rfl, ⟨fun h2 => (nomatch h2), fun h2 => absurd (fun i _ hi => h2.2 i hi) h1⟩⟩
theorem Vw.ok {w : List (List Int)} {m : Nat} (h : Vw w m) : Mok w := by
  refine ⟨h.nr, fun i hi => ⟨?_, ?_, fun j hj => ?_⟩⟩
  · rw [h.rl i hi, h.rl 0 (by omega)]
  · rw [h.rl i hi]; exact h.mr
  · rw [h.rl i hi] at hj; exact h.eb i j hi hj
theorem same (a : List Int) (ha : a.length ≤ 100) {k : Nat} (hk : 102 ≤ k) : armillaryref22_Same.f k a a = some true := by
  have key : ∀ (d k n : Nat), d + n = a.length → d < k → armillaryref22_Same.l1 a a k (n : Int) = some (.inl ()) := by
    intro d
    induction d with
    | zero =>
      intro k n hd hk
      obtain ⟨k, rfl⟩ : ∃ m, k = m + 1 := ⟨k - 1, by omega⟩
      simp only [armillaryref22_Same.l1]
      rw [if_neg (by omega)]
    | succ d ih =>
      intro k n hd hk
      obtain ⟨k, rfl⟩ : ∃ m, k = m + 1 := ⟨k - 1, by omega⟩
      simp only [armillaryref22_Same.l1]
      rw [if_pos (by omega), if_pos (by omega), if_pos (by omega), if_pos (by omega), if_pos (by omega), if_neg (fun h => h rfl), Wn (by omega)]
      exact ih k (n + 1) (by omega) (by omega)
  unfold armillaryref22_Same.f
  rw [if_neg (fun h => h rfl), show armillaryref22_Same.l1 a a k 0 = _ from key a.length k 0 (by omega) (by omega)]
  rfl
theorem ext_g {a b : List Int} (hl : a.length = b.length) (h : ∀ i, i < a.length → g a i = g b i) : a = b := by
  refine List.ext_getElem hl (fun i h1 h2 => ?_)
  have := h i h1
  unfold g at this
  rwa [List.getD_eq_getElem?_getD, List.getD_eq_getElem?_getD, List.getElem?_eq_getElem h1, List.getElem?_eq_getElem h2] at this
/-- Equal sums of numbers that are no greater one by one. -/
theorem sm_eq {f h : Nat → Int} : ∀ n, (∀ j, j < n → f j ≤ h j) → sm h n ≤ sm f n → ∀ j, j < n → f j = h j
  | n + 1, h1, h2, j, hj => by
    have h3 := sm_le n (fun j hj => h1 j (by omega))
    have h4 := h1 n (by omega)
    simp only [sm] at h2
    by_cases e : j = n
    · subst e; omega
    · exact sm_eq n (fun j hj => h1 j (by omega)) (by omega) j (by omega)
end Go.Proofs.Ytdmhbcgmimfjcaa.hun
namespace Go.Proofs.Ytdmhbcgmimfjcaa
open Go Go.Proofs.Ytdmhbcgmimfjcaa.RW
set_option linter.unusedVariables false
set_option maxRecDepth 100000
set_option maxHeartbeats 8000000

/-! ### armillarylaw22_sanity: function 10, armillary/armillarylaw22.sanity -/
noncomputable def K10_0 : Code := cBody Try.f10
noncomputable def K10_1 : Code := cL K10_0
noncomputable def O10_1 : List Oper := cOps K10_1
noncomputable def K10_3 : Code := cR K10_0
noncomputable def K10_4 : Code := cL K10_3
noncomputable def O10_4 : List Oper := cOps K10_4
noncomputable def K10_6 : Code := cR K10_3
noncomputable def K10_7 : Code := cL K10_6
noncomputable def O10_7 : List Oper := cOps K10_7
noncomputable def K10_9 : Code := cR K10_6
noncomputable def K10_10 : Code := cL K10_9
noncomputable def O10_10 : List Oper := cOps K10_10
noncomputable def K10_12 : Code := cR K10_9
noncomputable def K10_13 : Code := cL K10_12
noncomputable def O10_13 : List Oper := cOps K10_13
noncomputable def K10_15 : Code := cR K10_12
noncomputable def K10_16 : Code := cL K10_15
noncomputable def O10_16 : List Oper := cOps K10_16
noncomputable def K10_18 : Code := cR K10_15
noncomputable def K10_19 : Code := cL K10_18
noncomputable def O10_19 : List Oper := cOps K10_19
noncomputable def K10_21 : Code := cR K10_18
noncomputable def K10_22 : Code := cL K10_21
noncomputable def O10_22 : List Oper := cOps K10_22
noncomputable def K10_24 : Code := cR K10_21
noncomputable def K10_25 : Code := cL K10_24
noncomputable def O10_25 : List Oper := cOps K10_25
noncomputable def K10_27 : Code := cR K10_24
noncomputable def K10_28 : Code := cL K10_27
noncomputable def O10_28 : List Oper := cOps K10_28
noncomputable def K10_30 : Code := cR K10_27
noncomputable def K10_31 : Code := cL K10_30
noncomputable def O10_31 : List Oper := cOps K10_31
noncomputable def K10_33 : Code := cR K10_30
noncomputable def K10_34 : Code := cL K10_33
noncomputable def O10_34 : List Oper := cOps K10_34
noncomputable def K10_36 : Code := cR K10_33
def armillarylaw22_sanity.k1  (x1 : Bool) : Option (Bool) := (some x1)
def armillarylaw22_sanity.f (k : Nat)  : Option (Bool) := ((assign_Solve.f k [[3, 5], [4, 7]]).bind fun t1 => ((assign_Solve.f k [[5], [7]]).bind fun t2 => ((assign_Solve.f k [[0, 0], [0, 0]]).bind fun t3 => ((assign_Solve.f k []).bind fun t4 => ((assign_Value.f k [[3, 5], [4, 7]] [1, 0]).bind fun t5 => ((assign_Value.f k [[3, 5], [4, 7]] [(-1), 1]).bind fun t6 => ((assign_Value.f k [[3, 5], [4, 7]] [1, 1]).bind fun t7 => ((assign_Value.f k [[3, 5], [4, 7]] [1]).bind fun t8 => (((armillaryref22_Same.f k t1.1 [0, 1]).bind fun t9 => (if t9 = true then ((assign_VerifyDuals.f k [[3, 5], [4, 7]] t1.1 t1.2).bind fun t10 => (if t10 = true then ((armillaryref22_Same.f k t2.1 [(-1), 0]).bind fun t11 => (if t11 = true then ((armillaryref22_Same.f k t3.1 [0, 1]).bind fun t12 => (if t12 = true then (if (W .i64 ((W .i64 ((t4.1.length : Int) + (t4.2.f0.length : Int))) + (t4.2.f1.length : Int))) = 0 then (if t5.1 = 9 then (if t5.2 = true then (if t6.1 = 7 then (if t6.2 = true then (if t7.2 = true then (some false) else (if t8.2 = true then (some false) else ((assign_VerifyDuals.f k [[3, 5], [4, 7]] t1.1 (⟨[3, 5], [0, 2]⟩ : S26)).bind fun t13 => (if t13 = true then ((assign_VerifyDuals.f k [[3, 5], [4, 7]] t1.1 (⟨[3, 5], [0, 1]⟩ : S26)).bind fun t14 => (if t14 = true then (some false) else ((assign_VerifyDuals.f k [[3, 5], [4, 7]] t1.1 (⟨[4, 5], [0, 2]⟩ : S26)).bind fun t15 => (if t15 = true then (some false) else ((assign_VerifyDuals.f k [[3, 5], [4, 7]] [1, 0] (⟨[3, 5], [0, 2]⟩ : S26)).bind fun t16 => (if t16 = true then (some false) else ((assign_Valid.f k [[3, 5], [4, 7]]).bind fun t17 => (if t17 = true then ((assign_Valid.f k []).bind fun t18 => (if t18 = true then ((assign_Valid.f k [[1], []]).bind fun t19 => (if t19 = true then (some false) else ((assign_Valid.f k [[(-1)]]).bind fun t20 => (some (!t20))))) else (some false))) else (some false))))))))) else (some false))))) else (some false)) else (some false)) else (some false)) else (some false)) else (some false)) else (some false))) else (some false))) else (some false))) else (some false))).bind (armillarylaw22_sanity.k1))))))))))
def armillarylaw22_sanity.Post (I : Imm) (w : World) (r : Bool) (v : Value) (w' : World) : Prop :=
 ∃ (J : Imm), v = .bool r ∧ Got w w' I J []
theorem armillarylaw22_sanity.calls (k : Nat) (I0 : Imm)  (w : World) (hI : I0.at_ w)  (r : Bool) (h : armillarylaw22_sanity.f k  = some r) :
  Calls Try.prog 10 [].toArray w fun e w' => ∃ v, e = .returned v ∧ armillarylaw22_sanity.Post I0 w r v w' := by
 have H : ((assign_Solve.f k [[3, 5], [4, 7]]).bind fun t1 => ((assign_Solve.f k [[5], [7]]).bind fun t2 => ((assign_Solve.f k [[0, 0], [0, 0]]).bind fun t3 => ((assign_Solve.f k []).bind fun t4 => ((assign_Value.f k [[3, 5], [4, 7]] [1, 0]).bind fun t5 => ((assign_Value.f k [[3, 5], [4, 7]] [(-1), 1]).bind fun t6 => ((assign_Value.f k [[3, 5], [4, 7]] [1, 1]).bind fun t7 => ((assign_Value.f k [[3, 5], [4, 7]] [1]).bind fun t8 => (((armillaryref22_Same.f k t1.1 [0, 1]).bind fun t9 => (if t9 = true then ((assign_VerifyDuals.f k [[3, 5], [4, 7]] t1.1 t1.2).bind fun t10 => (if t10 = true then ((armillaryref22_Same.f k t2.1 [(-1), 0]).bind fun t11 => (if t11 = true then ((armillaryref22_Same.f k t3.1 [0, 1]).bind fun t12 => (if t12 = true then (if (W .i64 ((W .i64 ((t4.1.length : Int) + (t4.2.f0.length : Int))) + (t4.2.f1.length : Int))) = 0 then (if t5.1 = 9 then (if t5.2 = true then (if t6.1 = 7 then (if t6.2 = true then (if t7.2 = true then (some false) else (if t8.2 = true then (some false) else ((assign_VerifyDuals.f k [[3, 5], [4, 7]] t1.1 (⟨[3, 5], [0, 2]⟩ : S26)).bind fun t13 => (if t13 = true then ((assign_VerifyDuals.f k [[3, 5], [4, 7]] t1.1 (⟨[3, 5], [0, 1]⟩ : S26)).bind fun t14 => (if t14 = true then (some false) else ((assign_VerifyDuals.f k [[3, 5], [4, 7]] t1.1 (⟨[4, 5], [0, 2]⟩ : S26)).bind fun t15 => (if t15 = true then (some false) else ((assign_VerifyDuals.f k [[3, 5], [4, 7]] [1, 0] (⟨[3, 5], [0, 2]⟩ : S26)).bind fun t16 => (if t16 = true then (some false) else ((assign_Valid.f k [[3, 5], [4, 7]]).bind fun t17 => (if t17 = true then ((assign_Valid.f k []).bind fun t18 => (if t18 = true then ((assign_Valid.f k [[1], []]).bind fun t19 => (if t19 = true then (some false) else ((assign_Valid.f k [[(-1)]]).bind fun t20 => (some (!t20))))) else (some false))) else (some false))))))))) else (some false))))) else (some false)) else (some false)) else (some false)) else (some false)) else (some false)) else (some false))) else (some false))) else (some false))) else (some false))).bind (armillarylaw22_sanity.k1)))))))))) = some r := h
 clear h
 refine calls_body Try.func10 (by kernel_rfl) 179 (by kernel_rfl) (by kernel_rfl) ⟨w, fun _ => False, I0⟩ I0 [] [] (by kernel_rfl) (Sat.start w _ I0 hI) ?_
 generalize w.heap.size = nx0
 show OK _ K10_0 _ _ _ _ _ _ _ _
 refine OK.seq K10_1 K10_3 (by kernel_rfl) ?_
 refine OK.region 0 O10_1 (by kernel_rfl) ?_
 refine RL.simK (K' := []) [] (RFacts.nil _ _ _) 1 [.no] (by kernel_rfl) (by kernel_rfl) ?_
 refine RL.nil (by kernel_rfl) ?_
 refine QN.then_ ?_
 refine OK.seq K10_4 K10_6 (by kernel_rfl) ?_
 refine OK.region 1 O10_4 (by kernel_rfl) ?_
 refine RL.simP (K' := [(1, .slice (some ⟨nx0 + 2, 0, none⟩) 2 2)]) (nx' := nx0 + 3) (L' := [⟨nx0, [.int .i64 3, .int .i64 5], 2⟩, ⟨nx0 + 1, [.int .i64 4, .int .i64 7], 2⟩, ⟨nx0 + 2, [.slice (some ⟨nx0, 0, none⟩) 2 2, .slice (some ⟨nx0 + 1, 0, none⟩) 2 2], 24⟩]) [] (RFacts.nil _ _ _) 4 [.no, .no, .no, .no] (by kernel_rfl) (by kernel_rfl) ?_
 refine RL.nil (by kernel_rfl) ?_
 refine QN.then_ ?_
 refine OK.seq K10_7 K10_9 (by kernel_rfl) ?_
 refine OK.region 2 O10_7 (by kernel_rfl) ?_
 refine RL.simK (K' := [(23, .slice (some ⟨nx0 + 2, 0, none⟩) 2 2), (1, .slice (some ⟨nx0 + 2, 0, none⟩) 2 2)]) [] (RFacts.nil _ _ _) 1 [.no] (by kernel_rfl) (by kernel_rfl) ?_
 refine RL.freezeL (d := (Ty.int .i64)) (xs := [3, 5]) (b := ⟨nx0, [.int .i64 3, .int .i64 5], 2⟩) 0 (by kernel_rfl) ⟨_, _, rfl, rfl, ⟨_, _, rfl, rfl, rfl⟩⟩ (Nat.le_of_ble_eq_true rfl) (fun I1 hi1 hr1 => ?_)
 refine RL.freezeL (d := (Ty.int .i64)) (xs := [4, 7]) (b := ⟨nx0 + 1, [.int .i64 4, .int .i64 7], 2⟩) 0 (by kernel_rfl) ⟨_, _, rfl, rfl, ⟨_, _, rfl, rfl, rfl⟩⟩ (Nat.le_of_ble_eq_true rfl) (fun I2 hi2 hr2 => ?_)
 refine RL.freezeL (d := (Ty.slice (Ty.int .i64))) (xs := [[3, 5], [4, 7]]) (b := ⟨nx0 + 2, [.slice (some ⟨nx0, 0, none⟩) 2 2, .slice (some ⟨nx0 + 1, 0, none⟩) 2 2], 24⟩) 0 (by kernel_rfl) ⟨_, _, rfl, ⟨_, _, rfl, (Nat.le_of_ble_eq_true rfl), (Rd.ext hi2 hr1)⟩, ⟨_, _, rfl, ⟨_, _, rfl, (Nat.le_of_ble_eq_true rfl), hr2⟩, rfl⟩⟩ (Nat.le_of_ble_eq_true rfl) (fun I3 hi3 hr3 => ?_)
 obtain ⟨t1, hA1, H⟩ := Option.bind_eq_some_iff.mp H
 refine RL.callP 14 [.slice (some ⟨nx0 + 2, 0, none⟩) 2 2] (some 24) (fun w => assign_Solve.Post I3 w t1) (by kernel_rfl) (by kernel_rfl) (fun w hs => assign_Solve.calls k I3 [[3, 5], [4, 7]] (some ⟨nx0 + 2, 0, none⟩) 2 w hs.im (Nat.le_of_ble_eq_true rfl) hr3 t1 hA1) ?_
 rintro w v w' hs ⟨I4, A1, c1, cs1, A2, c2, cs2, A3, c3, cs3, rfl, hg, hp1, hp2, hp3⟩
 have hi4 := hg.le
 refine RL.resume (X' := [orow 3 1 A1 t1.1.length c1 cs1, orow 2 1 A2 t1.2.f0.length c2 cs2, orow 2 1 A3 t1.2.f1.length c3 cs3]) rfl (hs.call hg) ?_
 clear hs hg
 generalize w'.heap.size = nx1
 clear w w'
 refine RL.freeze (e := 2) (sz := 1) (S := A2) (n := t1.2.f0.length) (cap := c2) 1 (by kernel_rfl) hp2 rfl (fun I5 hi5 hl1 hr4 => ?_)
 skip
 refine RL.freeze (e := 2) (sz := 1) (S := A3) (n := t1.2.f1.length) (cap := c3) 1 (by kernel_rfl) (Reps.ext hi5 hp3) rfl (fun I6 hi6 hl2 hr5 => ?_)
 skip
 refine RL.simP (K' := [(2, .slice A1 t1.1.length c1), (3, .pointer (some ⟨nx1, 0, none⟩)), (1, .slice (some ⟨nx0 + 2, 0, none⟩) 2 2)]) (nx' := nx1 + 1) (L' := [⟨nx1, [.slice A2 t1.2.f0.length c2, .slice A3 t1.2.f1.length c3], 26⟩]) [] (RFacts.nil _ _ _) 6 [.no, .no, .no, .no, .no, .l 0] (by kernel_rfl) (by kernel_rfl) ?_
 refine RL.nil (by kernel_rfl) ?_
 refine QN.then_ ?_
 refine OK.seq K10_10 K10_12 (by kernel_rfl) ?_
 refine OK.region 3 O10_10 (by kernel_rfl) ?_
 refine RL.simP (K' := [(4, .slice (some ⟨nx1 + 3, 0, none⟩) 2 2), (2, .slice A1 t1.1.length c1), (3, .pointer (some ⟨nx1, 0, none⟩)), (1, .slice (some ⟨nx0 + 2, 0, none⟩) 2 2)]) (nx' := nx1 + 4) (L' := [⟨nx1, [.slice A2 t1.2.f0.length c2, .slice A3 t1.2.f1.length c3], 26⟩, ⟨nx1 + 1, [.int .i64 5], 2⟩, ⟨nx1 + 2, [.int .i64 7], 2⟩, ⟨nx1 + 3, [.slice (some ⟨nx1 + 1, 0, none⟩) 1 1, .slice (some ⟨nx1 + 2, 0, none⟩) 1 1], 24⟩]) [] (RFacts.nil _ _ _) 4 [.no, .no, .no, .no] (by kernel_rfl) (by kernel_rfl) ?_
 refine RL.nil (by kernel_rfl) ?_
 refine QN.then_ ?_
 refine OK.seq K10_13 K10_15 (by kernel_rfl) ?_
 refine OK.region 4 O10_13 (by kernel_rfl) ?_
 refine RL.simK (K' := [(31, .slice (some ⟨nx1 + 3, 0, none⟩) 2 2), (2, .slice A1 t1.1.length c1), (3, .pointer (some ⟨nx1, 0, none⟩)), (1, .slice (some ⟨nx0 + 2, 0, none⟩) 2 2)]) [] (RFacts.nil _ _ _) 1 [.no] (by kernel_rfl) (by kernel_rfl) ?_
 refine RL.freezeL (d := (Ty.int .i64)) (xs := [5]) (b := ⟨nx1 + 1, [.int .i64 5], 2⟩) 1 (by kernel_rfl) ⟨_, _, rfl, rfl, rfl⟩ (Nat.le_of_ble_eq_true rfl) (fun I7 hi7 hr6 => ?_)
 refine RL.freezeL (d := (Ty.int .i64)) (xs := [7]) (b := ⟨nx1 + 2, [.int .i64 7], 2⟩) 1 (by kernel_rfl) ⟨_, _, rfl, rfl, rfl⟩ (Nat.le_of_ble_eq_true rfl) (fun I8 hi8 hr7 => ?_)
 refine RL.freezeL (d := (Ty.slice (Ty.int .i64))) (xs := [[5], [7]]) (b := ⟨nx1 + 3, [.slice (some ⟨nx1 + 1, 0, none⟩) 1 1, .slice (some ⟨nx1 + 2, 0, none⟩) 1 1], 24⟩) 1 (by kernel_rfl) ⟨_, _, rfl, ⟨_, _, rfl, (Nat.le_of_ble_eq_true rfl), (Rd.ext hi8 hr6)⟩, ⟨_, _, rfl, ⟨_, _, rfl, (Nat.le_of_ble_eq_true rfl), hr7⟩, rfl⟩⟩ (Nat.le_of_ble_eq_true rfl) (fun I9 hi9 hr8 => ?_)
 obtain ⟨t2, hA2, H⟩ := Option.bind_eq_some_iff.mp H
 refine RL.callP 14 [.slice (some ⟨nx1 + 3, 0, none⟩) 2 2] (some 32) (fun w => assign_Solve.Post I9 w t2) (by kernel_rfl) (by kernel_rfl) (fun w hs => assign_Solve.calls k I9 [[5], [7]] (some ⟨nx1 + 3, 0, none⟩) 2 w hs.im (Nat.le_of_ble_eq_true rfl) hr8 t2 hA2) ?_
 rintro w v w' hs ⟨I10, A4, c4, cs4, A5, c5, cs5, A6, c6, cs6, rfl, hg, hp4, hp5, hp6⟩
 have hi10 := hg.le
 refine RL.resume (X' := [orow 3 1 A1 t1.1.length c1 cs1, orow 3 1 A4 t2.1.length c4 cs4, orow 2 1 A5 t2.2.f0.length c5 cs5, orow 2 1 A6 t2.2.f1.length c6 cs6]) rfl (hs.call hg) ?_
 clear hs hg
 generalize w'.heap.size = nx2
 clear w w'
 refine RL.freeze (e := 2) (sz := 1) (S := A5) (n := t2.2.f0.length) (cap := c5) 2 (by kernel_rfl) hp5 rfl (fun I11 hi11 hl3 hr9 => ?_)
 skip
 refine RL.freeze (e := 2) (sz := 1) (S := A6) (n := t2.2.f1.length) (cap := c6) 2 (by kernel_rfl) (Reps.ext hi11 hp6) rfl (fun I12 hi12 hl4 hr10 => ?_)
 skip
 refine RL.simP (K' := [(5, .slice A4 t2.1.length c4), (2, .slice A1 t1.1.length c1), (3, .pointer (some ⟨nx1, 0, none⟩)), (1, .slice (some ⟨nx0 + 2, 0, none⟩) 2 2)]) (nx' := nx2 + 1) (L' := [⟨nx1, [.slice A2 t1.2.f0.length c2, .slice A3 t1.2.f1.length c3], 26⟩, ⟨nx2, [.slice A5 t2.2.f0.length c5, .slice A6 t2.2.f1.length c6], 26⟩]) [] (RFacts.nil _ _ _) 6 [.no, .no, .no, .no, .no, .l 1] (by kernel_rfl) (by kernel_rfl) ?_
 refine RL.nil (by kernel_rfl) ?_
 refine QN.then_ ?_
 refine OK.seq K10_16 K10_18 (by kernel_rfl) ?_
 refine OK.region 5 O10_16 (by kernel_rfl) ?_
 refine RL.simP (K' := [(38, .slice (some ⟨nx2 + 3, 0, none⟩) 2 2), (5, .slice A4 t2.1.length c4), (2, .slice A1 t1.1.length c1), (3, .pointer (some ⟨nx1, 0, none⟩)), (1, .slice (some ⟨nx0 + 2, 0, none⟩) 2 2)]) (nx' := nx2 + 4) (L' := [⟨nx1, [.slice A2 t1.2.f0.length c2, .slice A3 t1.2.f1.length c3], 26⟩, ⟨nx2, [.slice A5 t2.2.f0.length c5, .slice A6 t2.2.f1.length c6], 26⟩, ⟨nx2 + 1, [.int .i64 0, .int .i64 0], 2⟩, ⟨nx2 + 2, [.int .i64 0, .int .i64 0], 2⟩, ⟨nx2 + 3, [.slice (some ⟨nx2 + 1, 0, none⟩) 2 2, .slice (some ⟨nx2 + 2, 0, none⟩) 2 2], 24⟩]) [] (RFacts.nil _ _ _) 3 [.no, .no, .no] (by kernel_rfl) (by kernel_rfl) ?_
 refine RL.freezeL (d := (Ty.int .i64)) (xs := [0, 0]) (b := ⟨nx2 + 1, [.int .i64 0, .int .i64 0], 2⟩) 2 (by kernel_rfl) ⟨_, _, rfl, rfl, ⟨_, _, rfl, rfl, rfl⟩⟩ (Nat.le_of_ble_eq_true rfl) (fun I13 hi13 hr11 => ?_)
 refine RL.freezeL (d := (Ty.int .i64)) (xs := [0, 0]) (b := ⟨nx2 + 2, [.int .i64 0, .int .i64 0], 2⟩) 2 (by kernel_rfl) ⟨_, _, rfl, rfl, ⟨_, _, rfl, rfl, rfl⟩⟩ (Nat.le_of_ble_eq_true rfl) (fun I14 hi14 hr12 => ?_)
 refine RL.freezeL (d := (Ty.slice (Ty.int .i64))) (xs := [[0, 0], [0, 0]]) (b := ⟨nx2 + 3, [.slice (some ⟨nx2 + 1, 0, none⟩) 2 2, .slice (some ⟨nx2 + 2, 0, none⟩) 2 2], 24⟩) 2 (by kernel_rfl) ⟨_, _, rfl, ⟨_, _, rfl, (Nat.le_of_ble_eq_true rfl), (Rd.ext hi14 hr11)⟩, ⟨_, _, rfl, ⟨_, _, rfl, (Nat.le_of_ble_eq_true rfl), hr12⟩, rfl⟩⟩ (Nat.le_of_ble_eq_true rfl) (fun I15 hi15 hr13 => ?_)
 obtain ⟨t3, hA3, H⟩ := Option.bind_eq_some_iff.mp H
 refine RL.callP 14 [.slice (some ⟨nx2 + 3, 0, none⟩) 2 2] (some 39) (fun w => assign_Solve.Post I15 w t3) (by kernel_rfl) (by kernel_rfl) (fun w hs => assign_Solve.calls k I15 [[0, 0], [0, 0]] (some ⟨nx2 + 3, 0, none⟩) 2 w hs.im (Nat.le_of_ble_eq_true rfl) hr13 t3 hA3) ?_
 rintro w v w' hs ⟨I16, A7, c7, cs7, A8, c8, cs8, A9, c9, cs9, rfl, hg, hp7, hp8, hp9⟩
 have hi16 := hg.le
 refine RL.resume (X' := [orow 3 1 A1 t1.1.length c1 cs1, orow 3 1 A4 t2.1.length c4 cs4, orow 3 1 A7 t3.1.length c7 cs7, orow 2 1 A8 t3.2.f0.length c8 cs8, orow 2 1 A9 t3.2.f1.length c9 cs9]) rfl (hs.call hg) ?_
 clear hs hg
 generalize w'.heap.size = nx3
 clear w w'
 refine RL.freeze (e := 2) (sz := 1) (S := A8) (n := t3.2.f0.length) (cap := c8) 3 (by kernel_rfl) hp8 rfl (fun I17 hi17 hl5 hr14 => ?_)
 skip
 refine RL.freeze (e := 2) (sz := 1) (S := A9) (n := t3.2.f1.length) (cap := c9) 3 (by kernel_rfl) (Reps.ext hi17 hp9) rfl (fun I18 hi18 hl6 hr15 => ?_)
 skip
 refine RL.simP (K' := [(7, .slice A7 t3.1.length c7), (5, .slice A4 t2.1.length c4), (2, .slice A1 t1.1.length c1), (3, .pointer (some ⟨nx1, 0, none⟩)), (1, .slice (some ⟨nx0 + 2, 0, none⟩) 2 2)]) (nx' := nx3 + 1) (L' := [⟨nx1, [.slice A2 t1.2.f0.length c2, .slice A3 t1.2.f1.length c3], 26⟩, ⟨nx2, [.slice A5 t2.2.f0.length c5, .slice A6 t2.2.f1.length c6], 26⟩, ⟨nx3, [.slice A8 t3.2.f0.length c8, .slice A9 t3.2.f1.length c9], 26⟩]) [] (RFacts.nil _ _ _) 6 [.no, .no, .no, .no, .no, .l 2] (by kernel_rfl) (by kernel_rfl) ?_
 refine RL.nil (by kernel_rfl) ?_
 refine QN.then_ ?_
 refine OK.seq K10_19 K10_21 (by kernel_rfl) ?_
 refine OK.region 6 O10_19 (by kernel_rfl) ?_
 obtain ⟨t4, hA4, H⟩ := Option.bind_eq_some_iff.mp H
 refine RL.callP 14 [.slice none 0 0] (some 43) (fun w => assign_Solve.Post I18 w t4) (by kernel_rfl) (by kernel_rfl) (fun w hs => assign_Solve.calls k I18 [] none 0 w hs.im (Nat.le_refl _) (Rd.nil _ _ _) t4 hA4) ?_
 rintro w v w' hs ⟨I19, A10, c10, cs10, A11, c11, cs11, A12, c12, cs12, rfl, hg, hp10, hp11, hp12⟩
 have hi19 := hg.le
 refine RL.resume (X' := [orow 3 1 A1 t1.1.length c1 cs1, orow 3 1 A4 t2.1.length c4 cs4, orow 3 1 A7 t3.1.length c7 cs7, orow 3 1 A10 t4.1.length c10 cs10, orow 2 1 A11 t4.2.f0.length c11 cs11, orow 2 1 A12 t4.2.f1.length c12 cs12]) rfl (hs.call hg) ?_
 clear hs hg
 generalize w'.heap.size = nx4
 clear w w'
 refine RL.freeze (e := 2) (sz := 1) (S := A11) (n := t4.2.f0.length) (cap := c11) 4 (by kernel_rfl) hp11 rfl (fun I20 hi20 hl7 hr16 => ?_)
 skip
 refine RL.freeze (e := 2) (sz := 1) (S := A12) (n := t4.2.f1.length) (cap := c12) 4 (by kernel_rfl) (Reps.ext hi20 hp12) rfl (fun I21 hi21 hl8 hr17 => ?_)
 skip
 refine RL.simP (K' := [(9, .slice A10 t4.1.length c10), (10, .pointer (some ⟨nx4, 0, none⟩)), (7, .slice A7 t3.1.length c7), (5, .slice A4 t2.1.length c4), (2, .slice A1 t1.1.length c1), (3, .pointer (some ⟨nx1, 0, none⟩)), (1, .slice (some ⟨nx0 + 2, 0, none⟩) 2 2)]) (nx' := nx4 + 1) (L' := [⟨nx1, [.slice A2 t1.2.f0.length c2, .slice A3 t1.2.f1.length c3], 26⟩, ⟨nx2, [.slice A5 t2.2.f0.length c5, .slice A6 t2.2.f1.length c6], 26⟩, ⟨nx3, [.slice A8 t3.2.f0.length c8, .slice A9 t3.2.f1.length c9], 26⟩, ⟨nx4, [.slice A11 t4.2.f0.length c11, .slice A12 t4.2.f1.length c12], 26⟩]) [] (RFacts.nil _ _ _) 6 [.no, .no, .no, .no, .no, .l 3] (by kernel_rfl) (by kernel_rfl) ?_
 refine RL.nil (by kernel_rfl) ?_
 refine QN.then_ ?_
 refine OK.seq K10_22 K10_24 (by kernel_rfl) ?_
 refine OK.region 7 O10_22 (by kernel_rfl) ?_
 refine RL.simP (K' := [(48, .slice (some ⟨nx4 + 1, 0, none⟩) 2 2), (47, .slice (some ⟨nx0 + 2, 0, none⟩) 2 2), (9, .slice A10 t4.1.length c10), (10, .pointer (some ⟨nx4, 0, none⟩)), (7, .slice A7 t3.1.length c7), (5, .slice A4 t2.1.length c4), (2, .slice A1 t1.1.length c1), (3, .pointer (some ⟨nx1, 0, none⟩)), (1, .slice (some ⟨nx0 + 2, 0, none⟩) 2 2)]) (nx' := nx4 + 2) (L' := [⟨nx1, [.slice A2 t1.2.f0.length c2, .slice A3 t1.2.f1.length c3], 26⟩, ⟨nx2, [.slice A5 t2.2.f0.length c5, .slice A6 t2.2.f1.length c6], 26⟩, ⟨nx3, [.slice A8 t3.2.f0.length c8, .slice A9 t3.2.f1.length c9], 26⟩, ⟨nx4, [.slice A11 t4.2.f0.length c11, .slice A12 t4.2.f1.length c12], 26⟩, ⟨nx4 + 1, [.int .i64 1, .int .i64 0], 3⟩]) [] (RFacts.nil _ _ _) 2 [.no, .no] (by kernel_rfl) (by kernel_rfl) ?_
 refine RL.freezeL (d := (Ty.int .i64)) (xs := [1, 0]) (b := ⟨nx4 + 1, [.int .i64 1, .int .i64 0], 3⟩) 4 (by kernel_rfl) ⟨_, _, rfl, rfl, ⟨_, _, rfl, rfl, rfl⟩⟩ (Nat.le_of_ble_eq_true rfl) (fun I22 hi22 hr18 => ?_)
 obtain ⟨t5, hA5, H⟩ := Option.bind_eq_some_iff.mp H
 refine RL.callP 15 [.slice (some ⟨nx0 + 2, 0, none⟩) 2 2, .slice (some ⟨nx4 + 1, 0, none⟩) 2 2] (some 49) (fun w => assign_Value.Post I22 w t5) (by kernel_rfl) (by kernel_rfl) (fun w hs => assign_Value.calls k I22 [[3, 5], [4, 7]] (some ⟨nx0 + 2, 0, none⟩) 2 [1, 0] (some ⟨nx4 + 1, 0, none⟩) 2 w hs.im (Nat.le_of_ble_eq_true rfl) (Rd.ext (Imm.le_trans (Imm.le_trans (Imm.le_trans (Imm.le_trans (Imm.le_trans (Imm.le_trans (Imm.le_trans (Imm.le_trans (Imm.le_trans (Imm.le_trans (Imm.le_trans (Imm.le_trans (Imm.le_trans (Imm.le_trans (Imm.le_trans (Imm.le_trans (Imm.le_trans (Imm.le_trans hi4 hi5) hi6) hi7) hi8) hi9) hi10) hi11) hi12) hi13) hi14) hi15) hi16) hi17) hi18) hi19) hi20) hi21) hi22) hr3) (Nat.le_of_ble_eq_true rfl) hr18 t5 hA5) ?_
 rintro w v w' hs ⟨I23, rfl, hg⟩
 have hi23 := hg.le
 refine RL.resume (X' := [orow 3 1 A1 t1.1.length c1 cs1, orow 3 1 A4 t2.1.length c4 cs4, orow 3 1 A7 t3.1.length c7 cs7, orow 3 1 A10 t4.1.length c10 cs10]) rfl (hs.call hg) ?_
 clear hs hg
 generalize w'.heap.size = nx5
 clear w w'
 refine RL.simK (K' := [(12, .bool t5.2), (11, .int .i64 t5.1), (9, .slice A10 t4.1.length c10), (10, .pointer (some ⟨nx4, 0, none⟩)), (7, .slice A7 t3.1.length c7), (5, .slice A4 t2.1.length c4), (2, .slice A1 t1.1.length c1), (3, .pointer (some ⟨nx1, 0, none⟩)), (1, .slice (some ⟨nx0 + 2, 0, none⟩) 2 2)]) [] (RFacts.nil _ _ _) 5 [.no, .no, .no, .no, .no] (by kernel_rfl) (by kernel_rfl) ?_
 refine RL.nil (by kernel_rfl) ?_
 refine QN.then_ ?_
 refine OK.seq K10_25 K10_27 (by kernel_rfl) ?_
 refine OK.region 8 O10_25 (by kernel_rfl) ?_
 refine RL.simP (K' := [(54, .slice (some ⟨nx5, 0, none⟩) 2 2), (53, .slice (some ⟨nx0 + 2, 0, none⟩) 2 2), (12, .bool t5.2), (11, .int .i64 t5.1), (9, .slice A10 t4.1.length c10), (10, .pointer (some ⟨nx4, 0, none⟩)), (7, .slice A7 t3.1.length c7), (5, .slice A4 t2.1.length c4), (2, .slice A1 t1.1.length c1), (3, .pointer (some ⟨nx1, 0, none⟩)), (1, .slice (some ⟨nx0 + 2, 0, none⟩) 2 2)]) (nx' := nx5 + 1) (L' := [⟨nx1, [.slice A2 t1.2.f0.length c2, .slice A3 t1.2.f1.length c3], 26⟩, ⟨nx2, [.slice A5 t2.2.f0.length c5, .slice A6 t2.2.f1.length c6], 26⟩, ⟨nx3, [.slice A8 t3.2.f0.length c8, .slice A9 t3.2.f1.length c9], 26⟩, ⟨nx4, [.slice A11 t4.2.f0.length c11, .slice A12 t4.2.f1.length c12], 26⟩, ⟨nx5, [.int .i64 (-1), .int .i64 1], 3⟩]) [] (RFacts.nil _ _ _) 2 [.no, .no] (by kernel_rfl) (by kernel_rfl) ?_
 refine RL.freezeL (d := (Ty.int .i64)) (xs := [(-1), 1]) (b := ⟨nx5, [.int .i64 (-1), .int .i64 1], 3⟩) 4 (by kernel_rfl) ⟨_, _, rfl, rfl, ⟨_, _, rfl, rfl, rfl⟩⟩ (Nat.le_of_ble_eq_true rfl) (fun I24 hi24 hr19 => ?_)
 obtain ⟨t6, hA6, H⟩ := Option.bind_eq_some_iff.mp H
 refine RL.callP 15 [.slice (some ⟨nx0 + 2, 0, none⟩) 2 2, .slice (some ⟨nx5, 0, none⟩) 2 2] (some 55) (fun w => assign_Value.Post I24 w t6) (by kernel_rfl) (by kernel_rfl) (fun w hs => assign_Value.calls k I24 [[3, 5], [4, 7]] (some ⟨nx0 + 2, 0, none⟩) 2 [(-1), 1] (some ⟨nx5, 0, none⟩) 2 w hs.im (Nat.le_of_ble_eq_true rfl) (Rd.ext (Imm.le_trans (Imm.le_trans (Imm.le_trans (Imm.le_trans (Imm.le_trans (Imm.le_trans (Imm.le_trans (Imm.le_trans (Imm.le_trans (Imm.le_trans (Imm.le_trans (Imm.le_trans (Imm.le_trans (Imm.le_trans (Imm.le_trans (Imm.le_trans (Imm.le_trans (Imm.le_trans (Imm.le_trans (Imm.le_trans hi4 hi5) hi6) hi7) hi8) hi9) hi10) hi11) hi12) hi13) hi14) hi15) hi16) hi17) hi18) hi19) hi20) hi21) hi22) hi23) hi24) hr3) (Nat.le_of_ble_eq_true rfl) hr19 t6 hA6) ?_
 rintro w v w' hs ⟨I25, rfl, hg⟩
 have hi25 := hg.le
 refine RL.resume (X' := [orow 3 1 A1 t1.1.length c1 cs1, orow 3 1 A4 t2.1.length c4 cs4, orow 3 1 A7 t3.1.length c7 cs7, orow 3 1 A10 t4.1.length c10 cs10]) rfl (hs.call hg) ?_
 clear hs hg
 generalize w'.heap.size = nx6
 clear w w'
 refine RL.simK (K' := [(14, .bool t6.2), (13, .int .i64 t6.1), (12, .bool t5.2), (11, .int .i64 t5.1), (9, .slice A10 t4.1.length c10), (10, .pointer (some ⟨nx4, 0, none⟩)), (7, .slice A7 t3.1.length c7), (5, .slice A4 t2.1.length c4), (2, .slice A1 t1.1.length c1), (3, .pointer (some ⟨nx1, 0, none⟩)), (1, .slice (some ⟨nx0 + 2, 0, none⟩) 2 2)]) [] (RFacts.nil _ _ _) 5 [.no, .no, .no, .no, .no] (by kernel_rfl) (by kernel_rfl) ?_
 refine RL.nil (by kernel_rfl) ?_
 refine QN.then_ ?_
 refine OK.seq K10_28 K10_30 (by kernel_rfl) ?_
 refine OK.region 9 O10_28 (by kernel_rfl) ?_
 refine RL.simP (K' := [(60, .slice (some ⟨nx6, 0, none⟩) 2 2), (59, .slice (some ⟨nx0 + 2, 0, none⟩) 2 2), (14, .bool t6.2), (13, .int .i64 t6.1), (12, .bool t5.2), (11, .int .i64 t5.1), (9, .slice A10 t4.1.length c10), (10, .pointer (some ⟨nx4, 0, none⟩)), (7, .slice A7 t3.1.length c7), (5, .slice A4 t2.1.length c4), (2, .slice A1 t1.1.length c1), (3, .pointer (some ⟨nx1, 0, none⟩)), (1, .slice (some ⟨nx0 + 2, 0, none⟩) 2 2)]) (nx' := nx6 + 1) (L' := [⟨nx1, [.slice A2 t1.2.f0.length c2, .slice A3 t1.2.f1.length c3], 26⟩, ⟨nx2, [.slice A5 t2.2.f0.length c5, .slice A6 t2.2.f1.length c6], 26⟩, ⟨nx3, [.slice A8 t3.2.f0.length c8, .slice A9 t3.2.f1.length c9], 26⟩, ⟨nx4, [.slice A11 t4.2.f0.length c11, .slice A12 t4.2.f1.length c12], 26⟩, ⟨nx6, [.int .i64 1, .int .i64 1], 3⟩]) [] (RFacts.nil _ _ _) 2 [.no, .no] (by kernel_rfl) (by kernel_rfl) ?_
 refine RL.freezeL (d := (Ty.int .i64)) (xs := [1, 1]) (b := ⟨nx6, [.int .i64 1, .int .i64 1], 3⟩) 4 (by kernel_rfl) ⟨_, _, rfl, rfl, ⟨_, _, rfl, rfl, rfl⟩⟩ (Nat.le_of_ble_eq_true rfl) (fun I26 hi26 hr20 => ?_)
 obtain ⟨t7, hA7, H⟩ := Option.bind_eq_some_iff.mp H
 refine RL.callP 15 [.slice (some ⟨nx0 + 2, 0, none⟩) 2 2, .slice (some ⟨nx6, 0, none⟩) 2 2] (some 61) (fun w => assign_Value.Post I26 w t7) (by kernel_rfl) (by kernel_rfl) (fun w hs => assign_Value.calls k I26 [[3, 5], [4, 7]] (some ⟨nx0 + 2, 0, none⟩) 2 [1, 1] (some ⟨nx6, 0, none⟩) 2 w hs.im (Nat.le_of_ble_eq_true rfl) (Rd.ext (Imm.le_trans (Imm.le_trans (Imm.le_trans (Imm.le_trans (Imm.le_trans (Imm.le_trans (Imm.le_trans (Imm.le_trans (Imm.le_trans (Imm.le_trans (Imm.le_trans (Imm.le_trans (Imm.le_trans (Imm.le_trans (Imm.le_trans (Imm.le_trans (Imm.le_trans (Imm.le_trans (Imm.le_trans (Imm.le_trans (Imm.le_trans (Imm.le_trans hi4 hi5) hi6) hi7) hi8) hi9) hi10) hi11) hi12) hi13) hi14) hi15) hi16) hi17) hi18) hi19) hi20) hi21) hi22) hi23) hi24) hi25) hi26) hr3) (Nat.le_of_ble_eq_true rfl) hr20 t7 hA7) ?_
 rintro w v w' hs ⟨I27, rfl, hg⟩
 have hi27 := hg.le
 refine RL.resume (X' := [orow 3 1 A1 t1.1.length c1 cs1, orow 3 1 A4 t2.1.length c4 cs4, orow 3 1 A7 t3.1.length c7 cs7, orow 3 1 A10 t4.1.length c10 cs10]) rfl (hs.call hg) ?_
 clear hs hg
 generalize w'.heap.size = nx7
 clear w w'
 refine RL.simK (K' := [(16, .bool t7.2), (14, .bool t6.2), (13, .int .i64 t6.1), (12, .bool t5.2), (11, .int .i64 t5.1), (9, .slice A10 t4.1.length c10), (10, .pointer (some ⟨nx4, 0, none⟩)), (7, .slice A7 t3.1.length c7), (5, .slice A4 t2.1.length c4), (2, .slice A1 t1.1.length c1), (3, .pointer (some ⟨nx1, 0, none⟩)), (1, .slice (some ⟨nx0 + 2, 0, none⟩) 2 2)]) [] (RFacts.nil _ _ _) 5 [.no, .no, .no, .no, .no] (by kernel_rfl) (by kernel_rfl) ?_
 refine RL.nil (by kernel_rfl) ?_
 refine QN.then_ ?_
 refine OK.seq K10_31 K10_33 (by kernel_rfl) ?_
 refine OK.region 10 O10_31 (by kernel_rfl) ?_
 refine RL.simP (K' := [(66, .slice (some ⟨nx7, 0, none⟩) 1 1), (65, .slice (some ⟨nx0 + 2, 0, none⟩) 2 2), (16, .bool t7.2), (14, .bool t6.2), (13, .int .i64 t6.1), (12, .bool t5.2), (11, .int .i64 t5.1), (9, .slice A10 t4.1.length c10), (10, .pointer (some ⟨nx4, 0, none⟩)), (7, .slice A7 t3.1.length c7), (5, .slice A4 t2.1.length c4), (2, .slice A1 t1.1.length c1), (3, .pointer (some ⟨nx1, 0, none⟩)), (1, .slice (some ⟨nx0 + 2, 0, none⟩) 2 2)]) (nx' := nx7 + 1) (L' := [⟨nx1, [.slice A2 t1.2.f0.length c2, .slice A3 t1.2.f1.length c3], 26⟩, ⟨nx2, [.slice A5 t2.2.f0.length c5, .slice A6 t2.2.f1.length c6], 26⟩, ⟨nx3, [.slice A8 t3.2.f0.length c8, .slice A9 t3.2.f1.length c9], 26⟩, ⟨nx4, [.slice A11 t4.2.f0.length c11, .slice A12 t4.2.f1.length c12], 26⟩, ⟨nx7, [.int .i64 1], 3⟩]) [] (RFacts.nil _ _ _) 2 [.no, .no] (by kernel_rfl) (by kernel_rfl) ?_
 refine RL.freezeL (d := (Ty.int .i64)) (xs := [1]) (b := ⟨nx7, [.int .i64 1], 3⟩) 4 (by kernel_rfl) ⟨_, _, rfl, rfl, rfl⟩ (Nat.le_of_ble_eq_true rfl) (fun I28 hi28 hr21 => ?_)
 obtain ⟨t8, hA8, H⟩ := Option.bind_eq_some_iff.mp H
 refine RL.callP 15 [.slice (some ⟨nx0 + 2, 0, none⟩) 2 2, .slice (some ⟨nx7, 0, none⟩) 1 1] (some 67) (fun w => assign_Value.Post I28 w t8) (by kernel_rfl) (by kernel_rfl) (fun w hs => assign_Value.calls k I28 [[3, 5], [4, 7]] (some ⟨nx0 + 2, 0, none⟩) 2 [1] (some ⟨nx7, 0, none⟩) 1 w hs.im (Nat.le_of_ble_eq_true rfl) (Rd.ext (Imm.le_trans (Imm.le_trans (Imm.le_trans (Imm.le_trans (Imm.le_trans (Imm.le_trans (Imm.le_trans (Imm.le_trans (Imm.le_trans (Imm.le_trans (Imm.le_trans (Imm.le_trans (Imm.le_trans (Imm.le_trans (Imm.le_trans (Imm.le_trans (Imm.le_trans (Imm.le_trans (Imm.le_trans (Imm.le_trans (Imm.le_trans (Imm.le_trans (Imm.le_trans (Imm.le_trans hi4 hi5) hi6) hi7) hi8) hi9) hi10) hi11) hi12) hi13) hi14) hi15) hi16) hi17) hi18) hi19) hi20) hi21) hi22) hi23) hi24) hi25) hi26) hi27) hi28) hr3) (Nat.le_of_ble_eq_true rfl) hr21 t8 hA8) ?_
 rintro w v w' hs ⟨I29, rfl, hg⟩
 have hi29 := hg.le
 refine RL.resume (X' := [orow 3 1 A1 t1.1.length c1 cs1, orow 3 1 A4 t2.1.length c4 cs4, orow 3 1 A7 t3.1.length c7 cs7, orow 3 1 A10 t4.1.length c10 cs10]) rfl (hs.call hg) ?_
 clear hs hg
 generalize w'.heap.size = nx8
 clear w w'
 refine RL.simK (K' := [(18, .bool t8.2), (16, .bool t7.2), (14, .bool t6.2), (13, .int .i64 t6.1), (12, .bool t5.2), (11, .int .i64 t5.1), (9, .slice A10 t4.1.length c10), (10, .pointer (some ⟨nx4, 0, none⟩)), (7, .slice A7 t3.1.length c7), (5, .slice A4 t2.1.length c4), (2, .slice A1 t1.1.length c1), (3, .pointer (some ⟨nx1, 0, none⟩)), (1, .slice (some ⟨nx0 + 2, 0, none⟩) 2 2)]) [] (RFacts.nil _ _ _) 5 [.no, .no, .no, .no, .no] (by kernel_rfl) (by kernel_rfl) ?_
 refine RL.nil (by kernel_rfl) ?_
 refine QN.then_ ?_
 refine OK.seq K10_34 K10_36 (by kernel_rfl) ?_
 refine OK.join (fun K' I' _ L' X' => ∃ (x1 : Bool), K' = [(0, .bool x1)] ∧ L' = [⟨nx1, [.slice A2 t1.2.f0.length c2, .slice A3 t1.2.f1.length c3], 26⟩, ⟨nx2, [.slice A5 t2.2.f0.length c5, .slice A6 t2.2.f1.length c6], 26⟩, ⟨nx3, [.slice A8 t3.2.f0.length c8, .slice A9 t3.2.f1.length c9], 26⟩, ⟨nx4, [.slice A11 t4.2.f0.length c11, .slice A12 t4.2.f1.length c12], 26⟩] ∧ X' = [] ∧ Imm.le I29 I' ∧ armillarylaw22_sanity.k1 x1 = some r) ?_ ?_
 ·rintro _ I30 nx9 _ _ ⟨x1, rfl, rfl, rfl, hi30, H⟩
  replace H : (some x1) = some r := H
  refine QN.then_ ?_
  refine OK.ret (by kernel_rfl) ?_
  obtain rfl := Option.some.inj H
  refine QN.body rfl [] (RFacts.nil _ _ _) (.no) (.bool x1) (by kernel_rfl) (by kernel_rfl) (by kernel_rfl) ?_ _ (.inr rfl)
  exact fun w' hs' => ⟨_, rfl, I30, rfl, hs'.got _ .slnil⟩
 ·intro Q_1 hJ1 hQ1
  obtain ⟨y1, H, HK1⟩ := Option.bind_eq_some_iff.mp H
  refine OK.region 11 O10_34 (by kernel_rfl) ?_
  refine RL.simP (K' := [(71, .slice (some ⟨nx8, 0, none⟩) 2 2), (70, .slice A1 t1.1.length c1), (18, .bool t8.2), (16, .bool t7.2), (14, .bool t6.2), (13, .int .i64 t6.1), (12, .bool t5.2), (11, .int .i64 t5.1), (9, .slice A10 t4.1.length c10), (10, .pointer (some ⟨nx4, 0, none⟩)), (7, .slice A7 t3.1.length c7), (5, .slice A4 t2.1.length c4), (2, .slice A1 t1.1.length c1), (3, .pointer (some ⟨nx1, 0, none⟩)), (1, .slice (some ⟨nx0 + 2, 0, none⟩) 2 2)]) (nx' := nx8 + 1) (L' := [⟨nx1, [.slice A2 t1.2.f0.length c2, .slice A3 t1.2.f1.length c3], 26⟩, ⟨nx2, [.slice A5 t2.2.f0.length c5, .slice A6 t2.2.f1.length c6], 26⟩, ⟨nx3, [.slice A8 t3.2.f0.length c8, .slice A9 t3.2.f1.length c9], 26⟩, ⟨nx4, [.slice A11 t4.2.f0.length c11, .slice A12 t4.2.f1.length c12], 26⟩, ⟨nx8, [.int .i64 0, .int .i64 1], 3⟩]) [] (RFacts.nil _ _ _) 2 [.no, .no] (by kernel_rfl) (by kernel_rfl) ?_
  refine RL.freezeL (d := (Ty.int .i64)) (xs := [0, 1]) (b := ⟨nx8, [.int .i64 0, .int .i64 1], 3⟩) 4 (by kernel_rfl) ⟨_, _, rfl, rfl, ⟨_, _, rfl, rfl, rfl⟩⟩ (Nat.le_of_ble_eq_true rfl) (fun I31 hi31 hr22 => ?_)
  obtain ⟨t9, hA9, H⟩ := Option.bind_eq_some_iff.mp H
  refine RL.callP 17 [.slice A1 t1.1.length c1, .slice (some ⟨nx8, 0, none⟩) 2 2] (some 72) (fun w v w' => ∃ I', Imm.le I31 I' ∧ armillaryref22_Same.Post I' w t9 v w') (by kernel_rfl) (by kernel_rfl) (fun w hs => ?_) ?_
  ·skip
   obtain ⟨JL1, hj1, hn1, hw1, hs⟩ := Sat.freeze (e := 3) (sz := 1) (S := A1) (n := t1.1.length) (cap := c1) (m := 0) hs (by kernel_rfl) (Reps.ext (Imm.le_trans (Imm.le_trans (Imm.le_trans (Imm.le_trans (Imm.le_trans (Imm.le_trans (Imm.le_trans (Imm.le_trans (Imm.le_trans (Imm.le_trans (Imm.le_trans (Imm.le_trans (Imm.le_trans (Imm.le_trans (Imm.le_trans (Imm.le_trans (Imm.le_trans (Imm.le_trans (Imm.le_trans (Imm.le_trans (Imm.le_trans (Imm.le_trans (Imm.le_trans (Imm.le_trans (Imm.le_trans hi5 hi6) hi7) hi8) hi9) hi10) hi11) hi12) hi13) hi14) hi15) hi16) hi17) hi18) hi19) hi20) hi21) hi22) hi23) hi24) hi25) hi26) hi27) hi28) hi29) hi31) hp1) rfl
   exact (armillaryref22_Same.calls k JL1 t1.1 A1 c1 [0, 1] (some ⟨nx8, 0, none⟩) 2 _ hs.im hn1 hw1 (Nat.le_of_ble_eq_true rfl) (Rd.ext hj1 hr22) t9 hA9).mono (fun e w' ⟨v, hv, hp⟩ => ⟨v, hv, JL1, hj1, hp⟩)
  rintro w v w' hs ⟨I', hle, J, rfl, hg⟩
  refine RL.resume (X' := [orow 3 1 A1 t1.1.length c1 cs1, orow 3 1 A4 t2.1.length c4 cs4, orow 3 1 A7 t3.1.length c7 cs7, orow 3 1 A10 t4.1.length c10 cs10]) rfl (hs.call (hg.back hle)) ?_
  clear hs hg hle I' J
  generalize w'.heap.size = nx10
  clear w w'
  refine RL.simK (K' := [(73, .bool t9), (18, .bool t8.2), (16, .bool t7.2), (14, .bool t6.2), (13, .int .i64 t6.1), (12, .bool t5.2), (11, .int .i64 t5.1), (9, .slice A10 t4.1.length c10), (10, .pointer (some ⟨nx4, 0, none⟩)), (7, .slice A7 t3.1.length c7), (5, .slice A4 t2.1.length c4), (2, .slice A1 t1.1.length c1), (3, .pointer (some ⟨nx1, 0, none⟩)), (1, .slice (some ⟨nx0 + 2, 0, none⟩) 2 2)]) [] (RFacts.nil _ _ _) 1 [.no] (by kernel_rfl) (by kernel_rfl) ?_
  refine RL.cases t9 (fun hb => ?_) (fun hb => ?_)
  ·have hc := hb
   rw [hb]
   rw [if_pos hc] at H; clear hb
   refine RL.simK (K' := [(76, .agg #[.slice A2 t1.2.f0.length c2, .slice A3 t1.2.f1.length c3]), (75, .slice A1 t1.1.length c1), (74, .slice (some ⟨nx0 + 2, 0, none⟩) 2 2), (73, .bool true), (18, .bool t8.2), (16, .bool t7.2), (14, .bool t6.2), (13, .int .i64 t6.1), (12, .bool t5.2), (11, .int .i64 t5.1), (9, .slice A10 t4.1.length c10), (10, .pointer (some ⟨nx4, 0, none⟩)), (7, .slice A7 t3.1.length c7), (5, .slice A4 t2.1.length c4), (2, .slice A1 t1.1.length c1), (1, .slice (some ⟨nx0 + 2, 0, none⟩) 2 2)]) [] (RFacts.nil _ _ _) 3 [.no, .no, .l 0] (by kernel_rfl) (by kernel_rfl) ?_
   obtain ⟨t10, hA10, H⟩ := Option.bind_eq_some_iff.mp H
   refine RL.callP 20 [.slice (some ⟨nx0 + 2, 0, none⟩) 2 2, .slice A1 t1.1.length c1, .agg #[.slice A2 t1.2.f0.length c2, .slice A3 t1.2.f1.length c3]] (some 77) (fun w v w' => ∃ I', Imm.le I31 I' ∧ assign_VerifyDuals.Post I' w t10 v w') (by kernel_rfl) (by kernel_rfl) (fun w hs => ?_) ?_
   ·skip
    obtain ⟨JL2, hj2, hn2, hw2, hs⟩ := Sat.freeze (e := 3) (sz := 1) (S := A1) (n := t1.1.length) (cap := c1) (m := 0) hs (by kernel_rfl) (Reps.ext (Imm.le_trans (Imm.le_trans (Imm.le_trans (Imm.le_trans (Imm.le_trans (Imm.le_trans (Imm.le_trans (Imm.le_trans (Imm.le_trans (Imm.le_trans (Imm.le_trans (Imm.le_trans (Imm.le_trans (Imm.le_trans (Imm.le_trans (Imm.le_trans (Imm.le_trans (Imm.le_trans (Imm.le_trans (Imm.le_trans (Imm.le_trans (Imm.le_trans (Imm.le_trans (Imm.le_trans (Imm.le_trans hi5 hi6) hi7) hi8) hi9) hi10) hi11) hi12) hi13) hi14) hi15) hi16) hi17) hi18) hi19) hi20) hi21) hi22) hi23) hi24) hi25) hi26) hi27) hi28) hi29) hi31) hp1) rfl
    exact (assign_VerifyDuals.calls k JL2 [[3, 5], [4, 7]] (some ⟨nx0 + 2, 0, none⟩) 2 t1.1 A1 c1 t1.2 A2 c2 A3 c3 _ hs.im (Nat.le_of_ble_eq_true rfl) (Rd.ext hj2 (Rd.ext (Imm.le_trans (Imm.le_trans (Imm.le_trans (Imm.le_trans (Imm.le_trans (Imm.le_trans (Imm.le_trans (Imm.le_trans (Imm.le_trans (Imm.le_trans (Imm.le_trans (Imm.le_trans (Imm.le_trans (Imm.le_trans (Imm.le_trans (Imm.le_trans (Imm.le_trans (Imm.le_trans (Imm.le_trans (Imm.le_trans (Imm.le_trans (Imm.le_trans (Imm.le_trans (Imm.le_trans (Imm.le_trans (Imm.le_trans hi4 hi5) hi6) hi7) hi8) hi9) hi10) hi11) hi12) hi13) hi14) hi15) hi16) hi17) hi18) hi19) hi20) hi21) hi22) hi23) hi24) hi25) hi26) hi27) hi28) hi29) hi31) hr3)) hn2 hw2 hl1 (Rd.ext hj2 (Rd.ext (Imm.le_trans (Imm.le_trans (Imm.le_trans (Imm.le_trans (Imm.le_trans (Imm.le_trans (Imm.le_trans (Imm.le_trans (Imm.le_trans (Imm.le_trans (Imm.le_trans (Imm.le_trans (Imm.le_trans (Imm.le_trans (Imm.le_trans (Imm.le_trans (Imm.le_trans (Imm.le_trans (Imm.le_trans (Imm.le_trans (Imm.le_trans (Imm.le_trans (Imm.le_trans (Imm.le_trans hi6 hi7) hi8) hi9) hi10) hi11) hi12) hi13) hi14) hi15) hi16) hi17) hi18) hi19) hi20) hi21) hi22) hi23) hi24) hi25) hi26) hi27) hi28) hi29) hi31) hr4)) hl2 (Rd.ext hj2 (Rd.ext (Imm.le_trans (Imm.le_trans (Imm.le_trans (Imm.le_trans (Imm.le_trans (Imm.le_trans (Imm.le_trans (Imm.le_trans (Imm.le_trans (Imm.le_trans (Imm.le_trans (Imm.le_trans (Imm.le_trans (Imm.le_trans (Imm.le_trans (Imm.le_trans (Imm.le_trans (Imm.le_trans (Imm.le_trans (Imm.le_trans (Imm.le_trans (Imm.le_trans (Imm.le_trans hi7 hi8) hi9) hi10) hi11) hi12) hi13) hi14) hi15) hi16) hi17) hi18) hi19) hi20) hi21) hi22) hi23) hi24) hi25) hi26) hi27) hi28) hi29) hi31) hr5)) t10 hA10).mono (fun e w' ⟨v, hv, hp⟩ => ⟨v, hv, JL2, hj2, hp⟩)
   rintro w v w' hs ⟨I', hle, J, rfl, hg⟩
   refine RL.resume (X' := [orow 3 1 A1 t1.1.length c1 cs1, orow 3 1 A4 t2.1.length c4 cs4, orow 3 1 A7 t3.1.length c7 cs7, orow 3 1 A10 t4.1.length c10 cs10]) rfl (hs.call (hg.back hle)) ?_
   clear hs hg hle I' J
   generalize w'.heap.size = nx11
   clear w w'
   refine RL.simK (K' := [(79, .bool t10), (18, .bool t8.2), (16, .bool t7.2), (14, .bool t6.2), (13, .int .i64 t6.1), (12, .bool t5.2), (11, .int .i64 t5.1), (9, .slice A10 t4.1.length c10), (10, .pointer (some ⟨nx4, 0, none⟩)), (7, .slice A7 t3.1.length c7), (5, .slice A4 t2.1.length c4), (2, .slice A1 t1.1.length c1), (1, .slice (some ⟨nx0 + 2, 0, none⟩) 2 2)]) [] (RFacts.nil _ _ _) 2 [.no, .no] (by kernel_rfl) (by kernel_rfl) ?_
   refine RL.cases t10 (fun hb => ?_) (fun hb => ?_)
   ·have hc := hb
    rw [hb]
    rw [if_pos hc] at H; clear hb
    refine RL.simP (K' := [(81, .slice (some ⟨nx11, 0, none⟩) 2 2), (80, .slice A4 t2.1.length c4), (79, .bool true), (18, .bool t8.2), (16, .bool t7.2), (14, .bool t6.2), (13, .int .i64 t6.1), (12, .bool t5.2), (11, .int .i64 t5.1), (9, .slice A10 t4.1.length c10), (10, .pointer (some ⟨nx4, 0, none⟩)), (7, .slice A7 t3.1.length c7), (2, .slice A1 t1.1.length c1), (1, .slice (some ⟨nx0 + 2, 0, none⟩) 2 2)]) (nx' := nx11 + 1) (L' := [⟨nx1, [.slice A2 t1.2.f0.length c2, .slice A3 t1.2.f1.length c3], 26⟩, ⟨nx2, [.slice A5 t2.2.f0.length c5, .slice A6 t2.2.f1.length c6], 26⟩, ⟨nx3, [.slice A8 t3.2.f0.length c8, .slice A9 t3.2.f1.length c9], 26⟩, ⟨nx4, [.slice A11 t4.2.f0.length c11, .slice A12 t4.2.f1.length c12], 26⟩, ⟨nx11, [.int .i64 (-1), .int .i64 0], 3⟩]) [] (RFacts.nil _ _ _) 2 [.no, .no] (by kernel_rfl) (by kernel_rfl) ?_
    refine RL.freezeL (d := (Ty.int .i64)) (xs := [(-1), 0]) (b := ⟨nx11, [.int .i64 (-1), .int .i64 0], 3⟩) 4 (by kernel_rfl) ⟨_, _, rfl, rfl, ⟨_, _, rfl, rfl, rfl⟩⟩ (Nat.le_of_ble_eq_true rfl) (fun I32 hi32 hr23 => ?_)
    obtain ⟨t11, hA11, H⟩ := Option.bind_eq_some_iff.mp H
    refine RL.callP 17 [.slice A4 t2.1.length c4, .slice (some ⟨nx11, 0, none⟩) 2 2] (some 82) (fun w v w' => ∃ I', Imm.le I32 I' ∧ armillaryref22_Same.Post I' w t11 v w') (by kernel_rfl) (by kernel_rfl) (fun w hs => ?_) ?_
    ·skip
     obtain ⟨JL3, hj3, hn3, hw3, hs⟩ := Sat.freeze (e := 3) (sz := 1) (S := A4) (n := t2.1.length) (cap := c4) (m := 1) hs (by kernel_rfl) (Reps.ext (Imm.le_trans (Imm.le_trans (Imm.le_trans (Imm.le_trans (Imm.le_trans (Imm.le_trans (Imm.le_trans (Imm.le_trans (Imm.le_trans (Imm.le_trans (Imm.le_trans (Imm.le_trans (Imm.le_trans (Imm.le_trans (Imm.le_trans (Imm.le_trans (Imm.le_trans (Imm.le_trans (Imm.le_trans (Imm.le_trans hi11 hi12) hi13) hi14) hi15) hi16) hi17) hi18) hi19) hi20) hi21) hi22) hi23) hi24) hi25) hi26) hi27) hi28) hi29) hi31) hi32) hp4) rfl
     exact (armillaryref22_Same.calls k JL3 t2.1 A4 c4 [(-1), 0] (some ⟨nx11, 0, none⟩) 2 _ hs.im hn3 hw3 (Nat.le_of_ble_eq_true rfl) (Rd.ext hj3 hr23) t11 hA11).mono (fun e w' ⟨v, hv, hp⟩ => ⟨v, hv, JL3, hj3, hp⟩)
    rintro w v w' hs ⟨I', hle, J, rfl, hg⟩
    refine RL.resume (X' := [orow 3 1 A1 t1.1.length c1 cs1, orow 3 1 A4 t2.1.length c4 cs4, orow 3 1 A7 t3.1.length c7 cs7, orow 3 1 A10 t4.1.length c10 cs10]) rfl (hs.call (hg.back hle)) ?_
    clear hs hg hle I' J
    generalize w'.heap.size = nx12
    clear w w'
    refine RL.simK (K' := [(84, .bool t11), (18, .bool t8.2), (16, .bool t7.2), (14, .bool t6.2), (13, .int .i64 t6.1), (12, .bool t5.2), (11, .int .i64 t5.1), (9, .slice A10 t4.1.length c10), (10, .pointer (some ⟨nx4, 0, none⟩)), (7, .slice A7 t3.1.length c7), (2, .slice A1 t1.1.length c1), (1, .slice (some ⟨nx0 + 2, 0, none⟩) 2 2)]) [] (RFacts.nil _ _ _) 2 [.no, .no] (by kernel_rfl) (by kernel_rfl) ?_
    refine RL.cases t11 (fun hb => ?_) (fun hb => ?_)
    ·have hc := hb
     rw [hb]
     rw [if_pos hc] at H; clear hb
     refine RL.simP (K' := [(86, .slice (some ⟨nx12, 0, none⟩) 2 2), (85, .slice A7 t3.1.length c7), (84, .bool true), (18, .bool t8.2), (16, .bool t7.2), (14, .bool t6.2), (13, .int .i64 t6.1), (12, .bool t5.2), (11, .int .i64 t5.1), (9, .slice A10 t4.1.length c10), (10, .pointer (some ⟨nx4, 0, none⟩)), (2, .slice A1 t1.1.length c1), (1, .slice (some ⟨nx0 + 2, 0, none⟩) 2 2)]) (nx' := nx12 + 1) (L' := [⟨nx1, [.slice A2 t1.2.f0.length c2, .slice A3 t1.2.f1.length c3], 26⟩, ⟨nx2, [.slice A5 t2.2.f0.length c5, .slice A6 t2.2.f1.length c6], 26⟩, ⟨nx3, [.slice A8 t3.2.f0.length c8, .slice A9 t3.2.f1.length c9], 26⟩, ⟨nx4, [.slice A11 t4.2.f0.length c11, .slice A12 t4.2.f1.length c12], 26⟩, ⟨nx12, [.int .i64 0, .int .i64 1], 3⟩]) [] (RFacts.nil _ _ _) 2 [.no, .no] (by kernel_rfl) (by kernel_rfl) ?_
     refine RL.freezeL (d := (Ty.int .i64)) (xs := [0, 1]) (b := ⟨nx12, [.int .i64 0, .int .i64 1], 3⟩) 4 (by kernel_rfl) ⟨_, _, rfl, rfl, ⟨_, _, rfl, rfl, rfl⟩⟩ (Nat.le_of_ble_eq_true rfl) (fun I33 hi33 hr24 => ?_)
     obtain ⟨t12, hA12, H⟩ := Option.bind_eq_some_iff.mp H
     refine RL.callP 17 [.slice A7 t3.1.length c7, .slice (some ⟨nx12, 0, none⟩) 2 2] (some 87) (fun w v w' => ∃ I', Imm.le I33 I' ∧ armillaryref22_Same.Post I' w t12 v w') (by kernel_rfl) (by kernel_rfl) (fun w hs => ?_) ?_
     ·skip
      obtain ⟨JL4, hj4, hn4, hw4, hs⟩ := Sat.freeze (e := 3) (sz := 1) (S := A7) (n := t3.1.length) (cap := c7) (m := 2) hs (by kernel_rfl) (Reps.ext (Imm.le_trans (Imm.le_trans (Imm.le_trans (Imm.le_trans (Imm.le_trans (Imm.le_trans (Imm.le_trans (Imm.le_trans (Imm.le_trans (Imm.le_trans (Imm.le_trans (Imm.le_trans (Imm.le_trans (Imm.le_trans (Imm.le_trans hi17 hi18) hi19) hi20) hi21) hi22) hi23) hi24) hi25) hi26) hi27) hi28) hi29) hi31) hi32) hi33) hp7) rfl
      exact (armillaryref22_Same.calls k JL4 t3.1 A7 c7 [0, 1] (some ⟨nx12, 0, none⟩) 2 _ hs.im hn4 hw4 (Nat.le_of_ble_eq_true rfl) (Rd.ext hj4 hr24) t12 hA12).mono (fun e w' ⟨v, hv, hp⟩ => ⟨v, hv, JL4, hj4, hp⟩)
     rintro w v w' hs ⟨I', hle, J, rfl, hg⟩
     refine RL.resume (X' := [orow 3 1 A1 t1.1.length c1 cs1, orow 3 1 A4 t2.1.length c4 cs4, orow 3 1 A7 t3.1.length c7 cs7, orow 3 1 A10 t4.1.length c10 cs10]) rfl (hs.call (hg.back hle)) ?_
     clear hs hg hle I' J
     generalize w'.heap.size = nx13
     clear w w'
     refine RL.simK (K' := [(89, .bool t12), (18, .bool t8.2), (16, .bool t7.2), (14, .bool t6.2), (13, .int .i64 t6.1), (12, .bool t5.2), (11, .int .i64 t5.1), (9, .slice A10 t4.1.length c10), (10, .pointer (some ⟨nx4, 0, none⟩)), (2, .slice A1 t1.1.length c1), (1, .slice (some ⟨nx0 + 2, 0, none⟩) 2 2)]) [] (RFacts.nil _ _ _) 2 [.no, .no] (by kernel_rfl) (by kernel_rfl) ?_
     refine RL.cases t12 (fun hb => ?_) (fun hb => ?_)
     ·have hc := hb
      rw [hb]
      rw [if_pos hc] at H; clear hb
      refine RL.simK (K' := [(102, .bool ((W .i64 ((W .i64 ((t4.1.length : Int) + (t4.2.f0.length : Int))) + (t4.2.f1.length : Int))) == 0)), (18, .bool t8.2), (16, .bool t7.2), (14, .bool t6.2), (13, .int .i64 t6.1), (12, .bool t5.2), (11, .int .i64 t5.1), (2, .slice A1 t1.1.length c1), (1, .slice (some ⟨nx0 + 2, 0, none⟩) 2 2)]) [] (RFacts.nil _ _ _) 13 [.no, .no, .no, .l 3, .no, .no, .no, .l 3, .no, .no, .no, .no, .no] (by kernel_rfl) (by kernel_rfl) ?_
      refine RL.cases ((W .i64 ((W .i64 ((t4.1.length : Int) + (t4.2.f0.length : Int))) + (t4.2.f1.length : Int))) == 0) (fun hb => ?_) (fun hb => ?_)
      ·have hc := (beq_iff_eq.1 hb)
       rw [hb]
       rw [if_pos hc] at H; clear hb
       refine RL.simK (K' := [(106, .bool (t5.1 == 9)), (18, .bool t8.2), (16, .bool t7.2), (14, .bool t6.2), (13, .int .i64 t6.1), (12, .bool t5.2), (2, .slice A1 t1.1.length c1), (1, .slice (some ⟨nx0 + 2, 0, none⟩) 2 2)]) [] (RFacts.nil _ _ _) 4 [.no, .no, .no, .no] (by kernel_rfl) (by kernel_rfl) ?_
       refine RL.cases (t5.1 == 9) (fun hb => ?_) (fun hb => ?_)
       ·have hc := (beq_iff_eq.1 hb)
        rw [hb]
        rw [if_pos hc] at H; clear hb
        refine RL.simK (K' := [(109, .bool t5.2), (18, .bool t8.2), (16, .bool t7.2), (14, .bool t6.2), (13, .int .i64 t6.1), (2, .slice A1 t1.1.length c1), (1, .slice (some ⟨nx0 + 2, 0, none⟩) 2 2)]) [] (RFacts.nil _ _ _) 3 [.no, .no, .no] (by kernel_rfl) (by kernel_rfl) ?_
        refine RL.cases t5.2 (fun hb => ?_) (fun hb => ?_)
        ·have hc := hb
         rw [hb]
         rw [if_pos hc] at H; clear hb
         refine RL.simK (K' := [(113, .bool (t6.1 == 7)), (18, .bool t8.2), (16, .bool t7.2), (14, .bool t6.2), (2, .slice A1 t1.1.length c1), (1, .slice (some ⟨nx0 + 2, 0, none⟩) 2 2)]) [] (RFacts.nil _ _ _) 4 [.no, .no, .no, .no] (by kernel_rfl) (by kernel_rfl) ?_
         refine RL.cases (t6.1 == 7) (fun hb => ?_) (fun hb => ?_)
         ·have hc := (beq_iff_eq.1 hb)
          rw [hb]
          rw [if_pos hc] at H; clear hb
          refine RL.simK (K' := [(116, .bool t6.2), (18, .bool t8.2), (16, .bool t7.2), (2, .slice A1 t1.1.length c1), (1, .slice (some ⟨nx0 + 2, 0, none⟩) 2 2)]) [] (RFacts.nil _ _ _) 3 [.no, .no, .no] (by kernel_rfl) (by kernel_rfl) ?_
          refine RL.cases t6.2 (fun hb => ?_) (fun hb => ?_)
          ·have hc := hb
           rw [hb]
           rw [if_pos hc] at H; clear hb
           refine RL.simK (K' := [(120, .bool (!t7.2)), (18, .bool t8.2), (2, .slice A1 t1.1.length c1), (1, .slice (some ⟨nx0 + 2, 0, none⟩) 2 2)]) [] (RFacts.nil _ _ _) 4 [.no, .no, .no, .no] (by kernel_rfl) (by kernel_rfl) ?_
           refine RL.cases t7.2 (fun hb => ?_) (fun hb => ?_)
           ·have hc := hb
            rw [hb]
            rw [if_pos hc] at H; clear hb
            refine RL.simK (K' := [(0, .bool false)]) [] (RFacts.nil _ _ _) 59 (.no :: .no :: .no :: .no :: .no :: .no :: .no :: .no :: .no :: .no :: .no :: .no :: .no :: .no :: .no :: .no :: .no :: .no :: .no :: .no :: .no :: .no :: .no :: .no :: .no :: .no :: .no :: .no :: .no :: .no :: .no :: .no :: .no :: .no :: .no :: .no :: .no :: .no :: .no :: .no :: .no :: .no :: .no :: .no :: .no :: .no :: .no :: .no :: .no :: .no :: .no :: .no :: .no :: .no :: .no :: .no :: .no :: .no :: .no :: []) (by kernel_rfl) (by kernel_rfl) ?_
            refine RL.nil (by kernel_rfl) ?_
            obtain rfl := Option.some.inj H
            refine QN.sel (K' := [(0, .bool false)]) (L' := [⟨nx1, [.slice A2 t1.2.f0.length c2, .slice A3 t1.2.f1.length c3], 26⟩, ⟨nx2, [.slice A5 t2.2.f0.length c5, .slice A6 t2.2.f1.length c6], 26⟩, ⟨nx3, [.slice A8 t3.2.f0.length c8, .slice A9 t3.2.f1.length c9], 26⟩, ⟨nx4, [.slice A11 t4.2.f0.length c11, .slice A12 t4.2.f1.length c12], 26⟩]) [] (by kernel_rfl) (by kernel_rfl) (.cons_cons _ (.cons_cons _ (.cons_cons _ (.cons_cons _ .slnil)))) ?_
            refine QN.norm (X' := []) rfl rfl rfl (by kernel_rfl) ?_
            exact hJ1 _ _ _ _ _ ⟨false, rfl, rfl, rfl, (Imm.le_trans (Imm.le_trans hi31 hi32) hi33), HK1⟩
           ·have hc := (Bool.eq_false_iff.1 hb)
            rw [hb]
            rw [if_neg hc] at H; clear hb
            refine RL.simK (K' := [(124, .bool (!t8.2)), (2, .slice A1 t1.1.length c1), (1, .slice (some ⟨nx0 + 2, 0, none⟩) 2 2)]) [] (RFacts.nil _ _ _) 4 [.no, .no, .no, .no] (by kernel_rfl) (by kernel_rfl) ?_
            refine RL.cases t8.2 (fun hb => ?_) (fun hb => ?_)
            ·have hc := hb
             rw [hb]
             rw [if_pos hc] at H; clear hb
             refine RL.simK (K' := [(0, .bool false)]) [] (RFacts.nil _ _ _) 55 (.no :: .no :: .no :: .no :: .no :: .no :: .no :: .no :: .no :: .no :: .no :: .no :: .no :: .no :: .no :: .no :: .no :: .no :: .no :: .no :: .no :: .no :: .no :: .no :: .no :: .no :: .no :: .no :: .no :: .no :: .no :: .no :: .no :: .no :: .no :: .no :: .no :: .no :: .no :: .no :: .no :: .no :: .no :: .no :: .no :: .no :: .no :: .no :: .no :: .no :: .no :: .no :: .no :: .no :: .no :: []) (by kernel_rfl) (by kernel_rfl) ?_
             refine RL.nil (by kernel_rfl) ?_
             obtain rfl := Option.some.inj H
             refine QN.sel (K' := [(0, .bool false)]) (L' := [⟨nx1, [.slice A2 t1.2.f0.length c2, .slice A3 t1.2.f1.length c3], 26⟩, ⟨nx2, [.slice A5 t2.2.f0.length c5, .slice A6 t2.2.f1.length c6], 26⟩, ⟨nx3, [.slice A8 t3.2.f0.length c8, .slice A9 t3.2.f1.length c9], 26⟩, ⟨nx4, [.slice A11 t4.2.f0.length c11, .slice A12 t4.2.f1.length c12], 26⟩]) [] (by kernel_rfl) (by kernel_rfl) (.cons_cons _ (.cons_cons _ (.cons_cons _ (.cons_cons _ .slnil)))) ?_
             refine QN.norm (X' := []) rfl rfl rfl (by kernel_rfl) ?_
             exact hJ1 _ _ _ _ _ ⟨false, rfl, rfl, rfl, (Imm.le_trans (Imm.le_trans hi31 hi32) hi33), HK1⟩
            ·have hc := (Bool.eq_false_iff.1 hb)
             rw [hb]
             rw [if_neg hc] at H; clear hb
             refine RL.simP (K' := [(129, .agg #[.slice (some ⟨nx13, 0, none⟩) 2 2, .slice (some ⟨nx13 + 1, 0, none⟩) 2 2]), (126, .slice A1 t1.1.length c1), (125, .slice (some ⟨nx0 + 2, 0, none⟩) 2 2), (124, .bool true), (2, .slice A1 t1.1.length c1), (1, .slice (some ⟨nx0 + 2, 0, none⟩) 2 2)]) (nx' := nx13 + 2) (L' := [⟨nx1, [.slice A2 t1.2.f0.length c2, .slice A3 t1.2.f1.length c3], 26⟩, ⟨nx2, [.slice A5 t2.2.f0.length c5, .slice A6 t2.2.f1.length c6], 26⟩, ⟨nx3, [.slice A8 t3.2.f0.length c8, .slice A9 t3.2.f1.length c9], 26⟩, ⟨nx4, [.slice A11 t4.2.f0.length c11, .slice A12 t4.2.f1.length c12], 26⟩, ⟨nx13, [.int .i64 3, .int .i64 5], 2⟩, ⟨nx13 + 1, [.int .i64 0, .int .i64 2], 2⟩]) [] (RFacts.nil _ _ _) 5 [.no, .no, .no, .no, .no] (by kernel_rfl) (by kernel_rfl) ?_
             refine RL.freezeL (d := (Ty.int .i64)) (xs := [3, 5]) (b := ⟨nx13, [.int .i64 3, .int .i64 5], 2⟩) 4 (by kernel_rfl) ⟨_, _, rfl, rfl, ⟨_, _, rfl, rfl, rfl⟩⟩ (Nat.le_of_ble_eq_true rfl) (fun I34 hi34 hr25 => ?_)
             refine RL.freezeL (d := (Ty.int .i64)) (xs := [0, 2]) (b := ⟨nx13 + 1, [.int .i64 0, .int .i64 2], 2⟩) 4 (by kernel_rfl) ⟨_, _, rfl, rfl, ⟨_, _, rfl, rfl, rfl⟩⟩ (Nat.le_of_ble_eq_true rfl) (fun I35 hi35 hr26 => ?_)
             obtain ⟨t13, hA13, H⟩ := Option.bind_eq_some_iff.mp H
             refine RL.callP 20 [.slice (some ⟨nx0 + 2, 0, none⟩) 2 2, .slice A1 t1.1.length c1, .agg #[.slice (some ⟨nx13, 0, none⟩) 2 2, .slice (some ⟨nx13 + 1, 0, none⟩) 2 2]] (some 130) (fun w v w' => ∃ I', Imm.le I35 I' ∧ assign_VerifyDuals.Post I' w t13 v w') (by kernel_rfl) (by kernel_rfl) (fun w hs => ?_) ?_
             ·skip
              obtain ⟨JL5, hj5, hn5, hw5, hs⟩ := Sat.freeze (e := 3) (sz := 1) (S := A1) (n := t1.1.length) (cap := c1) (m := 0) hs (by kernel_rfl) (Reps.ext (Imm.le_trans (Imm.le_trans (Imm.le_trans (Imm.le_trans (Imm.le_trans (Imm.le_trans (Imm.le_trans (Imm.le_trans (Imm.le_trans (Imm.le_trans (Imm.le_trans (Imm.le_trans (Imm.le_trans (Imm.le_trans (Imm.le_trans (Imm.le_trans (Imm.le_trans (Imm.le_trans (Imm.le_trans (Imm.le_trans (Imm.le_trans (Imm.le_trans (Imm.le_trans (Imm.le_trans (Imm.le_trans (Imm.le_trans (Imm.le_trans (Imm.le_trans (Imm.le_trans hi5 hi6) hi7) hi8) hi9) hi10) hi11) hi12) hi13) hi14) hi15) hi16) hi17) hi18) hi19) hi20) hi21) hi22) hi23) hi24) hi25) hi26) hi27) hi28) hi29) hi31) hi32) hi33) hi34) hi35) hp1) rfl
              exact (assign_VerifyDuals.calls k JL5 [[3, 5], [4, 7]] (some ⟨nx0 + 2, 0, none⟩) 2 t1.1 A1 c1 (⟨[3, 5], [0, 2]⟩ : S26) (some ⟨nx13, 0, none⟩) 2 (some ⟨nx13 + 1, 0, none⟩) 2 _ hs.im (Nat.le_of_ble_eq_true rfl) (Rd.ext hj5 (Rd.ext (Imm.le_trans (Imm.le_trans (Imm.le_trans (Imm.le_trans (Imm.le_trans (Imm.le_trans (Imm.le_trans (Imm.le_trans (Imm.le_trans (Imm.le_trans (Imm.le_trans (Imm.le_trans (Imm.le_trans (Imm.le_trans (Imm.le_trans (Imm.le_trans (Imm.le_trans (Imm.le_trans (Imm.le_trans (Imm.le_trans (Imm.le_trans (Imm.le_trans (Imm.le_trans (Imm.le_trans (Imm.le_trans (Imm.le_trans (Imm.le_trans (Imm.le_trans (Imm.le_trans (Imm.le_trans hi4 hi5) hi6) hi7) hi8) hi9) hi10) hi11) hi12) hi13) hi14) hi15) hi16) hi17) hi18) hi19) hi20) hi21) hi22) hi23) hi24) hi25) hi26) hi27) hi28) hi29) hi31) hi32) hi33) hi34) hi35) hr3)) hn5 hw5 (Nat.le_of_ble_eq_true rfl) (Rd.ext hj5 (Rd.ext hi35 hr25)) (Nat.le_of_ble_eq_true rfl) (Rd.ext hj5 hr26) t13 hA13).mono (fun e w' ⟨v, hv, hp⟩ => ⟨v, hv, JL5, hj5, hp⟩)
             rintro w v w' hs ⟨I', hle, J, rfl, hg⟩
             refine RL.resume (X' := [orow 3 1 A1 t1.1.length c1 cs1, orow 3 1 A4 t2.1.length c4 cs4, orow 3 1 A7 t3.1.length c7 cs7, orow 3 1 A10 t4.1.length c10 cs10]) rfl (hs.call (hg.back hle)) ?_
             clear hs hg hle I' J
             generalize w'.heap.size = nx14
             clear w w'
             refine RL.simK (K' := [(132, .bool t13), (2, .slice A1 t1.1.length c1), (1, .slice (some ⟨nx0 + 2, 0, none⟩) 2 2)]) [] (RFacts.nil _ _ _) 2 [.no, .no] (by kernel_rfl) (by kernel_rfl) ?_
             refine RL.cases t13 (fun hb => ?_) (fun hb => ?_)
             ·have hc := hb
              rw [hb]
              rw [if_pos hc] at H; clear hb
              refine RL.simP (K' := [(137, .agg #[.slice (some ⟨nx14, 0, none⟩) 2 2, .slice (some ⟨nx14 + 1, 0, none⟩) 2 2]), (134, .slice A1 t1.1.length c1), (133, .slice (some ⟨nx0 + 2, 0, none⟩) 2 2), (132, .bool true), (2, .slice A1 t1.1.length c1), (1, .slice (some ⟨nx0 + 2, 0, none⟩) 2 2)]) (nx' := nx14 + 2) (L' := [⟨nx1, [.slice A2 t1.2.f0.length c2, .slice A3 t1.2.f1.length c3], 26⟩, ⟨nx2, [.slice A5 t2.2.f0.length c5, .slice A6 t2.2.f1.length c6], 26⟩, ⟨nx3, [.slice A8 t3.2.f0.length c8, .slice A9 t3.2.f1.length c9], 26⟩, ⟨nx4, [.slice A11 t4.2.f0.length c11, .slice A12 t4.2.f1.length c12], 26⟩, ⟨nx14, [.int .i64 3, .int .i64 5], 2⟩, ⟨nx14 + 1, [.int .i64 0, .int .i64 1], 2⟩]) [] (RFacts.nil _ _ _) 5 [.no, .no, .no, .no, .no] (by kernel_rfl) (by kernel_rfl) ?_
              refine RL.freezeL (d := (Ty.int .i64)) (xs := [3, 5]) (b := ⟨nx14, [.int .i64 3, .int .i64 5], 2⟩) 4 (by kernel_rfl) ⟨_, _, rfl, rfl, ⟨_, _, rfl, rfl, rfl⟩⟩ (Nat.le_of_ble_eq_true rfl) (fun I36 hi36 hr27 => ?_)
              refine RL.freezeL (d := (Ty.int .i64)) (xs := [0, 1]) (b := ⟨nx14 + 1, [.int .i64 0, .int .i64 1], 2⟩) 4 (by kernel_rfl) ⟨_, _, rfl, rfl, ⟨_, _, rfl, rfl, rfl⟩⟩ (Nat.le_of_ble_eq_true rfl) (fun I37 hi37 hr28 => ?_)
              obtain ⟨t14, hA14, H⟩ := Option.bind_eq_some_iff.mp H
              refine RL.callP 20 [.slice (some ⟨nx0 + 2, 0, none⟩) 2 2, .slice A1 t1.1.length c1, .agg #[.slice (some ⟨nx14, 0, none⟩) 2 2, .slice (some ⟨nx14 + 1, 0, none⟩) 2 2]] (some 138) (fun w v w' => ∃ I', Imm.le I37 I' ∧ assign_VerifyDuals.Post I' w t14 v w') (by kernel_rfl) (by kernel_rfl) (fun w hs => ?_) ?_
              ·skip
               obtain ⟨JL6, hj6, hn6, hw6, hs⟩ := Sat.freeze (e := 3) (sz := 1) (S := A1) (n := t1.1.length) (cap := c1) (m := 0) hs (by kernel_rfl) (Reps.ext (Imm.le_trans (Imm.le_trans (Imm.le_trans (Imm.le_trans (Imm.le_trans (Imm.le_trans (Imm.le_trans (Imm.le_trans (Imm.le_trans (Imm.le_trans (Imm.le_trans (Imm.le_trans (Imm.le_trans (Imm.le_trans (Imm.le_trans (Imm.le_trans (Imm.le_trans (Imm.le_trans (Imm.le_trans (Imm.le_trans (Imm.le_trans (Imm.le_trans (Imm.le_trans (Imm.le_trans (Imm.le_trans (Imm.le_trans (Imm.le_trans (Imm.le_trans (Imm.le_trans (Imm.le_trans (Imm.le_trans hi5 hi6) hi7) hi8) hi9) hi10) hi11) hi12) hi13) hi14) hi15) hi16) hi17) hi18) hi19) hi20) hi21) hi22) hi23) hi24) hi25) hi26) hi27) hi28) hi29) hi31) hi32) hi33) hi34) hi35) hi36) hi37) hp1) rfl
               exact (assign_VerifyDuals.calls k JL6 [[3, 5], [4, 7]] (some ⟨nx0 + 2, 0, none⟩) 2 t1.1 A1 c1 (⟨[3, 5], [0, 1]⟩ : S26) (some ⟨nx14, 0, none⟩) 2 (some ⟨nx14 + 1, 0, none⟩) 2 _ hs.im (Nat.le_of_ble_eq_true rfl) (Rd.ext hj6 (Rd.ext (Imm.le_trans (Imm.le_trans (Imm.le_trans (Imm.le_trans (Imm.le_trans (Imm.le_trans (Imm.le_trans (Imm.le_trans (Imm.le_trans (Imm.le_trans (Imm.le_trans (Imm.le_trans (Imm.le_trans (Imm.le_trans (Imm.le_trans (Imm.le_trans (Imm.le_trans (Imm.le_trans (Imm.le_trans (Imm.le_trans (Imm.le_trans (Imm.le_trans (Imm.le_trans (Imm.le_trans (Imm.le_trans (Imm.le_trans (Imm.le_trans (Imm.le_trans (Imm.le_trans (Imm.le_trans (Imm.le_trans (Imm.le_trans hi4 hi5) hi6) hi7) hi8) hi9) hi10) hi11) hi12) hi13) hi14) hi15) hi16) hi17) hi18) hi19) hi20) hi21) hi22) hi23) hi24) hi25) hi26) hi27) hi28) hi29) hi31) hi32) hi33) hi34) hi35) hi36) hi37) hr3)) hn6 hw6 (Nat.le_of_ble_eq_true rfl) (Rd.ext hj6 (Rd.ext hi37 hr27)) (Nat.le_of_ble_eq_true rfl) (Rd.ext hj6 hr28) t14 hA14).mono (fun e w' ⟨v, hv, hp⟩ => ⟨v, hv, JL6, hj6, hp⟩)
              rintro w v w' hs ⟨I', hle, J, rfl, hg⟩
              refine RL.resume (X' := [orow 3 1 A1 t1.1.length c1 cs1, orow 3 1 A4 t2.1.length c4 cs4, orow 3 1 A7 t3.1.length c7 cs7, orow 3 1 A10 t4.1.length c10 cs10]) rfl (hs.call (hg.back hle)) ?_
              clear hs hg hle I' J
              generalize w'.heap.size = nx15
              clear w w'
              refine RL.simK (K' := [(141, .bool (!t14)), (2, .slice A1 t1.1.length c1), (1, .slice (some ⟨nx0 + 2, 0, none⟩) 2 2)]) [] (RFacts.nil _ _ _) 3 [.no, .no, .no] (by kernel_rfl) (by kernel_rfl) ?_
              refine RL.cases t14 (fun hb => ?_) (fun hb => ?_)
              ·have hc := hb
               rw [hb]
               rw [if_pos hc] at H; clear hb
               refine RL.simK (K' := [(0, .bool false)]) [] (RFacts.nil _ _ _) 38 (.no :: .no :: .no :: .no :: .no :: .no :: .no :: .no :: .no :: .no :: .no :: .no :: .no :: .no :: .no :: .no :: .no :: .no :: .no :: .no :: .no :: .no :: .no :: .no :: .no :: .no :: .no :: .no :: .no :: .no :: .no :: .no :: .no :: .no :: .no :: .no :: .no :: .no :: []) (by kernel_rfl) (by kernel_rfl) ?_
               refine RL.nil (by kernel_rfl) ?_
               obtain rfl := Option.some.inj H
               refine QN.sel (K' := [(0, .bool false)]) (L' := [⟨nx1, [.slice A2 t1.2.f0.length c2, .slice A3 t1.2.f1.length c3], 26⟩, ⟨nx2, [.slice A5 t2.2.f0.length c5, .slice A6 t2.2.f1.length c6], 26⟩, ⟨nx3, [.slice A8 t3.2.f0.length c8, .slice A9 t3.2.f1.length c9], 26⟩, ⟨nx4, [.slice A11 t4.2.f0.length c11, .slice A12 t4.2.f1.length c12], 26⟩]) [] (by kernel_rfl) (by kernel_rfl) (.cons_cons _ (.cons_cons _ (.cons_cons _ (.cons_cons _ .slnil)))) ?_
               refine QN.norm (X' := []) rfl rfl rfl (by kernel_rfl) ?_
               exact hJ1 _ _ _ _ _ ⟨false, rfl, rfl, rfl, (Imm.le_trans (Imm.le_trans (Imm.le_trans (Imm.le_trans (Imm.le_trans (Imm.le_trans hi31 hi32) hi33) hi34) hi35) hi36) hi37), HK1⟩
              ·have hc := (Bool.eq_false_iff.1 hb)
               rw [hb]
               rw [if_neg hc] at H; clear hb
               refine RL.simP (K' := [(146, .agg #[.slice (some ⟨nx15, 0, none⟩) 2 2, .slice (some ⟨nx15 + 1, 0, none⟩) 2 2]), (143, .slice A1 t1.1.length c1), (142, .slice (some ⟨nx0 + 2, 0, none⟩) 2 2), (141, .bool true), (1, .slice (some ⟨nx0 + 2, 0, none⟩) 2 2)]) (nx' := nx15 + 2) (L' := [⟨nx1, [.slice A2 t1.2.f0.length c2, .slice A3 t1.2.f1.length c3], 26⟩, ⟨nx2, [.slice A5 t2.2.f0.length c5, .slice A6 t2.2.f1.length c6], 26⟩, ⟨nx3, [.slice A8 t3.2.f0.length c8, .slice A9 t3.2.f1.length c9], 26⟩, ⟨nx4, [.slice A11 t4.2.f0.length c11, .slice A12 t4.2.f1.length c12], 26⟩, ⟨nx15, [.int .i64 4, .int .i64 5], 2⟩, ⟨nx15 + 1, [.int .i64 0, .int .i64 2], 2⟩]) [] (RFacts.nil _ _ _) 5 [.no, .no, .no, .no, .no] (by kernel_rfl) (by kernel_rfl) ?_
               refine RL.freezeL (d := (Ty.int .i64)) (xs := [4, 5]) (b := ⟨nx15, [.int .i64 4, .int .i64 5], 2⟩) 4 (by kernel_rfl) ⟨_, _, rfl, rfl, ⟨_, _, rfl, rfl, rfl⟩⟩ (Nat.le_of_ble_eq_true rfl) (fun I38 hi38 hr29 => ?_)
               refine RL.freezeL (d := (Ty.int .i64)) (xs := [0, 2]) (b := ⟨nx15 + 1, [.int .i64 0, .int .i64 2], 2⟩) 4 (by kernel_rfl) ⟨_, _, rfl, rfl, ⟨_, _, rfl, rfl, rfl⟩⟩ (Nat.le_of_ble_eq_true rfl) (fun I39 hi39 hr30 => ?_)
               obtain ⟨t15, hA15, H⟩ := Option.bind_eq_some_iff.mp H
               refine RL.callP 20 [.slice (some ⟨nx0 + 2, 0, none⟩) 2 2, .slice A1 t1.1.length c1, .agg #[.slice (some ⟨nx15, 0, none⟩) 2 2, .slice (some ⟨nx15 + 1, 0, none⟩) 2 2]] (some 147) (fun w v w' => ∃ I', Imm.le I39 I' ∧ assign_VerifyDuals.Post I' w t15 v w') (by kernel_rfl) (by kernel_rfl) (fun w hs => ?_) ?_
               ·skip
                obtain ⟨JL7, hj7, hn7, hw7, hs⟩ := Sat.freeze (e := 3) (sz := 1) (S := A1) (n := t1.1.length) (cap := c1) (m := 0) hs (by kernel_rfl) (Reps.ext (Imm.le_trans (Imm.le_trans (Imm.le_trans (Imm.le_trans (Imm.le_trans (Imm.le_trans (Imm.le_trans (Imm.le_trans (Imm.le_trans (Imm.le_trans (Imm.le_trans (Imm.le_trans (Imm.le_trans (Imm.le_trans (Imm.le_trans (Imm.le_trans (Imm.le_trans (Imm.le_trans (Imm.le_trans (Imm.le_trans (Imm.le_trans (Imm.le_trans (Imm.le_trans (Imm.le_trans (Imm.le_trans (Imm.le_trans (Imm.le_trans (Imm.le_trans (Imm.le_trans (Imm.le_trans (Imm.le_trans (Imm.le_trans (Imm.le_trans hi5 hi6) hi7) hi8) hi9) hi10) hi11) hi12) hi13) hi14) hi15) hi16) hi17) hi18) hi19) hi20) hi21) hi22) hi23) hi24) hi25) hi26) hi27) hi28) hi29) hi31) hi32) hi33) hi34) hi35) hi36) hi37) hi38) hi39) hp1) rfl
                exact (assign_VerifyDuals.calls k JL7 [[3, 5], [4, 7]] (some ⟨nx0 + 2, 0, none⟩) 2 t1.1 A1 c1 (⟨[4, 5], [0, 2]⟩ : S26) (some ⟨nx15, 0, none⟩) 2 (some ⟨nx15 + 1, 0, none⟩) 2 _ hs.im (Nat.le_of_ble_eq_true rfl) (Rd.ext hj7 (Rd.ext (Imm.le_trans (Imm.le_trans (Imm.le_trans (Imm.le_trans (Imm.le_trans (Imm.le_trans (Imm.le_trans (Imm.le_trans (Imm.le_trans (Imm.le_trans (Imm.le_trans (Imm.le_trans (Imm.le_trans (Imm.le_trans (Imm.le_trans (Imm.le_trans (Imm.le_trans (Imm.le_trans (Imm.le_trans (Imm.le_trans (Imm.le_trans (Imm.le_trans (Imm.le_trans (Imm.le_trans (Imm.le_trans (Imm.le_trans (Imm.le_trans (Imm.le_trans (Imm.le_trans (Imm.le_trans (Imm.le_trans (Imm.le_trans (Imm.le_trans (Imm.le_trans hi4 hi5) hi6) hi7) hi8) hi9) hi10) hi11) hi12) hi13) hi14) hi15) hi16) hi17) hi18) hi19) hi20) hi21) hi22) hi23) hi24) hi25) hi26) hi27) hi28) hi29) hi31) hi32) hi33) hi34) hi35) hi36) hi37) hi38) hi39) hr3)) hn7 hw7 (Nat.le_of_ble_eq_true rfl) (Rd.ext hj7 (Rd.ext hi39 hr29)) (Nat.le_of_ble_eq_true rfl) (Rd.ext hj7 hr30) t15 hA15).mono (fun e w' ⟨v, hv, hp⟩ => ⟨v, hv, JL7, hj7, hp⟩)
               rintro w v w' hs ⟨I', hle, J, rfl, hg⟩
               refine RL.resume (X' := [orow 3 1 A1 t1.1.length c1 cs1, orow 3 1 A4 t2.1.length c4 cs4, orow 3 1 A7 t3.1.length c7 cs7, orow 3 1 A10 t4.1.length c10 cs10]) rfl (hs.call (hg.back hle)) ?_
               clear hs hg hle I' J
               generalize w'.heap.size = nx16
               clear w w'
               refine RL.simK (K' := [(150, .bool (!t15)), (1, .slice (some ⟨nx0 + 2, 0, none⟩) 2 2)]) [] (RFacts.nil _ _ _) 3 [.no, .no, .no] (by kernel_rfl) (by kernel_rfl) ?_
               refine RL.cases t15 (fun hb => ?_) (fun hb => ?_)
               ·have hc := hb
                rw [hb]
                rw [if_pos hc] at H; clear hb
                refine RL.simK (K' := [(0, .bool false)]) [] (RFacts.nil _ _ _) 29 (.no :: .no :: .no :: .no :: .no :: .no :: .no :: .no :: .no :: .no :: .no :: .no :: .no :: .no :: .no :: .no :: .no :: .no :: .no :: .no :: .no :: .no :: .no :: .no :: .no :: .no :: .no :: .no :: .no :: []) (by kernel_rfl) (by kernel_rfl) ?_
                refine RL.nil (by kernel_rfl) ?_
                obtain rfl := Option.some.inj H
                refine QN.sel (K' := [(0, .bool false)]) (L' := [⟨nx1, [.slice A2 t1.2.f0.length c2, .slice A3 t1.2.f1.length c3], 26⟩, ⟨nx2, [.slice A5 t2.2.f0.length c5, .slice A6 t2.2.f1.length c6], 26⟩, ⟨nx3, [.slice A8 t3.2.f0.length c8, .slice A9 t3.2.f1.length c9], 26⟩, ⟨nx4, [.slice A11 t4.2.f0.length c11, .slice A12 t4.2.f1.length c12], 26⟩]) [] (by kernel_rfl) (by kernel_rfl) (.cons_cons _ (.cons_cons _ (.cons_cons _ (.cons_cons _ .slnil)))) ?_
                refine QN.norm (X' := []) rfl rfl rfl (by kernel_rfl) ?_
                exact hJ1 _ _ _ _ _ ⟨false, rfl, rfl, rfl, (Imm.le_trans (Imm.le_trans (Imm.le_trans (Imm.le_trans (Imm.le_trans (Imm.le_trans (Imm.le_trans (Imm.le_trans hi31 hi32) hi33) hi34) hi35) hi36) hi37) hi38) hi39), HK1⟩
               ·have hc := (Bool.eq_false_iff.1 hb)
                rw [hb]
                rw [if_neg hc] at H; clear hb
                refine RL.simP (K' := [(155, .agg #[.slice (some ⟨nx16 + 1, 0, none⟩) 2 2, .slice (some ⟨nx16 + 2, 0, none⟩) 2 2]), (152, .slice (some ⟨nx16, 0, none⟩) 2 2), (151, .slice (some ⟨nx0 + 2, 0, none⟩) 2 2), (150, .bool true), (1, .slice (some ⟨nx0 + 2, 0, none⟩) 2 2)]) (nx' := nx16 + 3) (L' := [⟨nx1, [.slice A2 t1.2.f0.length c2, .slice A3 t1.2.f1.length c3], 26⟩, ⟨nx2, [.slice A5 t2.2.f0.length c5, .slice A6 t2.2.f1.length c6], 26⟩, ⟨nx3, [.slice A8 t3.2.f0.length c8, .slice A9 t3.2.f1.length c9], 26⟩, ⟨nx4, [.slice A11 t4.2.f0.length c11, .slice A12 t4.2.f1.length c12], 26⟩, ⟨nx16, [.int .i64 1, .int .i64 0], 3⟩, ⟨nx16 + 1, [.int .i64 3, .int .i64 5], 2⟩, ⟨nx16 + 2, [.int .i64 0, .int .i64 2], 2⟩]) [] (RFacts.nil _ _ _) 5 [.no, .no, .no, .no, .no] (by kernel_rfl) (by kernel_rfl) ?_
                refine RL.freezeL (d := (Ty.int .i64)) (xs := [1, 0]) (b := ⟨nx16, [.int .i64 1, .int .i64 0], 3⟩) 4 (by kernel_rfl) ⟨_, _, rfl, rfl, ⟨_, _, rfl, rfl, rfl⟩⟩ (Nat.le_of_ble_eq_true rfl) (fun I40 hi40 hr31 => ?_)
                refine RL.freezeL (d := (Ty.int .i64)) (xs := [3, 5]) (b := ⟨nx16 + 1, [.int .i64 3, .int .i64 5], 2⟩) 4 (by kernel_rfl) ⟨_, _, rfl, rfl, ⟨_, _, rfl, rfl, rfl⟩⟩ (Nat.le_of_ble_eq_true rfl) (fun I41 hi41 hr32 => ?_)
                refine RL.freezeL (d := (Ty.int .i64)) (xs := [0, 2]) (b := ⟨nx16 + 2, [.int .i64 0, .int .i64 2], 2⟩) 4 (by kernel_rfl) ⟨_, _, rfl, rfl, ⟨_, _, rfl, rfl, rfl⟩⟩ (Nat.le_of_ble_eq_true rfl) (fun I42 hi42 hr33 => ?_)
                obtain ⟨t16, hA16, H⟩ := Option.bind_eq_some_iff.mp H
                refine RL.callP 20 [.slice (some ⟨nx0 + 2, 0, none⟩) 2 2, .slice (some ⟨nx16, 0, none⟩) 2 2, .agg #[.slice (some ⟨nx16 + 1, 0, none⟩) 2 2, .slice (some ⟨nx16 + 2, 0, none⟩) 2 2]] (some 156) (fun w => assign_VerifyDuals.Post I42 w t16) (by kernel_rfl) (by kernel_rfl) (fun w hs => assign_VerifyDuals.calls k I42 [[3, 5], [4, 7]] (some ⟨nx0 + 2, 0, none⟩) 2 [1, 0] (some ⟨nx16, 0, none⟩) 2 (⟨[3, 5], [0, 2]⟩ : S26) (some ⟨nx16 + 1, 0, none⟩) 2 (some ⟨nx16 + 2, 0, none⟩) 2 w hs.im (Nat.le_of_ble_eq_true rfl) (Rd.ext (Imm.le_trans (Imm.le_trans (Imm.le_trans (Imm.le_trans (Imm.le_trans (Imm.le_trans (Imm.le_trans (Imm.le_trans (Imm.le_trans (Imm.le_trans (Imm.le_trans (Imm.le_trans (Imm.le_trans (Imm.le_trans (Imm.le_trans (Imm.le_trans (Imm.le_trans (Imm.le_trans (Imm.le_trans (Imm.le_trans (Imm.le_trans (Imm.le_trans (Imm.le_trans (Imm.le_trans (Imm.le_trans (Imm.le_trans (Imm.le_trans (Imm.le_trans (Imm.le_trans (Imm.le_trans (Imm.le_trans (Imm.le_trans (Imm.le_trans (Imm.le_trans (Imm.le_trans (Imm.le_trans (Imm.le_trans hi4 hi5) hi6) hi7) hi8) hi9) hi10) hi11) hi12) hi13) hi14) hi15) hi16) hi17) hi18) hi19) hi20) hi21) hi22) hi23) hi24) hi25) hi26) hi27) hi28) hi29) hi31) hi32) hi33) hi34) hi35) hi36) hi37) hi38) hi39) hi40) hi41) hi42) hr3) (Nat.le_of_ble_eq_true rfl) (Rd.ext (Imm.le_trans hi41 hi42) hr31) (Nat.le_of_ble_eq_true rfl) (Rd.ext hi42 hr32) (Nat.le_of_ble_eq_true rfl) hr33 t16 hA16) ?_
                rintro w v w' hs ⟨I43, rfl, hg⟩
                have hi43 := hg.le
                refine RL.resume (X' := [orow 3 1 A1 t1.1.length c1 cs1, orow 3 1 A4 t2.1.length c4 cs4, orow 3 1 A7 t3.1.length c7 cs7, orow 3 1 A10 t4.1.length c10 cs10]) rfl (hs.call hg) ?_
                clear hs hg
                generalize w'.heap.size = nx17
                clear w w'
                refine RL.simK (K' := [(159, .bool (!t16)), (1, .slice (some ⟨nx0 + 2, 0, none⟩) 2 2)]) [] (RFacts.nil _ _ _) 3 [.no, .no, .no] (by kernel_rfl) (by kernel_rfl) ?_
                refine RL.cases t16 (fun hb => ?_) (fun hb => ?_)
                ·have hc := hb
                 rw [hb]
                 rw [if_pos hc] at H; clear hb
                 refine RL.simK (K' := [(0, .bool false)]) [] (RFacts.nil _ _ _) 20 [.no, .no, .no, .no, .no, .no, .no, .no, .no, .no, .no, .no, .no, .no, .no, .no, .no, .no, .no, .no] (by kernel_rfl) (by kernel_rfl) ?_
                 refine RL.nil (by kernel_rfl) ?_
                 obtain rfl := Option.some.inj H
                 refine QN.sel (K' := [(0, .bool false)]) (L' := [⟨nx1, [.slice A2 t1.2.f0.length c2, .slice A3 t1.2.f1.length c3], 26⟩, ⟨nx2, [.slice A5 t2.2.f0.length c5, .slice A6 t2.2.f1.length c6], 26⟩, ⟨nx3, [.slice A8 t3.2.f0.length c8, .slice A9 t3.2.f1.length c9], 26⟩, ⟨nx4, [.slice A11 t4.2.f0.length c11, .slice A12 t4.2.f1.length c12], 26⟩]) [] (by kernel_rfl) (by kernel_rfl) (.cons_cons _ (.cons_cons _ (.cons_cons _ (.cons_cons _ .slnil)))) ?_
                 refine QN.norm (X' := []) rfl rfl rfl (by kernel_rfl) ?_
                 exact hJ1 _ _ _ _ _ ⟨false, rfl, rfl, rfl, (Imm.le_trans (Imm.le_trans (Imm.le_trans (Imm.le_trans (Imm.le_trans (Imm.le_trans (Imm.le_trans (Imm.le_trans (Imm.le_trans (Imm.le_trans (Imm.le_trans (Imm.le_trans hi31 hi32) hi33) hi34) hi35) hi36) hi37) hi38) hi39) hi40) hi41) hi42) hi43), HK1⟩
                ·have hc := (Bool.eq_false_iff.1 hb)
                 rw [hb]
                 rw [if_neg hc] at H; clear hb
                 refine RL.simK (K' := [(160, .slice (some ⟨nx0 + 2, 0, none⟩) 2 2), (159, .bool true)]) [] (RFacts.nil _ _ _) 1 [.no] (by kernel_rfl) (by kernel_rfl) ?_
                 obtain ⟨t17, hA17, H⟩ := Option.bind_eq_some_iff.mp H
                 refine RL.callP 11 [.slice (some ⟨nx0 + 2, 0, none⟩) 2 2] (some 161) (fun w => assign_Valid.Post I43 w t17) (by kernel_rfl) (by kernel_rfl) (fun w hs => assign_Valid.calls k I43 [[3, 5], [4, 7]] (some ⟨nx0 + 2, 0, none⟩) 2 w hs.im (Nat.le_of_ble_eq_true rfl) (Rd.ext (Imm.le_trans (Imm.le_trans (Imm.le_trans (Imm.le_trans (Imm.le_trans (Imm.le_trans (Imm.le_trans (Imm.le_trans (Imm.le_trans (Imm.le_trans (Imm.le_trans (Imm.le_trans (Imm.le_trans (Imm.le_trans (Imm.le_trans (Imm.le_trans (Imm.le_trans (Imm.le_trans (Imm.le_trans (Imm.le_trans (Imm.le_trans (Imm.le_trans (Imm.le_trans (Imm.le_trans (Imm.le_trans (Imm.le_trans (Imm.le_trans (Imm.le_trans (Imm.le_trans (Imm.le_trans (Imm.le_trans (Imm.le_trans (Imm.le_trans (Imm.le_trans (Imm.le_trans (Imm.le_trans (Imm.le_trans (Imm.le_trans hi4 hi5) hi6) hi7) hi8) hi9) hi10) hi11) hi12) hi13) hi14) hi15) hi16) hi17) hi18) hi19) hi20) hi21) hi22) hi23) hi24) hi25) hi26) hi27) hi28) hi29) hi31) hi32) hi33) hi34) hi35) hi36) hi37) hi38) hi39) hi40) hi41) hi42) hi43) hr3) t17 hA17) ?_
                 rintro w v w' hs ⟨I44, rfl, hg⟩
                 have hi44 := hg.le
                 refine RL.resume (X' := [orow 3 1 A1 t1.1.length c1 cs1, orow 3 1 A4 t2.1.length c4 cs4, orow 3 1 A7 t3.1.length c7 cs7, orow 3 1 A10 t4.1.length c10 cs10]) rfl (hs.call hg) ?_
                 clear hs hg
                 generalize w'.heap.size = nx18
                 clear w w'
                 refine RL.simK (K' := [(163, .bool t17)]) [] (RFacts.nil _ _ _) 2 [.no, .no] (by kernel_rfl) (by kernel_rfl) ?_
                 refine RL.cases t17 (fun hb => ?_) (fun hb => ?_)
                 ·have hc := hb
                  rw [hb]
                  rw [if_pos hc] at H; clear hb
                  obtain ⟨t18, hA18, H⟩ := Option.bind_eq_some_iff.mp H
                  refine RL.callP 11 [.slice none 0 0] (some 164) (fun w => assign_Valid.Post I44 w t18) (by kernel_rfl) (by kernel_rfl) (fun w hs => assign_Valid.calls k I44 [] none 0 w hs.im (Nat.le_refl _) (Rd.nil _ _ _) t18 hA18) ?_
                  rintro w v w' hs ⟨I45, rfl, hg⟩
                  have hi45 := hg.le
                  refine RL.resume (X' := [orow 3 1 A1 t1.1.length c1 cs1, orow 3 1 A4 t2.1.length c4 cs4, orow 3 1 A7 t3.1.length c7 cs7, orow 3 1 A10 t4.1.length c10 cs10]) rfl (hs.call hg) ?_
                  clear hs hg
                  generalize w'.heap.size = nx19
                  clear w w'
                  refine RL.simK (K' := [(166, .bool t18)]) [] (RFacts.nil _ _ _) 2 [.no, .no] (by kernel_rfl) (by kernel_rfl) ?_
                  refine RL.cases t18 (fun hb => ?_) (fun hb => ?_)
                  ·have hc := hb
                   rw [hb]
                   rw [if_pos hc] at H; clear hb
                   refine RL.simP (K' := [(169, .slice (some ⟨nx19 + 2, 0, none⟩) 2 2), (166, .bool true)]) (nx' := nx19 + 3) (L' := [⟨nx1, [.slice A2 t1.2.f0.length c2, .slice A3 t1.2.f1.length c3], 26⟩, ⟨nx2, [.slice A5 t2.2.f0.length c5, .slice A6 t2.2.f1.length c6], 26⟩, ⟨nx3, [.slice A8 t3.2.f0.length c8, .slice A9 t3.2.f1.length c9], 26⟩, ⟨nx4, [.slice A11 t4.2.f0.length c11, .slice A12 t4.2.f1.length c12], 26⟩, ⟨nx19, [.int .i64 1], 2⟩, ⟨nx19 + 1, [], 2⟩, ⟨nx19 + 2, [.slice (some ⟨nx19, 0, none⟩) 1 1, .slice (some ⟨nx19 + 1, 0, none⟩) 0 0], 24⟩]) [] (RFacts.nil _ _ _) 3 [.no, .no, .no] (by kernel_rfl) (by kernel_rfl) ?_
                   refine RL.freezeL (d := (Ty.int .i64)) (xs := [1]) (b := ⟨nx19, [.int .i64 1], 2⟩) 4 (by kernel_rfl) ⟨_, _, rfl, rfl, rfl⟩ (Nat.le_of_ble_eq_true rfl) (fun I46 hi46 hr34 => ?_)
                   refine RL.freezeL (d := (Ty.int .i64)) (xs := []) (b := ⟨nx19 + 1, [], 2⟩) 4 (by kernel_rfl) rfl (Nat.le_of_ble_eq_true rfl) (fun I47 hi47 hr35 => ?_)
                   refine RL.freezeL (d := (Ty.slice (Ty.int .i64))) (xs := [[1], []]) (b := ⟨nx19 + 2, [.slice (some ⟨nx19, 0, none⟩) 1 1, .slice (some ⟨nx19 + 1, 0, none⟩) 0 0], 24⟩) 4 (by kernel_rfl) ⟨_, _, rfl, ⟨_, _, rfl, (Nat.le_of_ble_eq_true rfl), (Rd.ext hi47 hr34)⟩, ⟨_, _, rfl, ⟨_, _, rfl, (Nat.le_of_ble_eq_true rfl), hr35⟩, rfl⟩⟩ (Nat.le_of_ble_eq_true rfl) (fun I48 hi48 hr36 => ?_)
                   obtain ⟨t19, hA19, H⟩ := Option.bind_eq_some_iff.mp H
                   refine RL.callP 11 [.slice (some ⟨nx19 + 2, 0, none⟩) 2 2] (some 170) (fun w => assign_Valid.Post I48 w t19) (by kernel_rfl) (by kernel_rfl) (fun w hs => assign_Valid.calls k I48 [[1], []] (some ⟨nx19 + 2, 0, none⟩) 2 w hs.im (Nat.le_of_ble_eq_true rfl) hr36 t19 hA19) ?_
                   rintro w v w' hs ⟨I49, rfl, hg⟩
                   have hi49 := hg.le
                   refine RL.resume (X' := [orow 3 1 A1 t1.1.length c1 cs1, orow 3 1 A4 t2.1.length c4 cs4, orow 3 1 A7 t3.1.length c7 cs7, orow 3 1 A10 t4.1.length c10 cs10]) rfl (hs.call hg) ?_
                   clear hs hg
                   generalize w'.heap.size = nx20
                   clear w w'
                   refine RL.simK (K' := [(173, .bool (!t19))]) [] (RFacts.nil _ _ _) 3 [.no, .no, .no] (by kernel_rfl) (by kernel_rfl) ?_
                   refine RL.cases t19 (fun hb => ?_) (fun hb => ?_)
                   ·have hc := hb
                    rw [hb]
                    rw [if_pos hc] at H; clear hb
                    refine RL.simK (K' := [(0, .bool false)]) [] (RFacts.nil _ _ _) 6 [.no, .no, .no, .no, .no, .no] (by kernel_rfl) (by kernel_rfl) ?_
                    refine RL.nil (by kernel_rfl) ?_
                    obtain rfl := Option.some.inj H
                    refine QN.sel (K' := [(0, .bool false)]) (L' := [⟨nx1, [.slice A2 t1.2.f0.length c2, .slice A3 t1.2.f1.length c3], 26⟩, ⟨nx2, [.slice A5 t2.2.f0.length c5, .slice A6 t2.2.f1.length c6], 26⟩, ⟨nx3, [.slice A8 t3.2.f0.length c8, .slice A9 t3.2.f1.length c9], 26⟩, ⟨nx4, [.slice A11 t4.2.f0.length c11, .slice A12 t4.2.f1.length c12], 26⟩]) [] (by kernel_rfl) (by kernel_rfl) (.cons_cons _ (.cons_cons _ (.cons_cons _ (.cons_cons _ .slnil)))) ?_
                    refine QN.norm (X' := []) rfl rfl rfl (by kernel_rfl) ?_
                    exact hJ1 _ _ _ _ _ ⟨false, rfl, rfl, rfl, (Imm.le_trans (Imm.le_trans (Imm.le_trans (Imm.le_trans (Imm.le_trans (Imm.le_trans (Imm.le_trans (Imm.le_trans (Imm.le_trans (Imm.le_trans (Imm.le_trans (Imm.le_trans (Imm.le_trans (Imm.le_trans (Imm.le_trans (Imm.le_trans (Imm.le_trans (Imm.le_trans hi31 hi32) hi33) hi34) hi35) hi36) hi37) hi38) hi39) hi40) hi41) hi42) hi43) hi44) hi45) hi46) hi47) hi48) hi49), HK1⟩
                   ·have hc := (Bool.eq_false_iff.1 hb)
                    rw [hb]
                    rw [if_neg hc] at H; clear hb
                    refine RL.simP (K' := [(175, .slice (some ⟨nx20 + 1, 0, none⟩) 1 1), (173, .bool true)]) (nx' := nx20 + 2) (L' := [⟨nx1, [.slice A2 t1.2.f0.length c2, .slice A3 t1.2.f1.length c3], 26⟩, ⟨nx2, [.slice A5 t2.2.f0.length c5, .slice A6 t2.2.f1.length c6], 26⟩, ⟨nx3, [.slice A8 t3.2.f0.length c8, .slice A9 t3.2.f1.length c9], 26⟩, ⟨nx4, [.slice A11 t4.2.f0.length c11, .slice A12 t4.2.f1.length c12], 26⟩, ⟨nx20, [.int .i64 (-1)], 2⟩, ⟨nx20 + 1, [.slice (some ⟨nx20, 0, none⟩) 1 1], 24⟩]) [] (RFacts.nil _ _ _) 2 [.no, .no] (by kernel_rfl) (by kernel_rfl) ?_
                    refine RL.freezeL (d := (Ty.int .i64)) (xs := [(-1)]) (b := ⟨nx20, [.int .i64 (-1)], 2⟩) 4 (by kernel_rfl) ⟨_, _, rfl, rfl, rfl⟩ (Nat.le_of_ble_eq_true rfl) (fun I50 hi50 hr37 => ?_)
                    refine RL.freezeL (d := (Ty.slice (Ty.int .i64))) (xs := [[(-1)]]) (b := ⟨nx20 + 1, [.slice (some ⟨nx20, 0, none⟩) 1 1], 24⟩) 4 (by kernel_rfl) ⟨_, _, rfl, ⟨_, _, rfl, (Nat.le_of_ble_eq_true rfl), hr37⟩, rfl⟩ (Nat.le_of_ble_eq_true rfl) (fun I51 hi51 hr38 => ?_)
                    obtain ⟨t20, hA20, H⟩ := Option.bind_eq_some_iff.mp H
                    refine RL.callP 11 [.slice (some ⟨nx20 + 1, 0, none⟩) 1 1] (some 176) (fun w => assign_Valid.Post I51 w t20) (by kernel_rfl) (by kernel_rfl) (fun w hs => assign_Valid.calls k I51 [[(-1)]] (some ⟨nx20 + 1, 0, none⟩) 1 w hs.im (Nat.le_of_ble_eq_true rfl) hr38 t20 hA20) ?_
                    rintro w v w' hs ⟨I52, rfl, hg⟩
                    have hi52 := hg.le
                    refine RL.resume (X' := [orow 3 1 A1 t1.1.length c1 cs1, orow 3 1 A4 t2.1.length c4 cs4, orow 3 1 A7 t3.1.length c7 cs7, orow 3 1 A10 t4.1.length c10 cs10]) rfl (hs.call hg) ?_
                    clear hs hg
                    generalize w'.heap.size = nx21
                    clear w w'
                    refine RL.simK (K' := [(0, .bool (!t20))]) [] (RFacts.nil _ _ _) 3 [.no, .no, .no] (by kernel_rfl) (by kernel_rfl) ?_
                    refine RL.nil (by kernel_rfl) ?_
                    obtain rfl := Option.some.inj H
                    refine QN.sel (K' := [(0, .bool (!t20))]) (L' := [⟨nx1, [.slice A2 t1.2.f0.length c2, .slice A3 t1.2.f1.length c3], 26⟩, ⟨nx2, [.slice A5 t2.2.f0.length c5, .slice A6 t2.2.f1.length c6], 26⟩, ⟨nx3, [.slice A8 t3.2.f0.length c8, .slice A9 t3.2.f1.length c9], 26⟩, ⟨nx4, [.slice A11 t4.2.f0.length c11, .slice A12 t4.2.f1.length c12], 26⟩]) [] (by kernel_rfl) (by kernel_rfl) (.cons_cons _ (.cons_cons _ (.cons_cons _ (.cons_cons _ .slnil)))) ?_
                    refine QN.norm (X' := []) rfl rfl rfl (by kernel_rfl) ?_
                    exact hJ1 _ _ _ _ _ ⟨(!t20), rfl, rfl, rfl, (Imm.le_trans (Imm.le_trans (Imm.le_trans (Imm.le_trans (Imm.le_trans (Imm.le_trans (Imm.le_trans (Imm.le_trans (Imm.le_trans (Imm.le_trans (Imm.le_trans (Imm.le_trans (Imm.le_trans (Imm.le_trans (Imm.le_trans (Imm.le_trans (Imm.le_trans (Imm.le_trans (Imm.le_trans (Imm.le_trans (Imm.le_trans hi31 hi32) hi33) hi34) hi35) hi36) hi37) hi38) hi39) hi40) hi41) hi42) hi43) hi44) hi45) hi46) hi47) hi48) hi49) hi50) hi51) hi52), HK1⟩
                  ·have hc := (Bool.eq_false_iff.1 hb)
                   rw [hb]
                   rw [if_neg hc] at H; clear hb
                   refine RL.simK (K' := [(0, .bool false)]) [] (RFacts.nil _ _ _) 13 [.no, .no, .no, .no, .no, .no, .no, .no, .no, .no, .no, .no, .no] (by kernel_rfl) (by kernel_rfl) ?_
                   refine RL.nil (by kernel_rfl) ?_
                   obtain rfl := Option.some.inj H
                   refine QN.sel (K' := [(0, .bool false)]) (L' := [⟨nx1, [.slice A2 t1.2.f0.length c2, .slice A3 t1.2.f1.length c3], 26⟩, ⟨nx2, [.slice A5 t2.2.f0.length c5, .slice A6 t2.2.f1.length c6], 26⟩, ⟨nx3, [.slice A8 t3.2.f0.length c8, .slice A9 t3.2.f1.length c9], 26⟩, ⟨nx4, [.slice A11 t4.2.f0.length c11, .slice A12 t4.2.f1.length c12], 26⟩]) [] (by kernel_rfl) (by kernel_rfl) (.cons_cons _ (.cons_cons _ (.cons_cons _ (.cons_cons _ .slnil)))) ?_
                   refine QN.norm (X' := []) rfl rfl rfl (by kernel_rfl) ?_
                   exact hJ1 _ _ _ _ _ ⟨false, rfl, rfl, rfl, (Imm.le_trans (Imm.le_trans (Imm.le_trans (Imm.le_trans (Imm.le_trans (Imm.le_trans (Imm.le_trans (Imm.le_trans (Imm.le_trans (Imm.le_trans (Imm.le_trans (Imm.le_trans (Imm.le_trans (Imm.le_trans hi31 hi32) hi33) hi34) hi35) hi36) hi37) hi38) hi39) hi40) hi41) hi42) hi43) hi44) hi45), HK1⟩
                 ·have hc := (Bool.eq_false_iff.1 hb)
                  rw [hb]
                  rw [if_neg hc] at H; clear hb
                  refine RL.simK (K' := [(0, .bool false)]) [] (RFacts.nil _ _ _) 16 [.no, .no, .no, .no, .no, .no, .no, .no, .no, .no, .no, .no, .no, .no, .no, .no] (by kernel_rfl) (by kernel_rfl) ?_
                  refine RL.nil (by kernel_rfl) ?_
                  obtain rfl := Option.some.inj H
                  refine QN.sel (K' := [(0, .bool false)]) (L' := [⟨nx1, [.slice A2 t1.2.f0.length c2, .slice A3 t1.2.f1.length c3], 26⟩, ⟨nx2, [.slice A5 t2.2.f0.length c5, .slice A6 t2.2.f1.length c6], 26⟩, ⟨nx3, [.slice A8 t3.2.f0.length c8, .slice A9 t3.2.f1.length c9], 26⟩, ⟨nx4, [.slice A11 t4.2.f0.length c11, .slice A12 t4.2.f1.length c12], 26⟩]) [] (by kernel_rfl) (by kernel_rfl) (.cons_cons _ (.cons_cons _ (.cons_cons _ (.cons_cons _ .slnil)))) ?_
                  refine QN.norm (X' := []) rfl rfl rfl (by kernel_rfl) ?_
                  exact hJ1 _ _ _ _ _ ⟨false, rfl, rfl, rfl, (Imm.le_trans (Imm.le_trans (Imm.le_trans (Imm.le_trans (Imm.le_trans (Imm.le_trans (Imm.le_trans (Imm.le_trans (Imm.le_trans (Imm.le_trans (Imm.le_trans (Imm.le_trans (Imm.le_trans hi31 hi32) hi33) hi34) hi35) hi36) hi37) hi38) hi39) hi40) hi41) hi42) hi43) hi44), HK1⟩
             ·have hc := (Bool.eq_false_iff.1 hb)
              rw [hb]
              rw [if_neg hc] at H; clear hb
              refine RL.simK (K' := [(0, .bool false)]) [] (RFacts.nil _ _ _) 47 (.no :: .no :: .no :: .no :: .no :: .no :: .no :: .no :: .no :: .no :: .no :: .no :: .no :: .no :: .no :: .no :: .no :: .no :: .no :: .no :: .no :: .no :: .no :: .no :: .no :: .no :: .no :: .no :: .no :: .no :: .no :: .no :: .no :: .no :: .no :: .no :: .no :: .no :: .no :: .no :: .no :: .no :: .no :: .no :: .no :: .no :: .no :: []) (by kernel_rfl) (by kernel_rfl) ?_
              refine RL.nil (by kernel_rfl) ?_
              obtain rfl := Option.some.inj H
              refine QN.sel (K' := [(0, .bool false)]) (L' := [⟨nx1, [.slice A2 t1.2.f0.length c2, .slice A3 t1.2.f1.length c3], 26⟩, ⟨nx2, [.slice A5 t2.2.f0.length c5, .slice A6 t2.2.f1.length c6], 26⟩, ⟨nx3, [.slice A8 t3.2.f0.length c8, .slice A9 t3.2.f1.length c9], 26⟩, ⟨nx4, [.slice A11 t4.2.f0.length c11, .slice A12 t4.2.f1.length c12], 26⟩]) [] (by kernel_rfl) (by kernel_rfl) (.cons_cons _ (.cons_cons _ (.cons_cons _ (.cons_cons _ .slnil)))) ?_
              refine QN.norm (X' := []) rfl rfl rfl (by kernel_rfl) ?_
              exact hJ1 _ _ _ _ _ ⟨false, rfl, rfl, rfl, (Imm.le_trans (Imm.le_trans (Imm.le_trans (Imm.le_trans hi31 hi32) hi33) hi34) hi35), HK1⟩
          ·have hc := (Bool.eq_false_iff.1 hb)
           rw [hb]
           rw [if_neg hc] at H; clear hb
           refine RL.simK (K' := [(0, .bool false)]) [] (RFacts.nil _ _ _) 63 (.no :: .no :: .no :: .no :: .no :: .no :: .no :: .no :: .no :: .no :: .no :: .no :: .no :: .no :: .no :: .no :: .no :: .no :: .no :: .no :: .no :: .no :: .no :: .no :: .no :: .no :: .no :: .no :: .no :: .no :: .no :: .no :: .no :: .no :: .no :: .no :: .no :: .no :: .no :: .no :: .no :: .no :: .no :: .no :: .no :: .no :: .no :: .no :: .no :: .no :: .no :: .no :: .no :: .no :: .no :: .no :: .no :: .no :: .no :: .no :: .no :: .no :: .no :: []) (by kernel_rfl) (by kernel_rfl) ?_
           refine RL.nil (by kernel_rfl) ?_
           obtain rfl := Option.some.inj H
           refine QN.sel (K' := [(0, .bool false)]) (L' := [⟨nx1, [.slice A2 t1.2.f0.length c2, .slice A3 t1.2.f1.length c3], 26⟩, ⟨nx2, [.slice A5 t2.2.f0.length c5, .slice A6 t2.2.f1.length c6], 26⟩, ⟨nx3, [.slice A8 t3.2.f0.length c8, .slice A9 t3.2.f1.length c9], 26⟩, ⟨nx4, [.slice A11 t4.2.f0.length c11, .slice A12 t4.2.f1.length c12], 26⟩]) [] (by kernel_rfl) (by kernel_rfl) (.cons_cons _ (.cons_cons _ (.cons_cons _ (.cons_cons _ .slnil)))) ?_
           refine QN.norm (X' := []) rfl rfl rfl (by kernel_rfl) ?_
           exact hJ1 _ _ _ _ _ ⟨false, rfl, rfl, rfl, (Imm.le_trans (Imm.le_trans hi31 hi32) hi33), HK1⟩
         ·have hc := (beq_eq_false_iff_ne.1 hb)
          rw [hb]
          rw [if_neg hc] at H; clear hb
          refine RL.simK (K' := [(0, .bool false)]) [] (RFacts.nil _ _ _) 66 (.no :: .no :: .no :: .no :: .no :: .no :: .no :: .no :: .no :: .no :: .no :: .no :: .no :: .no :: .no :: .no :: .no :: .no :: .no :: .no :: .no :: .no :: .no :: .no :: .no :: .no :: .no :: .no :: .no :: .no :: .no :: .no :: .no :: .no :: .no :: .no :: .no :: .no :: .no :: .no :: .no :: .no :: .no :: .no :: .no :: .no :: .no :: .no :: .no :: .no :: .no :: .no :: .no :: .no :: .no :: .no :: .no :: .no :: .no :: .no :: .no :: .no :: .no :: .no :: .no :: .no :: []) (by kernel_rfl) (by kernel_rfl) ?_
          refine RL.nil (by kernel_rfl) ?_
          obtain rfl := Option.some.inj H
          refine QN.sel (K' := [(0, .bool false)]) (L' := [⟨nx1, [.slice A2 t1.2.f0.length c2, .slice A3 t1.2.f1.length c3], 26⟩, ⟨nx2, [.slice A5 t2.2.f0.length c5, .slice A6 t2.2.f1.length c6], 26⟩, ⟨nx3, [.slice A8 t3.2.f0.length c8, .slice A9 t3.2.f1.length c9], 26⟩, ⟨nx4, [.slice A11 t4.2.f0.length c11, .slice A12 t4.2.f1.length c12], 26⟩]) [] (by kernel_rfl) (by kernel_rfl) (.cons_cons _ (.cons_cons _ (.cons_cons _ (.cons_cons _ .slnil)))) ?_
          refine QN.norm (X' := []) rfl rfl rfl (by kernel_rfl) ?_
          exact hJ1 _ _ _ _ _ ⟨false, rfl, rfl, rfl, (Imm.le_trans (Imm.le_trans hi31 hi32) hi33), HK1⟩
        ·have hc := (Bool.eq_false_iff.1 hb)
         rw [hb]
         rw [if_neg hc] at H; clear hb
         refine RL.simK (K' := [(0, .bool false)]) [] (RFacts.nil _ _ _) 70 (.no :: .no :: .no :: .no :: .no :: .no :: .no :: .no :: .no :: .no :: .no :: .no :: .no :: .no :: .no :: .no :: .no :: .no :: .no :: .no :: .no :: .no :: .no :: .no :: .no :: .no :: .no :: .no :: .no :: .no :: .no :: .no :: .no :: .no :: .no :: .no :: .no :: .no :: .no :: .no :: .no :: .no :: .no :: .no :: .no :: .no :: .no :: .no :: .no :: .no :: .no :: .no :: .no :: .no :: .no :: .no :: .no :: .no :: .no :: .no :: .no :: .no :: .no :: .no :: .no :: .no :: .no :: .no :: .no :: .no :: []) (by kernel_rfl) (by kernel_rfl) ?_
         refine RL.nil (by kernel_rfl) ?_
         obtain rfl := Option.some.inj H
         refine QN.sel (K' := [(0, .bool false)]) (L' := [⟨nx1, [.slice A2 t1.2.f0.length c2, .slice A3 t1.2.f1.length c3], 26⟩, ⟨nx2, [.slice A5 t2.2.f0.length c5, .slice A6 t2.2.f1.length c6], 26⟩, ⟨nx3, [.slice A8 t3.2.f0.length c8, .slice A9 t3.2.f1.length c9], 26⟩, ⟨nx4, [.slice A11 t4.2.f0.length c11, .slice A12 t4.2.f1.length c12], 26⟩]) [] (by kernel_rfl) (by kernel_rfl) (.cons_cons _ (.cons_cons _ (.cons_cons _ (.cons_cons _ .slnil)))) ?_
         refine QN.norm (X' := []) rfl rfl rfl (by kernel_rfl) ?_
         exact hJ1 _ _ _ _ _ ⟨false, rfl, rfl, rfl, (Imm.le_trans (Imm.le_trans hi31 hi32) hi33), HK1⟩
       ·have hc := (beq_eq_false_iff_ne.1 hb)
        rw [hb]
        rw [if_neg hc] at H; clear hb
        refine RL.simK (K' := [(0, .bool false)]) [] (RFacts.nil _ _ _) 73 (.no :: .no :: .no :: .no :: .no :: .no :: .no :: .no :: .no :: .no :: .no :: .no :: .no :: .no :: .no :: .no :: .no :: .no :: .no :: .no :: .no :: .no :: .no :: .no :: .no :: .no :: .no :: .no :: .no :: .no :: .no :: .no :: .no :: .no :: .no :: .no :: .no :: .no :: .no :: .no :: .no :: .no :: .no :: .no :: .no :: .no :: .no :: .no :: .no :: .no :: .no :: .no :: .no :: .no :: .no :: .no :: .no :: .no :: .no :: .no :: .no :: .no :: .no :: .no :: .no :: .no :: .no :: .no :: .no :: .no :: .no :: .no :: .no :: []) (by kernel_rfl) (by kernel_rfl) ?_
        refine RL.nil (by kernel_rfl) ?_
        obtain rfl := Option.some.inj H
        refine QN.sel (K' := [(0, .bool false)]) (L' := [⟨nx1, [.slice A2 t1.2.f0.length c2, .slice A3 t1.2.f1.length c3], 26⟩, ⟨nx2, [.slice A5 t2.2.f0.length c5, .slice A6 t2.2.f1.length c6], 26⟩, ⟨nx3, [.slice A8 t3.2.f0.length c8, .slice A9 t3.2.f1.length c9], 26⟩, ⟨nx4, [.slice A11 t4.2.f0.length c11, .slice A12 t4.2.f1.length c12], 26⟩]) [] (by kernel_rfl) (by kernel_rfl) (.cons_cons _ (.cons_cons _ (.cons_cons _ (.cons_cons _ .slnil)))) ?_
        refine QN.norm (X' := []) rfl rfl rfl (by kernel_rfl) ?_
        exact hJ1 _ _ _ _ _ ⟨false, rfl, rfl, rfl, (Imm.le_trans (Imm.le_trans hi31 hi32) hi33), HK1⟩
      ·have hc := (beq_eq_false_iff_ne.1 hb)
       rw [hb]
       rw [if_neg hc] at H; clear hb
       refine RL.simK (K' := [(0, .bool false)]) [] (RFacts.nil _ _ _) 77 (.no :: .no :: .no :: .no :: .no :: .no :: .no :: .no :: .no :: .no :: .no :: .no :: .no :: .no :: .no :: .no :: .no :: .no :: .no :: .no :: .no :: .no :: .no :: .no :: .no :: .no :: .no :: .no :: .no :: .no :: .no :: .no :: .no :: .no :: .no :: .no :: .no :: .no :: .no :: .no :: .no :: .no :: .no :: .no :: .no :: .no :: .no :: .no :: .no :: .no :: .no :: .no :: .no :: .no :: .no :: .no :: .no :: .no :: .no :: .no :: .no :: .no :: .no :: .no :: .no :: .no :: .no :: .no :: .no :: .no :: .no :: .no :: .no :: .no :: .no :: .no :: .no :: []) (by kernel_rfl) (by kernel_rfl) ?_
       refine RL.nil (by kernel_rfl) ?_
       obtain rfl := Option.some.inj H
       refine QN.sel (K' := [(0, .bool false)]) (L' := [⟨nx1, [.slice A2 t1.2.f0.length c2, .slice A3 t1.2.f1.length c3], 26⟩, ⟨nx2, [.slice A5 t2.2.f0.length c5, .slice A6 t2.2.f1.length c6], 26⟩, ⟨nx3, [.slice A8 t3.2.f0.length c8, .slice A9 t3.2.f1.length c9], 26⟩, ⟨nx4, [.slice A11 t4.2.f0.length c11, .slice A12 t4.2.f1.length c12], 26⟩]) [] (by kernel_rfl) (by kernel_rfl) (.cons_cons _ (.cons_cons _ (.cons_cons _ (.cons_cons _ .slnil)))) ?_
       refine QN.norm (X' := []) rfl rfl rfl (by kernel_rfl) ?_
       exact hJ1 _ _ _ _ _ ⟨false, rfl, rfl, rfl, (Imm.le_trans (Imm.le_trans hi31 hi32) hi33), HK1⟩
     ·have hc := (Bool.eq_false_iff.1 hb)
      rw [hb]
      rw [if_neg hc] at H; clear hb
      refine RL.simK (K' := [(0, .bool false)]) [] (RFacts.nil _ _ _) 90 (.no :: .no :: .no :: .no :: .no :: .no :: .no :: .no :: .no :: .no :: .no :: .no :: .no :: .no :: .no :: .no :: .no :: .no :: .no :: .no :: .no :: .no :: .no :: .no :: .no :: .no :: .no :: .no :: .no :: .no :: .no :: .no :: .no :: .no :: .no :: .no :: .no :: .no :: .no :: .no :: .no :: .no :: .no :: .no :: .no :: .no :: .no :: .no :: .no :: .no :: .no :: .no :: .no :: .no :: .no :: .no :: .no :: .no :: .no :: .no :: .no :: .no :: .no :: .no :: .no :: .no :: .no :: .no :: .no :: .no :: .no :: .no :: .no :: .no :: .no :: .no :: .no :: .no :: .no :: .no :: .no :: .no :: .no :: .no :: .no :: .no :: .no :: .no :: .no :: .no :: []) (by kernel_rfl) (by kernel_rfl) ?_
      refine RL.nil (by kernel_rfl) ?_
      obtain rfl := Option.some.inj H
      refine QN.sel (K' := [(0, .bool false)]) (L' := [⟨nx1, [.slice A2 t1.2.f0.length c2, .slice A3 t1.2.f1.length c3], 26⟩, ⟨nx2, [.slice A5 t2.2.f0.length c5, .slice A6 t2.2.f1.length c6], 26⟩, ⟨nx3, [.slice A8 t3.2.f0.length c8, .slice A9 t3.2.f1.length c9], 26⟩, ⟨nx4, [.slice A11 t4.2.f0.length c11, .slice A12 t4.2.f1.length c12], 26⟩]) [] (by kernel_rfl) (by kernel_rfl) (.cons_cons _ (.cons_cons _ (.cons_cons _ (.cons_cons _ .slnil)))) ?_
      refine QN.norm (X' := []) rfl rfl rfl (by kernel_rfl) ?_
      exact hJ1 _ _ _ _ _ ⟨false, rfl, rfl, rfl, (Imm.le_trans (Imm.le_trans hi31 hi32) hi33), HK1⟩
    ·have hc := (Bool.eq_false_iff.1 hb)
     rw [hb]
     rw [if_neg hc] at H; clear hb
     refine RL.simK (K' := [(0, .bool false)]) [] (RFacts.nil _ _ _) 95 (.no :: .no :: .no :: .no :: .no :: .no :: .no :: .no :: .no :: .no :: .no :: .no :: .no :: .no :: .no :: .no :: .no :: .no :: .no :: .no :: .no :: .no :: .no :: .no :: .no :: .no :: .no :: .no :: .no :: .no :: .no :: .no :: .no :: .no :: .no :: .no :: .no :: .no :: .no :: .no :: .no :: .no :: .no :: .no :: .no :: .no :: .no :: .no :: .no :: .no :: .no :: .no :: .no :: .no :: .no :: .no :: .no :: .no :: .no :: .no :: .no :: .no :: .no :: .no :: .no :: .no :: .no :: .no :: .no :: .no :: .no :: .no :: .no :: .no :: .no :: .no :: .no :: .no :: .no :: .no :: .no :: .no :: .no :: .no :: .no :: .no :: .no :: .no :: .no :: .no :: .no :: .no :: .no :: .no :: .no :: []) (by kernel_rfl) (by kernel_rfl) ?_
     refine RL.nil (by kernel_rfl) ?_
     obtain rfl := Option.some.inj H
     refine QN.sel (K' := [(0, .bool false)]) (L' := [⟨nx1, [.slice A2 t1.2.f0.length c2, .slice A3 t1.2.f1.length c3], 26⟩, ⟨nx2, [.slice A5 t2.2.f0.length c5, .slice A6 t2.2.f1.length c6], 26⟩, ⟨nx3, [.slice A8 t3.2.f0.length c8, .slice A9 t3.2.f1.length c9], 26⟩, ⟨nx4, [.slice A11 t4.2.f0.length c11, .slice A12 t4.2.f1.length c12], 26⟩]) [] (by kernel_rfl) (by kernel_rfl) (.cons_cons _ (.cons_cons _ (.cons_cons _ (.cons_cons _ .slnil)))) ?_
     refine QN.norm (X' := []) rfl rfl rfl (by kernel_rfl) ?_
     exact hJ1 _ _ _ _ _ ⟨false, rfl, rfl, rfl, (Imm.le_trans hi31 hi32), HK1⟩
   ·have hc := (Bool.eq_false_iff.1 hb)
    rw [hb]
    rw [if_neg hc] at H; clear hb
    refine RL.simK (K' := [(0, .bool false)]) [] (RFacts.nil _ _ _) 100 (.no :: .no :: .no :: .no :: .no :: .no :: .no :: .no :: .no :: .no :: .no :: .no :: .no :: .no :: .no :: .no :: .no :: .no :: .no :: .no :: .no :: .no :: .no :: .no :: .no :: .no :: .no :: .no :: .no :: .no :: .no :: .no :: .no :: .no :: .no :: .no :: .no :: .no :: .no :: .no :: .no :: .no :: .no :: .no :: .no :: .no :: .no :: .no :: .no :: .no :: .no :: .no :: .no :: .no :: .no :: .no :: .no :: .no :: .no :: .no :: .no :: .no :: .no :: .no :: .no :: .no :: .no :: .no :: .no :: .no :: .no :: .no :: .no :: .no :: .no :: .no :: .no :: .no :: .no :: .no :: .no :: .no :: .no :: .no :: .no :: .no :: .no :: .no :: .no :: .no :: .no :: .no :: .no :: .no :: .no :: .no :: .no :: .no :: .no :: .no :: []) (by kernel_rfl) (by kernel_rfl) ?_
    refine RL.nil (by kernel_rfl) ?_
    obtain rfl := Option.some.inj H
    refine QN.sel (K' := [(0, .bool false)]) (L' := [⟨nx1, [.slice A2 t1.2.f0.length c2, .slice A3 t1.2.f1.length c3], 26⟩, ⟨nx2, [.slice A5 t2.2.f0.length c5, .slice A6 t2.2.f1.length c6], 26⟩, ⟨nx3, [.slice A8 t3.2.f0.length c8, .slice A9 t3.2.f1.length c9], 26⟩, ⟨nx4, [.slice A11 t4.2.f0.length c11, .slice A12 t4.2.f1.length c12], 26⟩]) [] (by kernel_rfl) (by kernel_rfl) (.cons_cons _ (.cons_cons _ (.cons_cons _ (.cons_cons _ .slnil)))) ?_
    refine QN.norm (X' := []) rfl rfl rfl (by kernel_rfl) ?_
    exact hJ1 _ _ _ _ _ ⟨false, rfl, rfl, rfl, hi31, HK1⟩
  ·have hc := (Bool.eq_false_iff.1 hb)
   rw [hb]
   rw [if_neg hc] at H; clear hb
   refine RL.simK (K' := [(0, .bool false)]) [] (RFacts.nil _ _ _) 106 (.no :: .no :: .no :: .no :: .no :: .no :: .no :: .no :: .no :: .no :: .no :: .no :: .no :: .no :: .no :: .no :: .no :: .no :: .no :: .no :: .no :: .no :: .no :: .no :: .no :: .no :: .no :: .no :: .no :: .no :: .no :: .no :: .no :: .no :: .no :: .no :: .no :: .no :: .no :: .no :: .no :: .no :: .no :: .no :: .no :: .no :: .no :: .no :: .no :: .no :: .no :: .no :: .no :: .no :: .no :: .no :: .no :: .no :: .no :: .no :: .no :: .no :: .no :: .no :: .no :: .no :: .no :: .no :: .no :: .no :: .no :: .no :: .no :: .no :: .no :: .no :: .no :: .no :: .no :: .no :: .no :: .no :: .no :: .no :: .no :: .no :: .no :: .no :: .no :: .no :: .no :: .no :: .no :: .no :: .no :: .no :: .no :: .no :: .no :: .no :: .no :: .no :: .no :: .no :: .no :: .no :: []) (by kernel_rfl) (by kernel_rfl) ?_
   refine RL.nil (by kernel_rfl) ?_
   obtain rfl := Option.some.inj H
   refine QN.sel (K' := [(0, .bool false)]) (L' := [⟨nx1, [.slice A2 t1.2.f0.length c2, .slice A3 t1.2.f1.length c3], 26⟩, ⟨nx2, [.slice A5 t2.2.f0.length c5, .slice A6 t2.2.f1.length c6], 26⟩, ⟨nx3, [.slice A8 t3.2.f0.length c8, .slice A9 t3.2.f1.length c9], 26⟩, ⟨nx4, [.slice A11 t4.2.f0.length c11, .slice A12 t4.2.f1.length c12], 26⟩]) [] (by kernel_rfl) (by kernel_rfl) (.cons_cons _ (.cons_cons _ (.cons_cons _ (.cons_cons _ .slnil)))) ?_
   refine QN.norm (X' := []) rfl rfl rfl (by kernel_rfl) ?_
   exact hJ1 _ _ _ _ _ ⟨false, rfl, rfl, rfl, hi31, HK1⟩

end Go.Proofs.Ytdmhbcgmimfjcaa
namespace Go.Proofs.Ytdmhbcgmimfjcaa.hun
open Go Go.Proofs.Ytdmhbcgmimfjcaa Go.Proofs.Ytdmhbcgmimfjcaa.RW
set_option maxRecDepth 1000000
theorem sane (k : Nat) : armillarylaw22_sanity.f (k + 60) = some true := by kernel_rfl
end Go.Proofs.Ytdmhbcgmimfjcaa.hun
namespace Go.Proofs.Ytdmhbcgmimfjcaa
open Go Go.Proofs.Ytdmhbcgmimfjcaa.RW
set_option linter.unusedVariables false
set_option maxRecDepth 100000
set_option maxHeartbeats 8000000

/-! ### armillarylaw22_AssignDiagonal: function 9, armillary/armillarylaw22.AssignDiagonal -/
noncomputable def K9_0 : Code := cBody Try.f9
noncomputable def K9_1 : Code := cL K9_0
noncomputable def O9_1 : List Oper := cOps K9_1
noncomputable def K9_3 : Code := cR K9_0
noncomputable def K9_4 : Code := cL K9_3
noncomputable def O9_4 : List Oper := cOps K9_4
noncomputable def K9_6 : Code := cR K9_3
noncomputable def K9_7 : Code := cL K9_6
noncomputable def O9_7 : List Oper := cOps K9_7
noncomputable def K9_9 : Code := cR K9_6
noncomputable def K9_10 : Code := cL K9_9
noncomputable def O9_10 : List Oper := cOps K9_10
noncomputable def K9_12 : Code := cR K9_9
noncomputable def K9_13 : Code := cL K9_12
noncomputable def K9_14 : Code := cL K9_13
noncomputable def O9_14 : List Oper := cOps K9_14
noncomputable def K9_16 : Code := cR K9_13
noncomputable def K9_17 : Code := cL K9_16
noncomputable def K9_18 : Code := cL K9_17
noncomputable def O9_18 : List Oper := cOps K9_18
noncomputable def K9_20 : Code := cR K9_17
noncomputable def K9_21 : Code := cR K9_16
noncomputable def K9_22 : Code := cR K9_12
noncomputable def K9_23 : Code := cL K9_22
noncomputable def O9_23 : List Oper := cOps K9_23
noncomputable def K9_25 : Code := cR K9_22
noncomputable def K9_26 : Code := cL K9_25
noncomputable def K9_27 : Code := cL K9_26
noncomputable def O9_27 : List Oper := cOps K9_27
noncomputable def K9_29 : Code := cR K9_26
noncomputable def K9_30 : Code := cL K9_29
noncomputable def K9_31 : Code := cL K9_30
noncomputable def K9_32 : Code := cL K9_31
noncomputable def K9_33 : Code := cL K9_32
noncomputable def O9_33 : List Oper := cOps K9_33
noncomputable def K9_35 : Code := cR K9_32
noncomputable def K9_36 : Code := cL K9_35
noncomputable def K9_37 : Code := cR K9_35
noncomputable def K9_38 : Code := cR K9_31
noncomputable def K9_39 : Code := cL K9_38
noncomputable def K9_40 : Code := cL K9_39
noncomputable def K9_41 : Code := cL K9_40
noncomputable def O9_41 : List Oper := cOps K9_41
noncomputable def K9_43 : Code := cR K9_40
noncomputable def K9_44 : Code := cL K9_43
noncomputable def K9_45 : Code := cL K9_44
noncomputable def O9_45 : List Oper := cOps K9_45
noncomputable def K9_47 : Code := cR K9_44
noncomputable def K9_48 : Code := cL K9_47
noncomputable def K9_49 : Code := cL K9_48
noncomputable def K9_50 : Code := cL K9_49
noncomputable def K9_51 : Code := cL K9_50
noncomputable def O9_51 : List Oper := cOps K9_51
noncomputable def K9_53 : Code := cR K9_50
noncomputable def K9_54 : Code := cL K9_53
noncomputable def K9_55 : Code := cR K9_53
noncomputable def K9_56 : Code := cR K9_49
noncomputable def K9_57 : Code := cL K9_56
noncomputable def K9_58 : Code := cL K9_57
noncomputable def O9_58 : List Oper := cOps K9_58
noncomputable def K9_60 : Code := cR K9_56
noncomputable def O9_60 : List Oper := cOps K9_60
noncomputable def K9_62 : Code := cR K9_43
noncomputable def K9_63 : Code := cL K9_62
noncomputable def O9_63 : List Oper := cOps K9_63
noncomputable def K9_65 : Code := cR K9_62
noncomputable def K9_66 : Code := cL K9_65
noncomputable def O9_66 : List Oper := cOps K9_66
noncomputable def K9_68 : Code := cR K9_65
noncomputable def K9_69 : Code := cL K9_68
noncomputable def O9_69 : List Oper := cOps K9_69
noncomputable def K9_71 : Code := cR K9_68
noncomputable def O9_71 : List Oper := cOps K9_71
noncomputable def K9_73 : Code := cR K9_38
noncomputable def O9_73 : List Oper := cOps K9_73
noncomputable def K9_75 : Code := cR K9_25
noncomputable def K9_76 : Code := cL K9_75
noncomputable def O9_76 : List Oper := cOps K9_76
noncomputable def K9_78 : Code := cR K9_75
noncomputable def K9_79 : Code := cL K9_78
noncomputable def O9_79 : List Oper := cOps K9_79
noncomputable def K9_81 : Code := cR K9_78
def armillarylaw22_AssignDiagonal.k1  (x3 : Bool) : Option (Bool) := (some x3)
def armillarylaw22_AssignDiagonal.k2 (k : Nat) (t1 : Bool) : List (List Int) × List Int → Option (Bool)
 | (x1, x2) => ((assign_Solve.f k x1).bind fun t4 => (((assign_Valid.f k x1).bind fun t5 => (if t5 = true then ((armillaryref22_Same.f k t4.1 x2).bind fun t6 => (if t6 = true then ((assign_VerifyDuals.f k x1 x2 t4.2).bind fun t7 => (if t7 = true then (some t1) else (some false))) else (some false))) else (some false))).bind (armillarylaw22_AssignDiagonal.k1)))
def armillarylaw22_AssignDiagonal.k4 (a1 : Int) (t2 : List (List Int)) (t3 : Int) (x4 : List (List Int)) (x5 : List Int) (x6 : Int) (x9 : List Int) : Option (List (List Int) × List Int) := (if (iMin (t2.length : Int) t3) = 0 then none else (if 0 ≤ x6 then (if x6 < (t2.length : Int) then (if 0 ≤ ((W .i64 (x6 + (W .i64 (a1)))).tmod (iMin (t2.length : Int) t3)) then (if ((W .i64 (x6 + (W .i64 (a1)))).tmod (iMin (t2.length : Int) t3)) < ((t2.getD (x6).toNat []).length : Int) then (if 0 ≤ ((W .i64 (x6 + (W .i64 (a1)))).tmod (iMin (t2.length : Int) t3)) then (if ((W .i64 (x6 + (W .i64 (a1)))).tmod (iMin (t2.length : Int) t3)) < (x9.length : Int) then (if (x4.length + [x9.set ((W .i64 (x6 + (W .i64 (a1)))).tmod (iMin (t2.length : Int) t3)).toNat (W .i64 (536870912 + (((t2.getD (x6).toNat []).getD ((W .i64 (x6 + (W .i64 (a1)))).tmod (iMin (t2.length : Int) t3)).toNat 0).tmod 536870912)))].length) * 24 ≤ 140737488355328 then (if (x5.length + [(W .i64 (x6 + (W .i64 (a1)))).tmod (iMin (t2.length : Int) t3)].length) * 8 ≤ 140737488355328 then (some ((x4 ++ [x9.set ((W .i64 (x6 + (W .i64 (a1)))).tmod (iMin (t2.length : Int) t3)).toNat (W .i64 (536870912 + (((t2.getD (x6).toNat []).getD ((W .i64 (x6 + (W .i64 (a1)))).tmod (iMin (t2.length : Int) t3)).toNat 0).tmod 536870912)))]), (x5 ++ [(W .i64 (x6 + (W .i64 (a1)))).tmod (iMin (t2.length : Int) t3)]))) else none) else none) else none) else none) else none) else none) else none) else none))
def armillarylaw22_AssignDiagonal.l2 (t2 : List (List Int)) (t3 : Int) (x6 : Int) : Nat → (List Int) → Int → Option (List Int)
 | 0, _, _ => none
 | k + 1, x10, x11 => (if x11 < (iMin (t2.length : Int) t3) then (if 0 ≤ x6 then (if x6 < (t2.length : Int) then (if 0 ≤ x11 then (if x11 < ((t2.getD (x6).toNat []).length : Int) then (if 0 ≤ x11 then (if x11 < (x10.length : Int) then (armillarylaw22_AssignDiagonal.l2 t2 t3 x6 k (x10.set (x11).toNat (((t2.getD (x6).toNat []).getD (x11).toNat 0).tmod 536870912)) (W .i64 (x11 + 1))) else none) else none) else none) else none) else none) else none) else (some x10))
def armillarylaw22_AssignDiagonal.l1 (a1 : Int) (t2 : List (List Int)) (t3 : Int) : Nat → (List (List Int)) → (List Int) → Int → Option (List (List Int) × List Int)
 | 0, _, _, _ => none
 | k + 1, x4, x5, x6 => (if x6 < (iMin (t2.length : Int) t3) then ((if 0 ≤ (iMin (t2.length : Int) t3) then (if (iMin (t2.length : Int) t3) ≤ 35184372088832 then ((armillarylaw22_AssignDiagonal.l2 t2 t3 x6 k (List.replicate (iMin (t2.length : Int) t3).toNat (0 : Int)) 0).bind (armillarylaw22_AssignDiagonal.k4 a1 t2 t3 x4 x5 x6)) else none) else none).bind (fun (x7, x8) => (armillarylaw22_AssignDiagonal.l1 a1 t2 t3 k x7 x8 (W .i64 (x6 + 1))))) else (some (x4, x5)))
def armillarylaw22_AssignDiagonal.f (k : Nat) (a0 : List (List Int)) (a1 : Int) : Option (Bool) := ((armillarylaw22_sanity.f k ).bind fun t1 => ((armillaryref22_Made.f k a0 12 12).bind fun t2 => ((armillaryref22_Columns.f t2).bind fun t3 => (if (iMin (t2.length : Int) t3) = 0 then (some t1) else ((armillarylaw22_AssignDiagonal.l1 a1 t2 t3 k ([] : List (List Int)) ([] : List Int) 0).bind (armillarylaw22_AssignDiagonal.k2 k t1))))))
def armillarylaw22_AssignDiagonal.Post (I : Imm) (w : World) (r : Bool) (v : Value) (w' : World) : Prop :=
 ∃ (J : Imm), v = .bool r ∧ Got w w' I J []
theorem armillarylaw22_AssignDiagonal.calls (k : Nat) (I0 : Imm) (a0 : List (List Int)) (Ap0 : Option Addr) (cp0 : Nat) (a1 : Int) (w : World) (hI : I0.at_ w) (hlp0 : a0.length ≤ cp0) (hrp0 : Rd (Ty.slice (Ty.int .i64)) I0 Ap0 a0) (r : Bool) (h : armillarylaw22_AssignDiagonal.f k a0 a1 = some r) :
  Calls Try.prog 9 [.slice Ap0 a0.length cp0, .int .u8 a1].toArray w fun e w' => ∃ v, e = .returned v ∧ armillarylaw22_AssignDiagonal.Post I0 w r v w' := by
 have H : ((armillarylaw22_sanity.f k ).bind fun t1 => ((armillaryref22_Made.f k a0 12 12).bind fun t2 => ((armillaryref22_Columns.f t2).bind fun t3 => (if (iMin (t2.length : Int) t3) = 0 then (some t1) else ((armillarylaw22_AssignDiagonal.l1 a1 t2 t3 k ([] : List (List Int)) ([] : List Int) 0).bind (armillarylaw22_AssignDiagonal.k2 k t1)))))) = some r := h
 clear h
 refine calls_body Try.func9 (by kernel_rfl) 99 (by kernel_rfl) (by kernel_rfl) ⟨w, fun _ => False, I0⟩ I0 [] [(0, .slice Ap0 a0.length cp0), (1, .int .u8 a1)] (by kernel_rfl) (Sat.start w _ I0 hI) ?_
 generalize w.heap.size = nx0
 show OK _ K9_0 _ _ _ _ _ _ _ _
 refine OK.seq K9_1 K9_3 (by kernel_rfl) ?_
 refine OK.region 0 O9_1 (by kernel_rfl) ?_
 refine RL.simK (K' := [(0, .slice Ap0 a0.length cp0), (1, .int .u8 a1)]) [] (RFacts.nil _ _ _) 1 [.no] (by kernel_rfl) (by kernel_rfl) ?_
 refine RL.nil (by kernel_rfl) ?_
 refine QN.then_ ?_
 refine OK.seq K9_4 K9_6 (by kernel_rfl) ?_
 refine OK.region 1 O9_4 (by kernel_rfl) ?_
 obtain ⟨t1, hA1, H⟩ := Option.bind_eq_some_iff.mp H
 refine RL.callP 10 [] (some 16) (fun w => armillarylaw22_sanity.Post I0 w t1) (by kernel_rfl) (by kernel_rfl) (fun w hs => armillarylaw22_sanity.calls k I0  w hs.im  t1 hA1) ?_
 rintro w v w' hs ⟨I1, rfl, hg⟩
 have hi1 := hg.le
 refine RL.resume (X' := []) rfl (hs.call hg) ?_
 clear hs hg
 generalize w'.heap.size = nx1
 clear w w'
 refine RL.simK (K' := [(5, .bool t1), (0, .slice Ap0 a0.length cp0), (1, .int .u8 a1)]) [] (RFacts.nil _ _ _) 1 [.no] (by kernel_rfl) (by kernel_rfl) ?_
 refine RL.nil (by kernel_rfl) ?_
 refine QN.then_ ?_
 refine OK.seq K9_7 K9_9 (by kernel_rfl) ?_
 refine OK.region 2 O9_7 (by kernel_rfl) ?_
 refine RL.simK (K' := [(17, .slice Ap0 a0.length cp0), (5, .bool t1), (1, .int .u8 a1)]) [] (RFacts.nil _ _ _) 1 [.no] (by kernel_rfl) (by kernel_rfl) ?_
 obtain ⟨t2, hA2, H⟩ := Option.bind_eq_some_iff.mp H
 refine RL.callP 13 [.slice Ap0 a0.length cp0, .int .i64 12, .int .i64 12] (some 18) (fun w => armillaryref22_Made.Post I1 w t2) (by kernel_rfl) (by kernel_rfl) (fun w hs => armillaryref22_Made.calls k I1 a0 Ap0 cp0 12 12 w hs.im hlp0 (Rd.ext hi1 hrp0) t2 hA2) ?_
 rintro w v w' hs ⟨I2, A1, c1, cs1, rfl, hg, hp1⟩
 have hi2 := hg.le
 refine RL.resume (X' := [orow 24 1 A1 t2.length c1 cs1]) rfl (hs.call hg) ?_
 clear hs hg
 generalize w'.heap.size = nx2
 clear w w'
 refine RL.simK (K' := [(6, .slice A1 t2.length c1), (5, .bool t1), (1, .int .u8 a1)]) [] (RFacts.nil _ _ _) 1 [.no] (by kernel_rfl) (by kernel_rfl) ?_
 refine RL.nil (by kernel_rfl) ?_
 refine QN.then_ ?_
 refine OK.seq K9_10 K9_12 (by kernel_rfl) ?_
 refine OK.region 3 O9_10 (by kernel_rfl) ?_
 refine RL.simK (K' := [(21, .slice A1 t2.length c1), (20, .int .i64 (t2.length : Int)), (6, .slice A1 t2.length c1), (5, .bool t1), (1, .int .u8 a1)]) [] (RFacts.nil _ _ _) 3 [.no, .no, .no] (by kernel_rfl) (by kernel_rfl) ?_
 obtain ⟨t3, hA3, H⟩ := Option.bind_eq_some_iff.mp H
 refine RL.callP 21 [.slice A1 t2.length c1] (some 22) (fun w v w' => ∃ I', Imm.le I2 I' ∧ armillaryref22_Columns.Post I' w t3 v w') (by kernel_rfl) (by kernel_rfl) (fun w hs => ?_) ?_
 ·skip
  obtain ⟨JL1, hj1, hn1, hw1, hs⟩ := Sat.freeze (e := 24) (sz := 1) (S := A1) (n := t2.length) (cap := c1) (m := 0) hs (by kernel_rfl) hp1 rfl
  exact (armillaryref22_Columns.calls JL1 t2 A1 c1 _ hs.im hn1 hw1 t3 hA3).mono (fun e w' ⟨v, hv, hp⟩ => ⟨v, hv, JL1, hj1, hp⟩)
 rintro w v w' hs ⟨I', hle, J, rfl, hg⟩
 refine RL.resume (X' := [orow 24 1 A1 t2.length c1 cs1]) rfl (hs.call (hg.back hle)) ?_
 clear hs hg hle I' J
 generalize w'.heap.size = nx3
 clear w w'
 refine RL.simK (K' := [(7, .int .i64 (iMin (t2.length : Int) t3)), (6, .slice A1 t2.length c1), (5, .bool t1), (1, .int .u8 a1)]) [] (RFacts.nil _ _ _) 2 [.no, .no] (by kernel_rfl) (by kernel_rfl) ?_
 refine RL.nil (by kernel_rfl) ?_
 refine QN.then_ ?_
 refine OK.seq K9_13 K9_22 (by kernel_rfl) ?_
 refine OK.seq K9_14 K9_16 (by kernel_rfl) ?_
 refine OK.region 4 O9_14 (by kernel_rfl) ?_
 refine RL.simK (K' := [(25, .bool ((iMin (t2.length : Int) t3) == 0)), (7, .int .i64 (iMin (t2.length : Int) t3)), (6, .slice A1 t2.length c1), (5, .bool t1), (1, .int .u8 a1)]) [] (RFacts.nil _ _ _) 2 [.no, .no] (by kernel_rfl) (by kernel_rfl) ?_
 refine RL.nil (by kernel_rfl) ?_
 refine QN.then_ ?_
 refine OK.cond (.tmp 25) K9_17 K9_21 ((iMin (t2.length : Int) t3) == 0) (by kernel_rfl) (by kernel_rfl) (by kernel_rfl) (fun hb => ?_) (fun hb => ?_)
 ·skip
  have hc := (beq_iff_eq.1 hb)
  rw [if_pos hc] at H
  clear hb
  refine OK.seq K9_18 K9_20 (by kernel_rfl) ?_
  refine OK.region 5 O9_18 (by kernel_rfl) ?_
  refine RL.simK (K' := [(4, .bool t1)]) [] (RFacts.nil _ _ _) 2 [.no, .no] (by kernel_rfl) (by kernel_rfl) ?_
  refine RL.nil (by kernel_rfl) ?_
  refine QN.then_ ?_
  refine OK.ret (by kernel_rfl) ?_
  refine QN.thenR ?_
  obtain rfl := Option.some.inj H
  refine QN.body rfl [] (RFacts.nil _ _ _) (.no) (.bool t1) (by kernel_rfl) (by kernel_rfl) (by kernel_rfl) ?_ _ (.inr rfl)
  exact fun w' hs' => ⟨_, rfl, I2, rfl, hs'.got _ (.cons _ .slnil)⟩
 ·skip
  have hc := (beq_eq_false_iff_ne.1 hb)
  rw [if_neg hc] at H
  clear hb
  refine OK.skip (by kernel_rfl) ?_
  refine QN.then_ ?_
  refine OK.seq K9_23 K9_25 (by kernel_rfl) ?_
  refine OK.region 6 O9_23 (by kernel_rfl) ?_
  refine RL.simP (K' := [(9, .slice (some ⟨nx3 + 1, 0, none⟩) 0 0), (8, .slice (some ⟨nx3, 0, none⟩) 0 0), (7, .int .i64 (iMin (t2.length : Int) t3)), (6, .slice A1 t2.length c1), (5, .bool t1), (1, .int .u8 a1)]) (nx' := nx3 + 2) (L' := [⟨nx3, [], 24⟩, ⟨nx3 + 1, [], 3⟩]) [] (RFacts.nil _ _ _) 4 [.no, .no, .no, .no] (by kernel_rfl) (by kernel_rfl) ?_
  refine RL.nil (by kernel_rfl) ?_
  refine QN.then_ ?_
  refine OK.seq K9_26 K9_75 (by kernel_rfl) ?_
  refine OK.seq K9_27 K9_29 (by kernel_rfl) ?_
  refine OK.region 7 O9_27 (by kernel_rfl) ?_
  refine RL.simK (K' := [(10, .int .i64 0), (9, .slice (some ⟨nx3 + 1, 0, none⟩) 0 0), (8, .slice (some ⟨nx3, 0, none⟩) 0 0), (7, .int .i64 (iMin (t2.length : Int) t3)), (6, .slice A1 t2.length c1), (5, .bool t1), (1, .int .u8 a1)]) [] (RFacts.nil _ _ _) 1 [.no] (by kernel_rfl) (by kernel_rfl) ?_
  refine RL.nil (by kernel_rfl) ?_
  refine QN.then_ ?_
  refine OK.join (fun K' I' _ L' X' => ∃ (x1 : List (List Int)) (x2 : List Int) (A2 : Option Addr) (c2 : Nat) (cs2 : List Value) (A3 : Option Addr) (c3 : Nat) (cs3 : List Value), K' = [(5, .bool t1), (8, .slice A2 x1.length c2), (9, .slice A3 x2.length c3)] ∧ L' = [] ∧ X' = [orow 24 1 A2 x1.length c2 cs2, orow 3 1 A3 x2.length c3 cs3] ∧ Imm.le I2 I' ∧ Reps (Ty.slice (Ty.int .i64)) I' x1 cs2 ∧ Reps (Ty.int .i64) I' x2 cs3 ∧ armillarylaw22_AssignDiagonal.k2 k t1 (x1, x2) = some r) ?_ ?_
  ·rintro _ I3 nx4 _ _ ⟨x1, x2, A2, c2, cs2, A3, c3, cs3, rfl, rfl, rfl, hi3, hp2, hp3, H⟩
   replace H : ((assign_Solve.f k x1).bind fun t4 => (((assign_Valid.f k x1).bind fun t5 => (if t5 = true then ((armillaryref22_Same.f k t4.1 x2).bind fun t6 => (if t6 = true then ((assign_VerifyDuals.f k x1 x2 t4.2).bind fun t7 => (if t7 = true then (some t1) else (some false))) else (some false))) else (some false))).bind (armillarylaw22_AssignDiagonal.k1))) = some r := H
   refine QN.then_ ?_
   refine OK.seq K9_76 K9_78 (by kernel_rfl) ?_
   refine OK.region 19 O9_76 (by kernel_rfl) ?_
   refine RL.simK (K' := [(79, .slice A2 x1.length c2), (5, .bool t1), (8, .slice A2 x1.length c2), (9, .slice A3 x2.length c3)]) [] (RFacts.nil _ _ _) 1 [.no] (by kernel_rfl) (by kernel_rfl) ?_
   refine RL.freeze (e := 24) (sz := 1) (S := A2) (n := x1.length) (cap := c2) 0 (by kernel_rfl) hp2 rfl (fun I4 hi4 hl1 hr1 => ?_)
   skip
   obtain ⟨t4, hA4, H⟩ := Option.bind_eq_some_iff.mp H
   refine RL.callP 14 [.slice A2 x1.length c2] (some 80) (fun w => assign_Solve.Post I4 w t4) (by kernel_rfl) (by kernel_rfl) (fun w hs => assign_Solve.calls k I4 x1 A2 c2 w hs.im hl1 hr1 t4 hA4) ?_
   rintro w v w' hs ⟨I5, A4, c4, cs4, A5, c5, cs5, A6, c6, cs6, rfl, hg, hp4, hp5, hp6⟩
   have hi5 := hg.le
   refine RL.resume (X' := [orow 3 1 A3 x2.length c3 cs3, orow 3 1 A4 t4.1.length c4 cs4, orow 2 1 A5 t4.2.f0.length c5 cs5, orow 2 1 A6 t4.2.f1.length c6 cs6]) rfl (hs.call hg) ?_
   clear hs hg
   generalize w'.heap.size = nx5
   clear w w'
   refine RL.freeze (e := 2) (sz := 1) (S := A5) (n := t4.2.f0.length) (cap := c5) 2 (by kernel_rfl) hp5 rfl (fun I6 hi6 hl2 hr2 => ?_)
   skip
   refine RL.freeze (e := 2) (sz := 1) (S := A6) (n := t4.2.f1.length) (cap := c6) 2 (by kernel_rfl) (Reps.ext hi6 hp6) rfl (fun I7 hi7 hl3 hr3 => ?_)
   skip
   refine RL.simP (K' := [(14, .slice A4 t4.1.length c4), (15, .pointer (some ⟨nx5, 0, none⟩)), (5, .bool t1), (8, .slice A2 x1.length c2), (9, .slice A3 x2.length c3)]) (nx' := nx5 + 1) (L' := [⟨nx5, [.slice A5 t4.2.f0.length c5, .slice A6 t4.2.f1.length c6], 26⟩]) [] (RFacts.nil _ _ _) 6 [.no, .no, .no, .no, .no, .l 0] (by kernel_rfl) (by kernel_rfl) ?_
   refine RL.nil (by kernel_rfl) ?_
   refine QN.then_ ?_
   refine OK.seq K9_79 K9_81 (by kernel_rfl) ?_
   refine OK.join (fun K' I' _ L' X' => ∃ (x3 : Bool), K' = [(4, .bool x3)] ∧ L' = [⟨nx5, [.slice A5 t4.2.f0.length c5, .slice A6 t4.2.f1.length c6], 26⟩] ∧ X' = [] ∧ Imm.le I7 I' ∧ armillarylaw22_AssignDiagonal.k1 x3 = some r) ?_ ?_
   ·rintro _ I8 nx6 _ _ ⟨x3, rfl, rfl, rfl, hi8, H⟩
    replace H : (some x3) = some r := H
    refine QN.then_ ?_
    refine OK.ret (by kernel_rfl) ?_
    obtain rfl := Option.some.inj H
    refine QN.body rfl [] (RFacts.nil _ _ _) (.no) (.bool x3) (by kernel_rfl) (by kernel_rfl) (by kernel_rfl) ?_ _ (.inr rfl)
    exact fun w' hs' => ⟨_, rfl, I8, rfl, hs'.got _ .slnil⟩
   ·intro Q_1 hJ2 hQ2
    obtain ⟨y2, H, HK2⟩ := Option.bind_eq_some_iff.mp H
    refine OK.region 20 O9_79 (by kernel_rfl) ?_
    refine RL.simK (K' := [(83, .slice A2 x1.length c2), (14, .slice A4 t4.1.length c4), (15, .pointer (some ⟨nx5, 0, none⟩)), (5, .bool t1), (8, .slice A2 x1.length c2), (9, .slice A3 x2.length c3)]) [] (RFacts.nil _ _ _) 1 [.no] (by kernel_rfl) (by kernel_rfl) ?_
    obtain ⟨t5, hA5, H⟩ := Option.bind_eq_some_iff.mp H
    refine RL.callP 11 [.slice A2 x1.length c2] (some 84) (fun w => assign_Valid.Post I7 w t5) (by kernel_rfl) (by kernel_rfl) (fun w hs => assign_Valid.calls k I7 x1 A2 c2 w hs.im hl1 (Rd.ext (Imm.le_trans (Imm.le_trans hi5 hi6) hi7) hr1) t5 hA5) ?_
    rintro w v w' hs ⟨I9, rfl, hg⟩
    have hi9 := hg.le
    refine RL.resume (X' := [orow 3 1 A3 x2.length c3 cs3, orow 3 1 A4 t4.1.length c4 cs4]) rfl (hs.call hg) ?_
    clear hs hg
    generalize w'.heap.size = nx7
    clear w w'
    refine RL.simK (K' := [(85, .bool t5), (14, .slice A4 t4.1.length c4), (15, .pointer (some ⟨nx5, 0, none⟩)), (5, .bool t1), (8, .slice A2 x1.length c2), (9, .slice A3 x2.length c3)]) [] (RFacts.nil _ _ _) 1 [.no] (by kernel_rfl) (by kernel_rfl) ?_
    refine RL.cases t5 (fun hb => ?_) (fun hb => ?_)
    ·have hc := hb
     rw [hb]
     rw [if_pos hc] at H; clear hb
     refine RL.simK (K' := [(87, .slice A3 x2.length c3), (86, .slice A4 t4.1.length c4), (85, .bool true), (15, .pointer (some ⟨nx5, 0, none⟩)), (5, .bool t1), (8, .slice A2 x1.length c2), (9, .slice A3 x2.length c3)]) [] (RFacts.nil _ _ _) 2 [.no, .no] (by kernel_rfl) (by kernel_rfl) ?_
     obtain ⟨t6, hA6, H⟩ := Option.bind_eq_some_iff.mp H
     refine RL.callP 17 [.slice A4 t4.1.length c4, .slice A3 x2.length c3] (some 88) (fun w v w' => ∃ I', Imm.le I9 I' ∧ armillaryref22_Same.Post I' w t6 v w') (by kernel_rfl) (by kernel_rfl) (fun w hs => ?_) ?_
     ·skip
      obtain ⟨JL2, hj2, hn2, hw2, hs⟩ := Sat.freeze (e := 3) (sz := 1) (S := A4) (n := t4.1.length) (cap := c4) (m := 1) hs (by kernel_rfl) (Reps.ext (Imm.le_trans (Imm.le_trans hi6 hi7) hi9) hp4) rfl
      obtain ⟨JL3, hj3, hn3, hw3, hs⟩ := Sat.freeze (e := 3) (sz := 1) (S := A3) (n := x2.length) (cap := c3) (m := 0) hs (by kernel_rfl) (Reps.ext hj2 (Reps.ext (Imm.le_trans (Imm.le_trans (Imm.le_trans (Imm.le_trans hi4 hi5) hi6) hi7) hi9) hp3)) rfl
      exact (armillaryref22_Same.calls k JL3 t4.1 A4 c4 x2 A3 c3 _ hs.im hn2 (Rd.ext hj3 hw2) hn3 hw3 t6 hA6).mono (fun e w' ⟨v, hv, hp⟩ => ⟨v, hv, JL3, (Imm.le_trans hj2 hj3), hp⟩)
     rintro w v w' hs ⟨I', hle, J, rfl, hg⟩
     refine RL.resume (X' := [orow 3 1 A3 x2.length c3 cs3, orow 3 1 A4 t4.1.length c4 cs4]) rfl (hs.call (hg.back hle)) ?_
     clear hs hg hle I' J
     generalize w'.heap.size = nx8
     clear w w'
     refine RL.simK (K' := [(90, .bool t6), (15, .pointer (some ⟨nx5, 0, none⟩)), (5, .bool t1), (8, .slice A2 x1.length c2), (9, .slice A3 x2.length c3)]) [] (RFacts.nil _ _ _) 2 [.no, .no] (by kernel_rfl) (by kernel_rfl) ?_
     refine RL.cases t6 (fun hb => ?_) (fun hb => ?_)
     ·have hc := hb
      rw [hb]
      rw [if_pos hc] at H; clear hb
      refine RL.simK (K' := [(93, .agg #[.slice A5 t4.2.f0.length c5, .slice A6 t4.2.f1.length c6]), (92, .slice A3 x2.length c3), (91, .slice A2 x1.length c2), (90, .bool true), (5, .bool t1)]) [] (RFacts.nil _ _ _) 3 [.no, .no, .l 0] (by kernel_rfl) (by kernel_rfl) ?_
      obtain ⟨t7, hA7, H⟩ := Option.bind_eq_some_iff.mp H
      refine RL.callP 20 [.slice A2 x1.length c2, .slice A3 x2.length c3, .agg #[.slice A5 t4.2.f0.length c5, .slice A6 t4.2.f1.length c6]] (some 94) (fun w v w' => ∃ I', Imm.le I9 I' ∧ assign_VerifyDuals.Post I' w t7 v w') (by kernel_rfl) (by kernel_rfl) (fun w hs => ?_) ?_
      ·skip
       obtain ⟨JL4, hj4, hn4, hw4, hs⟩ := Sat.freeze (e := 3) (sz := 1) (S := A3) (n := x2.length) (cap := c3) (m := 0) hs (by kernel_rfl) (Reps.ext (Imm.le_trans (Imm.le_trans (Imm.le_trans (Imm.le_trans hi4 hi5) hi6) hi7) hi9) hp3) rfl
       exact (assign_VerifyDuals.calls k JL4 x1 A2 c2 x2 A3 c3 t4.2 A5 c5 A6 c6 _ hs.im hl1 (Rd.ext hj4 (Rd.ext (Imm.le_trans (Imm.le_trans (Imm.le_trans hi5 hi6) hi7) hi9) hr1)) hn4 hw4 hl2 (Rd.ext hj4 (Rd.ext (Imm.le_trans hi7 hi9) hr2)) hl3 (Rd.ext hj4 (Rd.ext hi9 hr3)) t7 hA7).mono (fun e w' ⟨v, hv, hp⟩ => ⟨v, hv, JL4, hj4, hp⟩)
      rintro w v w' hs ⟨I', hle, J, rfl, hg⟩
      refine RL.resume (X' := [orow 3 1 A3 x2.length c3 cs3, orow 3 1 A4 t4.1.length c4 cs4]) rfl (hs.call (hg.back hle)) ?_
      clear hs hg hle I' J
      generalize w'.heap.size = nx9
      clear w w'
      refine RL.simK (K' := [(96, .bool t7), (5, .bool t1)]) [] (RFacts.nil _ _ _) 2 [.no, .no] (by kernel_rfl) (by kernel_rfl) ?_
      refine RL.cases t7 (fun hb => ?_) (fun hb => ?_)
      ·have hc := hb
       rw [hb]
       rw [if_pos hc] at H; clear hb
       refine RL.simK (K' := [(4, .bool t1)]) [] (RFacts.nil _ _ _) 3 [.no, .no, .no] (by kernel_rfl) (by kernel_rfl) ?_
       refine RL.nil (by kernel_rfl) ?_
       obtain rfl := Option.some.inj H
       refine QN.sel (K' := [(4, .bool t1)]) (L' := [⟨nx5, [.slice A5 t4.2.f0.length c5, .slice A6 t4.2.f1.length c6], 26⟩]) [] (by kernel_rfl) (by kernel_rfl) (.cons_cons _ .slnil) ?_
       refine QN.norm (X' := []) rfl rfl rfl (by kernel_rfl) ?_
       exact hJ2 _ _ _ _ _ ⟨t1, rfl, rfl, rfl, hi9, HK2⟩
      ·have hc := (Bool.eq_false_iff.1 hb)
       rw [hb]
       rw [if_neg hc] at H; clear hb
       refine RL.simK (K' := [(4, .bool false)]) [] (RFacts.nil _ _ _) 3 [.no, .no, .no] (by kernel_rfl) (by kernel_rfl) ?_
       refine RL.nil (by kernel_rfl) ?_
       obtain rfl := Option.some.inj H
       refine QN.sel (K' := [(4, .bool false)]) (L' := [⟨nx5, [.slice A5 t4.2.f0.length c5, .slice A6 t4.2.f1.length c6], 26⟩]) [] (by kernel_rfl) (by kernel_rfl) (.cons_cons _ .slnil) ?_
       refine QN.norm (X' := []) rfl rfl rfl (by kernel_rfl) ?_
       exact hJ2 _ _ _ _ _ ⟨false, rfl, rfl, rfl, hi9, HK2⟩
     ·have hc := (Bool.eq_false_iff.1 hb)
      rw [hb]
      rw [if_neg hc] at H; clear hb
      refine RL.simK (K' := [(4, .bool false)]) [] (RFacts.nil _ _ _) 9 [.no, .no, .no, .no, .no, .no, .no, .no, .no] (by kernel_rfl) (by kernel_rfl) ?_
      refine RL.nil (by kernel_rfl) ?_
      obtain rfl := Option.some.inj H
      refine QN.sel (K' := [(4, .bool false)]) (L' := [⟨nx5, [.slice A5 t4.2.f0.length c5, .slice A6 t4.2.f1.length c6], 26⟩]) [] (by kernel_rfl) (by kernel_rfl) (.cons_cons _ .slnil) ?_
      refine QN.norm (X' := []) rfl rfl rfl (by kernel_rfl) ?_
      exact hJ2 _ _ _ _ _ ⟨false, rfl, rfl, rfl, hi9, HK2⟩
    ·have hc := (Bool.eq_false_iff.1 hb)
     rw [hb]
     rw [if_neg hc] at H; clear hb
     refine RL.simK (K' := [(4, .bool false)]) [] (RFacts.nil _ _ _) 14 [.no, .no, .no, .no, .no, .no, .no, .no, .no, .no, .no, .no, .no, .no] (by kernel_rfl) (by kernel_rfl) ?_
     refine RL.nil (by kernel_rfl) ?_
     obtain rfl := Option.some.inj H
     refine QN.sel (K' := [(4, .bool false)]) (L' := [⟨nx5, [.slice A5 t4.2.f0.length c5, .slice A6 t4.2.f1.length c6], 26⟩]) [] (by kernel_rfl) (by kernel_rfl) (.cons_cons _ .slnil) ?_
     refine QN.norm (X' := []) rfl rfl rfl (by kernel_rfl) ?_
     exact hJ2 _ _ _ _ _ ⟨false, rfl, rfl, rfl, hi9, HK2⟩
  ·intro Q_2 hJ1 hQ1
   obtain ⟨y1, H, HK1⟩ := Option.bind_eq_some_iff.mp H
   refine OK.block 0 K9_30 (by kernel_rfl) ?_
   refine OK.toRow (b := ⟨nx3, [], 24⟩) 0 0 1 (by kernel_rfl) (by kernel_rfl) (by decide) ?_
   have hp18 : Reps (Ty.slice (Ty.int .i64)) I2 ([] : List (List Int)) [] := rfl
   refine OK.norm (L' := [⟨nx3 + 1, [], 3⟩]) (X' := [orow 24 1 A1 t2.length c1 cs1, orow 24 1 (some ⟨nx3, 0, none⟩) (([] : List (List Int)).length) 0 []]) rfl rfl (by kernel_rfl) (by kernel_rfl) ?_
   refine OK.toRow (b := ⟨nx3 + 1, [], 3⟩) 0 0 1 (by kernel_rfl) (by kernel_rfl) (by decide) ?_
   have hp19 : Reps (Ty.int .i64) I2 ([] : List Int) [] := rfl
   refine OK.norm (L' := []) (X' := [orow 24 1 A1 t2.length c1 cs1, orow 24 1 (some ⟨nx3, 0, none⟩) (([] : List (List Int)).length) 0 [], orow 3 1 (some ⟨nx3 + 1, 0, none⟩) (([] : List Int).length) 0 []]) rfl rfl (by kernel_rfl) (by kernel_rfl) ?_
   refine OK.sub (K' := [(1, .int .u8 a1), (5, .bool t1), (6, .slice A1 t2.length c1), (7, .int .i64 (iMin (t2.length : Int) t3)), (8, .slice (some ⟨nx3, 0, none⟩) 0 0), (9, .slice (some ⟨nx3 + 1, 0, none⟩) 0 0), (10, .int .i64 0)]) (L' := []) (by kernel_rfl) .slnil (.refl _) ?_
   refine OK.loopInv K9_31 (by kernel_rfl) (fun n_ K' I' _ L' X' => ∃ (x4 : List (List Int)) (x5 : List Int) (x6 : Int) (A7 : Option Addr) (c7 : Nat) (cs7 : List Value) (A8 : Option Addr) (c8 : Nat) (cs8 : List Value), K' = [(1, .int .u8 a1), (5, .bool t1), (6, .slice A1 t2.length c1), (7, .int .i64 (iMin (t2.length : Int) t3)), (8, .slice A7 x4.length c7), (9, .slice A8 x5.length c8), (10, .int .i64 x6)] ∧ L' = [] ∧ X' = [orow 24 1 A1 t2.length c1 cs1, orow 24 1 A7 x4.length c7 cs7, orow 3 1 A8 x5.length c8 cs8] ∧ Imm.le I2 I' ∧ Reps (Ty.slice (Ty.int .i64)) I' x4 cs7 ∧ Reps (Ty.int .i64) I' x5 cs8 ∧ armillarylaw22_AssignDiagonal.l1 a1 t2 t3 n_ x4 x5 x6 = some y1) k ⟨([] : List (List Int)), ([] : List Int), 0, (some ⟨nx3, 0, none⟩), 0, [], (some ⟨nx3 + 1, 0, none⟩), 0, [], rfl, rfl, rfl, (Imm.le_refl _), hp18, hp19, H⟩ ?_ ?_
   ·rintro _ _ _ _ _ ⟨x4, x5, x6, A7, c7, cs7, A8, c8, cs8, rfl, rfl, rfl, _, hp7, hp8, H⟩
    cases H
   ·rintro kq1 _ I10 nx10 _ _ ⟨x4, x5, x6, A7, c7, cs7, A8, c8, cs8, rfl, rfl, rfl, hi10, hp7, hp8, H⟩ Q_l1 hJ3 hQ3
    replace H : (if x6 < (iMin (t2.length : Int) t3) then ((if 0 ≤ (iMin (t2.length : Int) t3) then (if (iMin (t2.length : Int) t3) ≤ 35184372088832 then ((armillarylaw22_AssignDiagonal.l2 t2 t3 x6 kq1 (List.replicate (iMin (t2.length : Int) t3).toNat (0 : Int)) 0).bind (armillarylaw22_AssignDiagonal.k4 a1 t2 t3 x4 x5 x6)) else none) else none).bind (fun (x7, x8) => (armillarylaw22_AssignDiagonal.l1 a1 t2 t3 kq1 x7 x8 (W .i64 (x6 + 1))))) else (some (x4, x5))) = some y1 := H
    refine OK.seq K9_32 K9_38 (by kernel_rfl) ?_
    refine OK.seq K9_33 K9_35 (by kernel_rfl) ?_
    refine OK.region 8 O9_33 (by kernel_rfl) ?_
    refine RL.simK (K' := [(31, .bool (decide (x6 < (iMin (t2.length : Int) t3)))), (1, .int .u8 a1), (5, .bool t1), (6, .slice A1 t2.length c1), (7, .int .i64 (iMin (t2.length : Int) t3)), (8, .slice A7 x4.length c7), (9, .slice A8 x5.length c8), (10, .int .i64 x6)]) [] (RFacts.nil _ _ _) 3 [.no, .no, .no] (by kernel_rfl) (by kernel_rfl) ?_
    refine RL.nil (by kernel_rfl) ?_
    refine QN.then_ ?_
    refine OK.cond (.tmp 31) K9_36 K9_37 (decide (x6 < (iMin (t2.length : Int) t3))) (by kernel_rfl) (by kernel_rfl) (by kernel_rfl) (fun hb => ?_) (fun hb => ?_)
    ·skip
     have hc := (of_decide_eq_true hb)
     rw [if_pos hc] at H
     clear hb
     refine OK.skip (by kernel_rfl) ?_
     refine QN.then_ ?_
     refine OK.seq K9_39 K9_73 (by kernel_rfl) ?_
     refine OK.join (fun K' I' _ L' X' => ∃ (x7 : List (List Int)) (x8 : List Int) (A9 : Option Addr) (c9 : Nat) (cs9 : List Value) (A10 : Option Addr) (c10 : Nat) (cs10 : List Value), K' = [(1, .int .u8 a1), (5, .bool t1), (6, .slice A1 t2.length c1), (7, .int .i64 (iMin (t2.length : Int) t3)), (8, .slice A9 x7.length c9), (9, .slice A10 x8.length c10), (10, .int .i64 x6)] ∧ L' = [] ∧ X' = [orow 24 1 A1 t2.length c1 cs1, orow 24 1 A9 x7.length c9 cs9, orow 3 1 A10 x8.length c10 cs10] ∧ Imm.le I10 I' ∧ Reps (Ty.slice (Ty.int .i64)) I' x7 cs9 ∧ Reps (Ty.int .i64) I' x8 cs10 ∧ (armillarylaw22_AssignDiagonal.l1 a1 t2 t3 kq1 x7 x8 (W .i64 (x6 + 1))) = some y1) ?_ ?_
     ·rintro _ I11 nx11 _ _ ⟨x7, x8, A9, c9, cs9, A10, c10, cs10, rfl, rfl, rfl, hi11, hp9, hp10, H⟩
      replace H : (armillarylaw22_AssignDiagonal.l1 a1 t2 t3 kq1 x7 x8 (W .i64 (x6 + 1))) = some y1 := H
      refine QN.then_ ?_
      refine OK.region 9 O9_73 (by kernel_rfl) ?_
      refine RL.simK (K' := [(10, .int .i64 (W .i64 (x6 + 1))), (1, .int .u8 a1), (5, .bool t1), (6, .slice A1 t2.length c1), (7, .int .i64 (iMin (t2.length : Int) t3)), (8, .slice A9 x7.length c9), (9, .slice A10 x8.length c10)]) [] (RFacts.nil _ _ _) 3 [.no, .no, .no] (by kernel_rfl) (by kernel_rfl) ?_
      refine RL.nil (by kernel_rfl) ?_
      refine QN.sub (K' := [(1, .int .u8 a1), (5, .bool t1), (6, .slice A1 t2.length c1), (7, .int .i64 (iMin (t2.length : Int) t3)), (8, .slice A9 x7.length c9), (9, .slice A10 x8.length c10), (10, .int .i64 (W .i64 (x6 + 1)))]) (L' := []) (by kernel_rfl) .slnil (.refl _) ?_
      exact hJ3 _ _ _ _ _ ⟨x7, x8, W .i64 (x6 + 1), A9, c9, cs9, A10, c10, cs10, rfl, rfl, rfl, (Imm.le_trans hi10 hi11), hp9, hp10, H⟩
     ·intro Q_3 hJ4 hQ4
      obtain ⟨y3, H, HK3⟩ := Option.bind_eq_some_iff.mp H
      refine OK.block 1 K9_40 (by kernel_rfl) ?_
      refine OK.seq K9_41 K9_43 (by kernel_rfl) ?_
      refine OK.region 10 O9_41 (by kernel_rfl) ?_
      refine RL.simK (K' := [(34, .int .i64 (iMin (t2.length : Int) t3)), (1, .int .u8 a1), (5, .bool t1), (6, .slice A1 t2.length c1), (7, .int .i64 (iMin (t2.length : Int) t3)), (8, .slice A7 x4.length c7), (9, .slice A8 x5.length c8), (10, .int .i64 x6)]) [] (RFacts.nil _ _ _) 1 [.no] (by kernel_rfl) (by kernel_rfl) ?_
      by_cases hm1 : 0 ≤ (iMin (t2.length : Int) t3)
      case neg => rw [if_neg hm1] at H; cases H
      rw [if_pos hm1] at H
      by_cases hm2 : (iMin (t2.length : Int) t3) ≤ 35184372088832
      case neg => rw [if_neg hm2] at H; cases H
      rw [if_pos hm2] at H
      refine RL.makeL (T := 24) (e := 2) (iMin (t2.length : Int) t3) .i64 .i64 (some 35) (.int .i64 0) (0) (Ty.int .i64) 8 (by kernel_rfl) (by kernel_rfl) (by kernel_rfl) (by kernel_rfl) (by kernel_rfl) rfl hm1 (by omega) (by omega) (fun nx12 hp11 => ?_)
      refine RL.norm (K' := [(35, .slice (some ⟨nx10, 0, none⟩) ((List.replicate (iMin (t2.length : Int) t3).toNat (0 : Int)).length) ((List.replicate (iMin (t2.length : Int) t3).toNat (0 : Int)).length)), (34, .int .i64 (iMin (t2.length : Int) t3)), (1, .int .u8 a1), (5, .bool t1), (6, .slice A1 t2.length c1), (7, .int .i64 (iMin (t2.length : Int) t3)), (8, .slice A7 x4.length c7), (9, .slice A8 x5.length c8), (10, .int .i64 x6)]) (X' := [orow 24 1 A1 t2.length c1 cs1, orow 24 1 A7 x4.length c7 cs7, orow 3 1 A8 x5.length c8 cs8, orow 2 1 (some ⟨nx10, 0, none⟩) ((List.replicate (iMin (t2.length : Int) t3).toNat (0 : Int)).length) ((List.replicate (iMin (t2.length : Int) t3).toNat (0 : Int)).length) (List.replicate (iMin (t2.length : Int) t3).toNat (.int .i64 0))]) (by kernel_rfl) rfl rfl (by kernel_rfl) ?_
      refine RL.simK (K' := [(11, .slice (some ⟨nx10, 0, none⟩) ((List.replicate (iMin (t2.length : Int) t3).toNat (0 : Int)).length) ((List.replicate (iMin (t2.length : Int) t3).toNat (0 : Int)).length)), (1, .int .u8 a1), (5, .bool t1), (6, .slice A1 t2.length c1), (7, .int .i64 (iMin (t2.length : Int) t3)), (8, .slice A7 x4.length c7), (9, .slice A8 x5.length c8), (10, .int .i64 x6)]) [] (RFacts.nil _ _ _) 1 [.no] (by kernel_rfl) (by kernel_rfl) ?_
      refine RL.nil (by kernel_rfl) ?_
      refine QN.then_ ?_
      refine OK.seq K9_44 K9_62 (by kernel_rfl) ?_
      refine OK.seq K9_45 K9_47 (by kernel_rfl) ?_
      refine OK.region 11 O9_45 (by kernel_rfl) ?_
      refine RL.simK (K' := [(12, .int .i64 0), (11, .slice (some ⟨nx10, 0, none⟩) ((List.replicate (iMin (t2.length : Int) t3).toNat (0 : Int)).length) ((List.replicate (iMin (t2.length : Int) t3).toNat (0 : Int)).length)), (1, .int .u8 a1), (5, .bool t1), (6, .slice A1 t2.length c1), (7, .int .i64 (iMin (t2.length : Int) t3)), (8, .slice A7 x4.length c7), (9, .slice A8 x5.length c8), (10, .int .i64 x6)]) [] (RFacts.nil _ _ _) 1 [.no] (by kernel_rfl) (by kernel_rfl) ?_
      refine RL.nil (by kernel_rfl) ?_
      refine QN.then_ ?_
      refine OK.join (fun K' I' _ L' X' => ∃ (x9 : List Int) (A11 : Option Addr) (c11 : Nat) (cs11 : List Value), K' = [(1, .int .u8 a1), (5, .bool t1), (6, .slice A1 t2.length c1), (7, .int .i64 (iMin (t2.length : Int) t3)), (8, .slice A7 x4.length c7), (9, .slice A8 x5.length c8), (10, .int .i64 x6), (11, .slice A11 x9.length c11)] ∧ L' = [] ∧ X' = [orow 24 1 A1 t2.length c1 cs1, orow 24 1 A7 x4.length c7 cs7, orow 3 1 A8 x5.length c8 cs8, orow 2 1 A11 x9.length c11 cs11] ∧ Imm.le I10 I' ∧ Reps (Ty.int .i64) I' x9 cs11 ∧ armillarylaw22_AssignDiagonal.k4 a1 t2 t3 x4 x5 x6 x9 = some y3) ?_ ?_
      ·rintro _ I12 nx13 _ _ ⟨x9, A11, c11, cs11, rfl, rfl, rfl, hi12, hp12, H⟩
       replace H : (if (iMin (t2.length : Int) t3) = 0 then none else (if 0 ≤ x6 then (if x6 < (t2.length : Int) then (if 0 ≤ ((W .i64 (x6 + (W .i64 (a1)))).tmod (iMin (t2.length : Int) t3)) then (if ((W .i64 (x6 + (W .i64 (a1)))).tmod (iMin (t2.length : Int) t3)) < ((t2.getD (x6).toNat []).length : Int) then (if 0 ≤ ((W .i64 (x6 + (W .i64 (a1)))).tmod (iMin (t2.length : Int) t3)) then (if ((W .i64 (x6 + (W .i64 (a1)))).tmod (iMin (t2.length : Int) t3)) < (x9.length : Int) then (if (x4.length + [x9.set ((W .i64 (x6 + (W .i64 (a1)))).tmod (iMin (t2.length : Int) t3)).toNat (W .i64 (536870912 + (((t2.getD (x6).toNat []).getD ((W .i64 (x6 + (W .i64 (a1)))).tmod (iMin (t2.length : Int) t3)).toNat 0).tmod 536870912)))].length) * 24 ≤ 140737488355328 then (if (x5.length + [(W .i64 (x6 + (W .i64 (a1)))).tmod (iMin (t2.length : Int) t3)].length) * 8 ≤ 140737488355328 then (some ((x4 ++ [x9.set ((W .i64 (x6 + (W .i64 (a1)))).tmod (iMin (t2.length : Int) t3)).toNat (W .i64 (536870912 + (((t2.getD (x6).toNat []).getD ((W .i64 (x6 + (W .i64 (a1)))).tmod (iMin (t2.length : Int) t3)).toNat 0).tmod 536870912)))]), (x5 ++ [(W .i64 (x6 + (W .i64 (a1)))).tmod (iMin (t2.length : Int) t3)]))) else none) else none) else none) else none) else none) else none) else none) else none)) = some y3 := H
       refine QN.then_ ?_
       refine OK.seq K9_63 K9_65 (by kernel_rfl) ?_
       refine OK.region 15 O9_63 (by kernel_rfl) ?_
       refine RL.simK (K' := [(56, .int .i64 (iMin (t2.length : Int) t3)), (55, .int .i64 (W .i64 (x6 + (W .i64 (a1))))), (1, .int .u8 a1), (5, .bool t1), (6, .slice A1 t2.length c1), (7, .int .i64 (iMin (t2.length : Int) t3)), (8, .slice A7 x4.length c7), (9, .slice A8 x5.length c8), (10, .int .i64 x6), (11, .slice A11 x9.length c11)]) [] (RFacts.nil _ _ _) 5 [.no, .no, .no, .no, .no] (by kernel_rfl) (by kernel_rfl) ?_
       by_cases hc : (iMin (t2.length : Int) t3) = 0
       ·rw [if_pos hc] at H; cases H
       rw [if_neg hc] at H
       refine RL.rem .i64 (W .i64 (x6 + (W .i64 (a1)))) (iMin (t2.length : Int) t3) (some 57) (by kernel_rfl) (by kernel_rfl) hc (K' := [(57, .int .i64 ((W .i64 (x6 + (W .i64 (a1)))).tmod (iMin (t2.length : Int) t3))), (56, .int .i64 (iMin (t2.length : Int) t3)), (55, .int .i64 (W .i64 (x6 + (W .i64 (a1))))), (1, .int .u8 a1), (5, .bool t1), (6, .slice A1 t2.length c1), (7, .int .i64 (iMin (t2.length : Int) t3)), (8, .slice A7 x4.length c7), (9, .slice A8 x5.length c8), (10, .int .i64 x6), (11, .slice A11 x9.length c11)]) (by kernel_rfl) ?_
       refine RL.simK (K' := [(13, .int .i64 ((W .i64 (x6 + (W .i64 (a1)))).tmod (iMin (t2.length : Int) t3))), (1, .int .u8 a1), (5, .bool t1), (6, .slice A1 t2.length c1), (7, .int .i64 (iMin (t2.length : Int) t3)), (8, .slice A7 x4.length c7), (9, .slice A8 x5.length c8), (10, .int .i64 x6), (11, .slice A11 x9.length c11)]) [] (RFacts.nil _ _ _) 1 [.no] (by kernel_rfl) (by kernel_rfl) ?_
       refine RL.nil (by kernel_rfl) ?_
       refine QN.then_ ?_
       refine OK.seq K9_66 K9_68 (by kernel_rfl) ?_
       refine OK.region 16 O9_66 (by kernel_rfl) ?_
       refine RL.simK (K' := [(61, .int .i64 x6), (60, .slice A1 t2.length c1), (59, .int .i64 ((W .i64 (x6 + (W .i64 (a1)))).tmod (iMin (t2.length : Int) t3))), (58, .slice A11 x9.length c11), (13, .int .i64 ((W .i64 (x6 + (W .i64 (a1)))).tmod (iMin (t2.length : Int) t3))), (1, .int .u8 a1), (5, .bool t1), (6, .slice A1 t2.length c1), (7, .int .i64 (iMin (t2.length : Int) t3)), (8, .slice A7 x4.length c7), (9, .slice A8 x5.length c8), (10, .int .i64 x6), (11, .slice A11 x9.length c11)]) [] (RFacts.nil _ _ _) 4 [.no, .no, .no, .no] (by kernel_rfl) (by kernel_rfl) ?_
       by_cases hib0 : 0 ≤ x6
       case neg => rw [if_neg hib0] at H; cases H
       rw [if_pos hib0] at H
       by_cases hib1 : x6 < (t2.length : Int)
       case neg => rw [if_neg hib1] at H; cases H
       rw [if_pos hib1] at H
       have hx01_ := hib0; have hx11_ := hib1
       refine RL.ownAddr (e := 24) (sz := 1) (S := A1) (n := t2.length) (cap := c1) (cs := cs1) 0 (by kernel_rfl) (by omega) (fun g1_ hA1_ => ?_)
       obtain ⟨A1_, c1_, hl1_, hr1_, hc1_⟩ := Ty.slice_own (Reps.ext (Imm.le_trans hi10 hi12) hp1) x6 hib0 hib1
       refine RL.idx 1 .i64 x6 hA1_ t2.length c1 (some 62) (by kernel_rfl) (by kernel_rfl) (T := 22) (e := 24) (by kernel_rfl) (by kernel_rfl) hib0 hib1 (K' := [(62, .pointer (some ⟨g1_, 0 + (x6).toNat * 1, none⟩)), (61, .int .i64 x6), (60, .slice A1 t2.length c1), (59, .int .i64 ((W .i64 (x6 + (W .i64 (a1)))).tmod (iMin (t2.length : Int) t3))), (58, .slice A11 x9.length c11), (13, .int .i64 ((W .i64 (x6 + (W .i64 (a1)))).tmod (iMin (t2.length : Int) t3))), (1, .int .u8 a1), (5, .bool t1), (6, .slice A1 t2.length c1), (7, .int .i64 (iMin (t2.length : Int) t3)), (8, .slice A7 x4.length c7), (9, .slice A8 x5.length c8), (10, .int .i64 x6), (11, .slice A11 x9.length c11)]) (by kernel_rfl) ?_
       refine RL.simK (K' := [(64, .int .i64 ((W .i64 (x6 + (W .i64 (a1)))).tmod (iMin (t2.length : Int) t3))), (63, .slice A1_ ((t2.getD (x6).toNat []).length) c1_), (59, .int .i64 ((W .i64 (x6 + (W .i64 (a1)))).tmod (iMin (t2.length : Int) t3))), (58, .slice A11 x9.length c11), (13, .int .i64 ((W .i64 (x6 + (W .i64 (a1)))).tmod (iMin (t2.length : Int) t3))), (1, .int .u8 a1), (5, .bool t1), (6, .slice A1 t2.length c1), (7, .int .i64 (iMin (t2.length : Int) t3)), (8, .slice A7 x4.length c7), (9, .slice A8 x5.length c8), (10, .int .i64 x6), (11, .slice A11 x9.length c11)]) [(⟨g1_, 0 + (x6).toNat * 1, none⟩, .slice A1_ ((t2.getD (x6).toNat []).length) c1_)] (RFacts.ownQ (e := 24) (sz := 1) (S := A1) (n := t2.length) (cap := c1) (cs := cs1) 0 (by kernel_rfl) hA1_ (0 + (x6).toNat * 1) ((x6).toNat * 1 + 0) (by omega) (hc1_ 0 _ rfl) (RFacts.nil _ _ _)) 2 [.r 0, .no] (by kernel_rfl) (by kernel_rfl) ?_
       by_cases hib0 : 0 ≤ ((W .i64 (x6 + (W .i64 (a1)))).tmod (iMin (t2.length : Int) t3))
       case neg => rw [if_neg hib0] at H; cases H
       rw [if_pos hib0] at H
       by_cases hib1 : ((W .i64 (x6 + (W .i64 (a1)))).tmod (iMin (t2.length : Int) t3)) < ((t2.getD (x6).toNat []).length : Int)
       case neg => rw [if_neg hib1] at H; cases H
       rw [if_pos hib1] at H
       obtain ⟨g2_, o2_, hA2_, hc2_⟩ := Ty.int_at hr1_ ((W .i64 (x6 + (W .i64 (a1)))).tmod (iMin (t2.length : Int) t3)) hib0 hib1
       refine RL.idx 1 .i64 ((W .i64 (x6 + (W .i64 (a1)))).tmod (iMin (t2.length : Int) t3)) hA2_ ((t2.getD (x6).toNat []).length) c1_ (some 65) (by kernel_rfl) (by kernel_rfl) (T := 24) (e := 2) (by kernel_rfl) (by kernel_rfl) hib0 hib1 (K' := [(65, .pointer (some ⟨g2_, o2_ + ((W .i64 (x6 + (W .i64 (a1)))).tmod (iMin (t2.length : Int) t3)).toNat * 1, none⟩)), (64, .int .i64 ((W .i64 (x6 + (W .i64 (a1)))).tmod (iMin (t2.length : Int) t3))), (63, .slice A1_ ((t2.getD (x6).toNat []).length) c1_), (59, .int .i64 ((W .i64 (x6 + (W .i64 (a1)))).tmod (iMin (t2.length : Int) t3))), (58, .slice A11 x9.length c11), (13, .int .i64 ((W .i64 (x6 + (W .i64 (a1)))).tmod (iMin (t2.length : Int) t3))), (1, .int .u8 a1), (5, .bool t1), (6, .slice A1 t2.length c1), (7, .int .i64 (iMin (t2.length : Int) t3)), (8, .slice A7 x4.length c7), (9, .slice A8 x5.length c8), (10, .int .i64 x6), (11, .slice A11 x9.length c11)]) (by kernel_rfl) ?_
       refine RL.simK (K' := [(68, .int .i64 (W .i64 (536870912 + (((t2.getD (x6).toNat []).getD ((W .i64 (x6 + (W .i64 (a1)))).tmod (iMin (t2.length : Int) t3)).toNat 0).tmod 536870912)))), (59, .int .i64 ((W .i64 (x6 + (W .i64 (a1)))).tmod (iMin (t2.length : Int) t3))), (58, .slice A11 x9.length c11), (13, .int .i64 ((W .i64 (x6 + (W .i64 (a1)))).tmod (iMin (t2.length : Int) t3))), (1, .int .u8 a1), (5, .bool t1), (6, .slice A1 t2.length c1), (7, .int .i64 (iMin (t2.length : Int) t3)), (8, .slice A7 x4.length c7), (9, .slice A8 x5.length c8), (10, .int .i64 x6), (11, .slice A11 x9.length c11)]) [(⟨g2_, o2_ + ((W .i64 (x6 + (W .i64 (a1)))).tmod (iMin (t2.length : Int) t3)).toNat * 1, none⟩, .int .i64 ((t2.getD (x6).toNat []).getD ((W .i64 (x6 + (W .i64 (a1)))).tmod (iMin (t2.length : Int) t3)).toNat 0))] (RFacts.imm (hc2_ 0 _ rfl) (RFacts.nil _ _ _)) 3 [.r 0, .no, .no] (by kernel_rfl) (by kernel_rfl) ?_
       by_cases hib0 : 0 ≤ ((W .i64 (x6 + (W .i64 (a1)))).tmod (iMin (t2.length : Int) t3))
       case neg => rw [if_neg hib0] at H; cases H
       rw [if_pos hib0] at H
       by_cases hib1 : ((W .i64 (x6 + (W .i64 (a1)))).tmod (iMin (t2.length : Int) t3)) < (x9.length : Int)
       case neg => rw [if_neg hib1] at H; cases H
       rw [if_pos hib1] at H
       have hx03_ := hib0; have hx13_ := hib1
       refine RL.ownAddr (e := 2) (sz := 1) (S := A11) (n := x9.length) (cap := c11) (cs := cs11) 3 (by kernel_rfl) (by omega) (fun g3_ hA3_ => ?_)
       have hc3_ := Ty.int_own hp12 ((W .i64 (x6 + (W .i64 (a1)))).tmod (iMin (t2.length : Int) t3)) hib0 hib1
       refine RL.idx 1 .i64 ((W .i64 (x6 + (W .i64 (a1)))).tmod (iMin (t2.length : Int) t3)) hA3_ x9.length c11 (some 69) (by kernel_rfl) (by kernel_rfl) (T := 24) (e := 2) (by kernel_rfl) (by kernel_rfl) hib0 hib1 (K' := [(69, .pointer (some ⟨g3_, 0 + ((W .i64 (x6 + (W .i64 (a1)))).tmod (iMin (t2.length : Int) t3)).toNat * 1, none⟩)), (68, .int .i64 (W .i64 (536870912 + (((t2.getD (x6).toNat []).getD ((W .i64 (x6 + (W .i64 (a1)))).tmod (iMin (t2.length : Int) t3)).toNat 0).tmod 536870912)))), (59, .int .i64 ((W .i64 (x6 + (W .i64 (a1)))).tmod (iMin (t2.length : Int) t3))), (58, .slice A11 x9.length c11), (13, .int .i64 ((W .i64 (x6 + (W .i64 (a1)))).tmod (iMin (t2.length : Int) t3))), (1, .int .u8 a1), (5, .bool t1), (6, .slice A1 t2.length c1), (7, .int .i64 (iMin (t2.length : Int) t3)), (8, .slice A7 x4.length c7), (9, .slice A8 x5.length c8), (10, .int .i64 x6), (11, .slice A11 x9.length c11)]) (by kernel_rfl) ?_
       refine RL.storeL (T := 2) (e := 2) 1 3 hA3_ c11 ((W .i64 (x6 + (W .i64 (a1)))).tmod (iMin (t2.length : Int) t3)) cs11 [.int .i64 (W .i64 (536870912 + (((t2.getD (x6).toNat []).getD ((W .i64 (x6 + (W .i64 (a1)))).tmod (iMin (t2.length : Int) t3)).toNat 0).tmod 536870912)))] (.int .i64 (W .i64 (536870912 + (((t2.getD (x6).toNat []).getD ((W .i64 (x6 + (W .i64 (a1)))).tmod (iMin (t2.length : Int) t3)).toNat 0).tmod 536870912)))) (Ty.int .i64) x9 (W .i64 (536870912 + (((t2.getD (x6).toNat []).getD ((W .i64 (x6 + (W .i64 (a1)))).tmod (iMin (t2.length : Int) t3)).toNat 0).tmod 536870912))) (by kernel_rfl) (by kernel_rfl) (by kernel_rfl) (by kernel_rfl) (by kernel_rfl) rfl (by kernel_rfl) hp12 hx03_ hx13_ (fun cs12 hp13 => ?_)
       refine RL.sub (K' := [(68, .int .i64 (W .i64 (536870912 + (((t2.getD (x6).toNat []).getD ((W .i64 (x6 + (W .i64 (a1)))).tmod (iMin (t2.length : Int) t3)).toNat 0).tmod 536870912)))), (59, .int .i64 ((W .i64 (x6 + (W .i64 (a1)))).tmod (iMin (t2.length : Int) t3))), (58, .slice A11 x9.length c11), (13, .int .i64 ((W .i64 (x6 + (W .i64 (a1)))).tmod (iMin (t2.length : Int) t3))), (1, .int .u8 a1), (5, .bool t1), (6, .slice A1 t2.length c1), (7, .int .i64 (iMin (t2.length : Int) t3)), (8, .slice A7 x4.length c7), (9, .slice A8 x5.length c8), (10, .int .i64 x6), (11, .slice A11 x9.length c11)]) (L' := []) (X' := [orow 24 1 A1 t2.length c1 cs1, orow 24 1 A7 x4.length c7 cs7, orow 3 1 A8 x5.length c8 cs8, orow 2 1 A11 ((x9.set ((W .i64 (x6 + (W .i64 (a1)))).tmod (iMin (t2.length : Int) t3)).toNat (W .i64 (536870912 + (((t2.getD (x6).toNat []).getD ((W .i64 (x6 + (W .i64 (a1)))).tmod (iMin (t2.length : Int) t3)).toNat 0).tmod 536870912)))).length) c11 cs12]) (by kernel_rfl) (.refl _) (.refl _) ?_
       refine RL.norm (K' := [(68, .int .i64 (W .i64 (536870912 + (((t2.getD (x6).toNat []).getD ((W .i64 (x6 + (W .i64 (a1)))).tmod (iMin (t2.length : Int) t3)).toNat 0).tmod 536870912)))), (59, .int .i64 ((W .i64 (x6 + (W .i64 (a1)))).tmod (iMin (t2.length : Int) t3))), (58, .slice A11 ((x9.set ((W .i64 (x6 + (W .i64 (a1)))).tmod (iMin (t2.length : Int) t3)).toNat (W .i64 (536870912 + (((t2.getD (x6).toNat []).getD ((W .i64 (x6 + (W .i64 (a1)))).tmod (iMin (t2.length : Int) t3)).toNat 0).tmod 536870912)))).length) c11), (13, .int .i64 ((W .i64 (x6 + (W .i64 (a1)))).tmod (iMin (t2.length : Int) t3))), (1, .int .u8 a1), (5, .bool t1), (6, .slice A1 t2.length c1), (7, .int .i64 (iMin (t2.length : Int) t3)), (8, .slice A7 x4.length c7), (9, .slice A8 x5.length c8), (10, .int .i64 x6), (11, .slice A11 ((x9.set ((W .i64 (x6 + (W .i64 (a1)))).tmod (iMin (t2.length : Int) t3)).toNat (W .i64 (536870912 + (((t2.getD (x6).toNat []).getD ((W .i64 (x6 + (W .i64 (a1)))).tmod (iMin (t2.length : Int) t3)).toNat 0).tmod 536870912)))).length) c11)]) (L' := []) (by simp only [List.length_set]) rfl (by first | rfl | simp only [List.length_set]) rfl ?_
       refine RL.nil (by kernel_rfl) ?_
       refine QN.sub (K' := [(13, .int .i64 ((W .i64 (x6 + (W .i64 (a1)))).tmod (iMin (t2.length : Int) t3))), (1, .int .u8 a1), (5, .bool t1), (6, .slice A1 t2.length c1), (7, .int .i64 (iMin (t2.length : Int) t3)), (8, .slice A7 x4.length c7), (9, .slice A8 x5.length c8), (10, .int .i64 x6), (11, .slice A11 ((x9.set ((W .i64 (x6 + (W .i64 (a1)))).tmod (iMin (t2.length : Int) t3)).toNat (W .i64 (536870912 + (((t2.getD (x6).toNat []).getD ((W .i64 (x6 + (W .i64 (a1)))).tmod (iMin (t2.length : Int) t3)).toNat 0).tmod 536870912)))).length) c11)]) (L' := []) (by kernel_rfl) .slnil (.refl _) ?_
       refine QN.then_ ?_
       refine OK.seq K9_69 K9_71 (by kernel_rfl) ?_
       refine OK.region 17 O9_69 (by kernel_rfl) ?_
       refine RL.simP (K' := [(72, .slice (some ⟨nx13, 0, none⟩) 1 1), (70, .slice A7 x4.length c7), (13, .int .i64 ((W .i64 (x6 + (W .i64 (a1)))).tmod (iMin (t2.length : Int) t3))), (1, .int .u8 a1), (5, .bool t1), (6, .slice A1 t2.length c1), (7, .int .i64 (iMin (t2.length : Int) t3)), (8, .slice A7 x4.length c7), (9, .slice A8 x5.length c8), (10, .int .i64 x6)]) (nx' := nx13 + 1) (L' := [⟨nx13, [.slice A11 ((x9.set ((W .i64 (x6 + (W .i64 (a1)))).tmod (iMin (t2.length : Int) t3)).toNat (W .i64 (536870912 + (((t2.getD (x6).toNat []).getD ((W .i64 (x6 + (W .i64 (a1)))).tmod (iMin (t2.length : Int) t3)).toNat 0).tmod 536870912)))).length) c11], 24⟩]) [] (RFacts.nil _ _ _) 3 [.no, .no, .no] (by kernel_rfl) (by kernel_rfl) ?_
       refine RL.freeze (e := 2) (sz := 1) (S := A11) (n := (x9.set ((W .i64 (x6 + (W .i64 (a1)))).tmod (iMin (t2.length : Int) t3)).toNat (W .i64 (536870912 + (((t2.getD (x6).toNat []).getD ((W .i64 (x6 + (W .i64 (a1)))).tmod (iMin (t2.length : Int) t3)).toNat 0).tmod 536870912)))).length) (cap := c11) 3 (by kernel_rfl) hp13 rfl (fun I13 hi13 hl4 hr4 => ?_)
       skip
       by_cases hz1 : (x4.length + [x9.set ((W .i64 (x6 + (W .i64 (a1)))).tmod (iMin (t2.length : Int) t3)).toNat (W .i64 (536870912 + (((t2.getD (x6).toNat []).getD ((W .i64 (x6 + (W .i64 (a1)))).tmod (iMin (t2.length : Int) t3)).toNat 0).tmod 536870912)))].length) * 24 ≤ 140737488355328
       case neg => rw [if_neg hz1] at H; cases H
       rw [if_pos hz1] at H
       refine RL.appendB (T := 22) (e := 24) (S := A7) 1 24 22 c7 0 1 nx13 24 cs7 [.slice A11 ((x9.set ((W .i64 (x6 + (W .i64 (a1)))).tmod (iMin (t2.length : Int) t3)).toNat (W .i64 (536870912 + (((t2.getD (x6).toNat []).getD ((W .i64 (x6 + (W .i64 (a1)))).tmod (iMin (t2.length : Int) t3)).toNat 0).tmod 536870912)))).length) c11] (Ty.slice (Ty.int .i64)) x4 [x9.set ((W .i64 (x6 + (W .i64 (a1)))).tmod (iMin (t2.length : Int) t3)).toNat (W .i64 (536870912 + (((t2.getD (x6).toNat []).getD ((W .i64 (x6 + (W .i64 (a1)))).tmod (iMin (t2.length : Int) t3)).toNat 0).tmod 536870912)))] 1 (some 73) (by kernel_rfl) (by kernel_rfl) (by kernel_rfl) (by kernel_rfl) (by kernel_rfl) (by decide) (by kernel_rfl) (Reps.ext (Imm.le_trans hi12 hi13) hp7) (by kernel_rfl) ⟨_, _, rfl, ⟨_, _, rfl, hl4, hr4⟩, rfl⟩ hz1 (by omega) (fun A12 c12 nx14 cs13 hp14 => ?_)
       refine RL.sub (K' := [(73, .slice A12 ((x4 ++ [x9.set ((W .i64 (x6 + (W .i64 (a1)))).tmod (iMin (t2.length : Int) t3)).toNat (W .i64 (536870912 + (((t2.getD (x6).toNat []).getD ((W .i64 (x6 + (W .i64 (a1)))).tmod (iMin (t2.length : Int) t3)).toNat 0).tmod 536870912)))]).length) c12), (72, .slice (some ⟨nx13, 0, none⟩) 1 1), (13, .int .i64 ((W .i64 (x6 + (W .i64 (a1)))).tmod (iMin (t2.length : Int) t3))), (1, .int .u8 a1), (5, .bool t1), (6, .slice A1 t2.length c1), (7, .int .i64 (iMin (t2.length : Int) t3)), (9, .slice A8 x5.length c8), (10, .int .i64 x6)]) (L' := [⟨nx13, [.slice A11 ((x9.set ((W .i64 (x6 + (W .i64 (a1)))).tmod (iMin (t2.length : Int) t3)).toNat (W .i64 (536870912 + (((t2.getD (x6).toNat []).getD ((W .i64 (x6 + (W .i64 (a1)))).tmod (iMin (t2.length : Int) t3)).toNat 0).tmod 536870912)))).length) c11], 24⟩]) (X' := [orow 24 1 A1 t2.length c1 cs1, orow 24 1 A12 ((x4 ++ [x9.set ((W .i64 (x6 + (W .i64 (a1)))).tmod (iMin (t2.length : Int) t3)).toNat (W .i64 (536870912 + (((t2.getD (x6).toNat []).getD ((W .i64 (x6 + (W .i64 (a1)))).tmod (iMin (t2.length : Int) t3)).toNat 0).tmod 536870912)))]).length) c12 cs13, orow 3 1 A8 x5.length c8 cs8]) (by kernel_rfl) (.refl _) (.refl _) ?_
       refine RL.simK (K' := [(8, .slice A12 ((x4 ++ [x9.set ((W .i64 (x6 + (W .i64 (a1)))).tmod (iMin (t2.length : Int) t3)).toNat (W .i64 (536870912 + (((t2.getD (x6).toNat []).getD ((W .i64 (x6 + (W .i64 (a1)))).tmod (iMin (t2.length : Int) t3)).toNat 0).tmod 536870912)))]).length) c12), (13, .int .i64 ((W .i64 (x6 + (W .i64 (a1)))).tmod (iMin (t2.length : Int) t3))), (1, .int .u8 a1), (5, .bool t1), (6, .slice A1 t2.length c1), (7, .int .i64 (iMin (t2.length : Int) t3)), (9, .slice A8 x5.length c8), (10, .int .i64 x6)]) [] (RFacts.nil _ _ _) 1 [.no] (by kernel_rfl) (by kernel_rfl) ?_
       refine RL.nil (by kernel_rfl) ?_
       refine QN.then_ ?_
       refine OK.region 18 O9_71 (by kernel_rfl) ?_
       refine RL.simP (K' := [(76, .slice (some ⟨nx14, 0, none⟩) 1 1), (74, .slice A8 x5.length c8), (8, .slice A12 ((x4 ++ [x9.set ((W .i64 (x6 + (W .i64 (a1)))).tmod (iMin (t2.length : Int) t3)).toNat (W .i64 (536870912 + (((t2.getD (x6).toNat []).getD ((W .i64 (x6 + (W .i64 (a1)))).tmod (iMin (t2.length : Int) t3)).toNat 0).tmod 536870912)))]).length) c12), (1, .int .u8 a1), (5, .bool t1), (6, .slice A1 t2.length c1), (7, .int .i64 (iMin (t2.length : Int) t3)), (9, .slice A8 x5.length c8), (10, .int .i64 x6)]) (nx' := nx14 + 1) (L' := [⟨nx13, [.slice A11 ((x9.set ((W .i64 (x6 + (W .i64 (a1)))).tmod (iMin (t2.length : Int) t3)).toNat (W .i64 (536870912 + (((t2.getD (x6).toNat []).getD ((W .i64 (x6 + (W .i64 (a1)))).tmod (iMin (t2.length : Int) t3)).toNat 0).tmod 536870912)))).length) c11], 24⟩, ⟨nx14, [.int .i64 ((W .i64 (x6 + (W .i64 (a1)))).tmod (iMin (t2.length : Int) t3))], 3⟩]) [] (RFacts.nil _ _ _) 3 [.no, .no, .no] (by kernel_rfl) (by kernel_rfl) ?_
       by_cases hz2 : (x5.length + [(W .i64 (x6 + (W .i64 (a1)))).tmod (iMin (t2.length : Int) t3)].length) * 8 ≤ 140737488355328
       case neg => rw [if_neg hz2] at H; cases H
       rw [if_pos hz2] at H
       refine RL.appendB (T := 23) (e := 3) (S := A8) 1 8 23 c8 1 1 nx14 3 cs8 [.int .i64 ((W .i64 (x6 + (W .i64 (a1)))).tmod (iMin (t2.length : Int) t3))] (Ty.int .i64) x5 [(W .i64 (x6 + (W .i64 (a1)))).tmod (iMin (t2.length : Int) t3)] 2 (some 77) (by kernel_rfl) (by kernel_rfl) (by kernel_rfl) (by kernel_rfl) (by kernel_rfl) (by decide) (by kernel_rfl) (Reps.ext (Imm.le_trans hi12 hi13) hp8) (by kernel_rfl) ⟨_, _, rfl, rfl, rfl⟩ hz2 (by omega) (fun A13 c13 nx15 cs14 hp15 => ?_)
       refine RL.sub (K' := [(77, .slice A13 ((x5 ++ [(W .i64 (x6 + (W .i64 (a1)))).tmod (iMin (t2.length : Int) t3)]).length) c13), (76, .slice (some ⟨nx14, 0, none⟩) 1 1), (8, .slice A12 ((x4 ++ [x9.set ((W .i64 (x6 + (W .i64 (a1)))).tmod (iMin (t2.length : Int) t3)).toNat (W .i64 (536870912 + (((t2.getD (x6).toNat []).getD ((W .i64 (x6 + (W .i64 (a1)))).tmod (iMin (t2.length : Int) t3)).toNat 0).tmod 536870912)))]).length) c12), (1, .int .u8 a1), (5, .bool t1), (6, .slice A1 t2.length c1), (7, .int .i64 (iMin (t2.length : Int) t3)), (10, .int .i64 x6)]) (L' := [⟨nx13, [.slice A11 ((x9.set ((W .i64 (x6 + (W .i64 (a1)))).tmod (iMin (t2.length : Int) t3)).toNat (W .i64 (536870912 + (((t2.getD (x6).toNat []).getD ((W .i64 (x6 + (W .i64 (a1)))).tmod (iMin (t2.length : Int) t3)).toNat 0).tmod 536870912)))).length) c11], 24⟩, ⟨nx14, [.int .i64 ((W .i64 (x6 + (W .i64 (a1)))).tmod (iMin (t2.length : Int) t3))], 3⟩]) (X' := [orow 24 1 A1 t2.length c1 cs1, orow 24 1 A12 ((x4 ++ [x9.set ((W .i64 (x6 + (W .i64 (a1)))).tmod (iMin (t2.length : Int) t3)).toNat (W .i64 (536870912 + (((t2.getD (x6).toNat []).getD ((W .i64 (x6 + (W .i64 (a1)))).tmod (iMin (t2.length : Int) t3)).toNat 0).tmod 536870912)))]).length) c12 cs13, orow 3 1 A13 ((x5 ++ [(W .i64 (x6 + (W .i64 (a1)))).tmod (iMin (t2.length : Int) t3)]).length) c13 cs14]) (by kernel_rfl) (.refl _) (.refl _) ?_
       refine RL.simK (K' := [(9, .slice A13 ((x5 ++ [(W .i64 (x6 + (W .i64 (a1)))).tmod (iMin (t2.length : Int) t3)]).length) c13), (8, .slice A12 ((x4 ++ [x9.set ((W .i64 (x6 + (W .i64 (a1)))).tmod (iMin (t2.length : Int) t3)).toNat (W .i64 (536870912 + (((t2.getD (x6).toNat []).getD ((W .i64 (x6 + (W .i64 (a1)))).tmod (iMin (t2.length : Int) t3)).toNat 0).tmod 536870912)))]).length) c12), (1, .int .u8 a1), (5, .bool t1), (6, .slice A1 t2.length c1), (7, .int .i64 (iMin (t2.length : Int) t3)), (10, .int .i64 x6)]) [] (RFacts.nil _ _ _) 1 [.no] (by kernel_rfl) (by kernel_rfl) ?_
       refine RL.nil (by kernel_rfl) ?_
       refine QN.blkN ?_
       obtain rfl := Option.some.inj H
       refine QN.sub (K' := [(1, .int .u8 a1), (5, .bool t1), (6, .slice A1 t2.length c1), (7, .int .i64 (iMin (t2.length : Int) t3)), (8, .slice A12 ((x4 ++ [x9.set ((W .i64 (x6 + (W .i64 (a1)))).tmod (iMin (t2.length : Int) t3)).toNat (W .i64 (536870912 + (((t2.getD (x6).toNat []).getD ((W .i64 (x6 + (W .i64 (a1)))).tmod (iMin (t2.length : Int) t3)).toNat 0).tmod 536870912)))]).length) c12), (9, .slice A13 ((x5 ++ [(W .i64 (x6 + (W .i64 (a1)))).tmod (iMin (t2.length : Int) t3)]).length) c13), (10, .int .i64 x6)]) (L' := []) (by kernel_rfl) (.cons _ (.cons _ .slnil)) (.refl _) ?_
       exact hJ4 _ _ _ _ _ ⟨(x4 ++ [x9.set ((W .i64 (x6 + (W .i64 (a1)))).tmod (iMin (t2.length : Int) t3)).toNat (W .i64 (536870912 + (((t2.getD (x6).toNat []).getD ((W .i64 (x6 + (W .i64 (a1)))).tmod (iMin (t2.length : Int) t3)).toNat 0).tmod 536870912)))]), (x5 ++ [(W .i64 (x6 + (W .i64 (a1)))).tmod (iMin (t2.length : Int) t3)]), A12, c12, cs13, A13, c13, cs14, rfl, rfl, rfl, (Imm.le_trans hi12 hi13), hp14, hp15, HK3⟩
      ·intro Q_4 hJ5 hQ5
       obtain ⟨y4, H, HK4⟩ := Option.bind_eq_some_iff.mp H
       refine OK.block 2 K9_48 (by kernel_rfl) ?_
       refine OK.sub (K' := [(1, .int .u8 a1), (5, .bool t1), (6, .slice A1 t2.length c1), (7, .int .i64 (iMin (t2.length : Int) t3)), (8, .slice A7 x4.length c7), (9, .slice A8 x5.length c8), (10, .int .i64 x6), (11, .slice (some ⟨nx10, 0, none⟩) ((List.replicate (iMin (t2.length : Int) t3).toNat (0 : Int)).length) ((List.replicate (iMin (t2.length : Int) t3).toNat (0 : Int)).length)), (12, .int .i64 0)]) (L' := []) (by kernel_rfl) .slnil (.refl _) ?_
       refine OK.loopInv K9_49 (by kernel_rfl) (fun n_ K' I' _ L' X' => ∃ (x10 : List Int) (x11 : Int) (A14 : Option Addr) (c14 : Nat) (cs15 : List Value), K' = [(1, .int .u8 a1), (5, .bool t1), (6, .slice A1 t2.length c1), (7, .int .i64 (iMin (t2.length : Int) t3)), (8, .slice A7 x4.length c7), (9, .slice A8 x5.length c8), (10, .int .i64 x6), (11, .slice A14 x10.length c14), (12, .int .i64 x11)] ∧ L' = [] ∧ X' = [orow 24 1 A1 t2.length c1 cs1, orow 24 1 A7 x4.length c7 cs7, orow 3 1 A8 x5.length c8 cs8, orow 2 1 A14 x10.length c14 cs15] ∧ Imm.le I10 I' ∧ Reps (Ty.int .i64) I' x10 cs15 ∧ armillarylaw22_AssignDiagonal.l2 t2 t3 x6 n_ x10 x11 = some y4) kq1 ⟨List.replicate (iMin (t2.length : Int) t3).toNat (0 : Int), 0, (some ⟨nx10, 0, none⟩), (List.replicate (iMin (t2.length : Int) t3).toNat (0 : Int)).length, (List.replicate (iMin (t2.length : Int) t3).toNat (.int .i64 0)), rfl, rfl, rfl, (Imm.le_refl _), hp11, H⟩ ?_ ?_
       ·rintro _ _ _ _ _ ⟨x10, x11, A14, c14, cs15, rfl, rfl, rfl, _, hp16, H⟩
        cases H
       ·rintro kq2 _ I14 nx16 _ _ ⟨x10, x11, A14, c14, cs15, rfl, rfl, rfl, hi14, hp16, H⟩ Q_l2 hJ6 hQ6
        replace H : (if x11 < (iMin (t2.length : Int) t3) then (if 0 ≤ x6 then (if x6 < (t2.length : Int) then (if 0 ≤ x11 then (if x11 < ((t2.getD (x6).toNat []).length : Int) then (if 0 ≤ x11 then (if x11 < (x10.length : Int) then (armillarylaw22_AssignDiagonal.l2 t2 t3 x6 kq2 (x10.set (x11).toNat (((t2.getD (x6).toNat []).getD (x11).toNat 0).tmod 536870912)) (W .i64 (x11 + 1))) else none) else none) else none) else none) else none) else none) else (some x10)) = some y4 := H
        refine OK.seq K9_50 K9_56 (by kernel_rfl) ?_
        refine OK.seq K9_51 K9_53 (by kernel_rfl) ?_
        refine OK.region 12 O9_51 (by kernel_rfl) ?_
        refine RL.simK (K' := [(38, .bool (decide (x11 < (iMin (t2.length : Int) t3)))), (1, .int .u8 a1), (5, .bool t1), (6, .slice A1 t2.length c1), (7, .int .i64 (iMin (t2.length : Int) t3)), (8, .slice A7 x4.length c7), (9, .slice A8 x5.length c8), (10, .int .i64 x6), (11, .slice A14 x10.length c14), (12, .int .i64 x11)]) [] (RFacts.nil _ _ _) 3 [.no, .no, .no] (by kernel_rfl) (by kernel_rfl) ?_
        refine RL.nil (by kernel_rfl) ?_
        refine QN.then_ ?_
        refine OK.cond (.tmp 38) K9_54 K9_55 (decide (x11 < (iMin (t2.length : Int) t3))) (by kernel_rfl) (by kernel_rfl) (by kernel_rfl) (fun hb => ?_) (fun hb => ?_)
        ·skip
         have hc := (of_decide_eq_true hb)
         rw [if_pos hc] at H
         clear hb
         refine OK.skip (by kernel_rfl) ?_
         refine QN.then_ ?_
         refine OK.seq K9_57 K9_60 (by kernel_rfl) ?_
         refine OK.block 3 K9_58 (by kernel_rfl) ?_
         refine OK.region 14 O9_58 (by kernel_rfl) ?_
         refine RL.simK (K' := [(44, .int .i64 x6), (43, .slice A1 t2.length c1), (42, .int .i64 x11), (41, .slice A14 x10.length c14), (1, .int .u8 a1), (5, .bool t1), (6, .slice A1 t2.length c1), (7, .int .i64 (iMin (t2.length : Int) t3)), (8, .slice A7 x4.length c7), (9, .slice A8 x5.length c8), (10, .int .i64 x6), (11, .slice A14 x10.length c14), (12, .int .i64 x11)]) [] (RFacts.nil _ _ _) 4 [.no, .no, .no, .no] (by kernel_rfl) (by kernel_rfl) ?_
         by_cases hib0 : 0 ≤ x6
         case neg => rw [if_neg hib0] at H; cases H
         rw [if_pos hib0] at H
         by_cases hib1 : x6 < (t2.length : Int)
         case neg => rw [if_neg hib1] at H; cases H
         rw [if_pos hib1] at H
         have hx04_ := hib0; have hx14_ := hib1
         refine RL.ownAddr (e := 24) (sz := 1) (S := A1) (n := t2.length) (cap := c1) (cs := cs1) 0 (by kernel_rfl) (by omega) (fun g4_ hA4_ => ?_)
         obtain ⟨A4_, c4_, hl4_, hr4_, hc4_⟩ := Ty.slice_own (Reps.ext (Imm.le_trans hi10 hi14) hp1) x6 hib0 hib1
         refine RL.idx 1 .i64 x6 hA4_ t2.length c1 (some 45) (by kernel_rfl) (by kernel_rfl) (T := 22) (e := 24) (by kernel_rfl) (by kernel_rfl) hib0 hib1 (K' := [(45, .pointer (some ⟨g4_, 0 + (x6).toNat * 1, none⟩)), (44, .int .i64 x6), (43, .slice A1 t2.length c1), (42, .int .i64 x11), (41, .slice A14 x10.length c14), (1, .int .u8 a1), (5, .bool t1), (6, .slice A1 t2.length c1), (7, .int .i64 (iMin (t2.length : Int) t3)), (8, .slice A7 x4.length c7), (9, .slice A8 x5.length c8), (10, .int .i64 x6), (11, .slice A14 x10.length c14), (12, .int .i64 x11)]) (by kernel_rfl) ?_
         refine RL.simK (K' := [(47, .int .i64 x11), (46, .slice A4_ ((t2.getD (x6).toNat []).length) c4_), (42, .int .i64 x11), (41, .slice A14 x10.length c14), (1, .int .u8 a1), (5, .bool t1), (6, .slice A1 t2.length c1), (7, .int .i64 (iMin (t2.length : Int) t3)), (8, .slice A7 x4.length c7), (9, .slice A8 x5.length c8), (10, .int .i64 x6), (11, .slice A14 x10.length c14), (12, .int .i64 x11)]) [(⟨g4_, 0 + (x6).toNat * 1, none⟩, .slice A4_ ((t2.getD (x6).toNat []).length) c4_)] (RFacts.ownQ (e := 24) (sz := 1) (S := A1) (n := t2.length) (cap := c1) (cs := cs1) 0 (by kernel_rfl) hA4_ (0 + (x6).toNat * 1) ((x6).toNat * 1 + 0) (by omega) (hc4_ 0 _ rfl) (RFacts.nil _ _ _)) 2 [.r 0, .no] (by kernel_rfl) (by kernel_rfl) ?_
         by_cases hib0 : 0 ≤ x11
         case neg => rw [if_neg hib0] at H; cases H
         rw [if_pos hib0] at H
         by_cases hib1 : x11 < ((t2.getD (x6).toNat []).length : Int)
         case neg => rw [if_neg hib1] at H; cases H
         rw [if_pos hib1] at H
         obtain ⟨g5_, o5_, hA5_, hc5_⟩ := Ty.int_at hr4_ x11 hib0 hib1
         refine RL.idx 1 .i64 x11 hA5_ ((t2.getD (x6).toNat []).length) c4_ (some 48) (by kernel_rfl) (by kernel_rfl) (T := 24) (e := 2) (by kernel_rfl) (by kernel_rfl) hib0 hib1 (K' := [(48, .pointer (some ⟨g5_, o5_ + (x11).toNat * 1, none⟩)), (47, .int .i64 x11), (46, .slice A4_ ((t2.getD (x6).toNat []).length) c4_), (42, .int .i64 x11), (41, .slice A14 x10.length c14), (1, .int .u8 a1), (5, .bool t1), (6, .slice A1 t2.length c1), (7, .int .i64 (iMin (t2.length : Int) t3)), (8, .slice A7 x4.length c7), (9, .slice A8 x5.length c8), (10, .int .i64 x6), (11, .slice A14 x10.length c14), (12, .int .i64 x11)]) (by kernel_rfl) ?_
         refine RL.simK (K' := [(50, .int .i64 (((t2.getD (x6).toNat []).getD (x11).toNat 0).tmod 536870912)), (42, .int .i64 x11), (41, .slice A14 x10.length c14), (1, .int .u8 a1), (5, .bool t1), (6, .slice A1 t2.length c1), (7, .int .i64 (iMin (t2.length : Int) t3)), (8, .slice A7 x4.length c7), (9, .slice A8 x5.length c8), (10, .int .i64 x6), (11, .slice A14 x10.length c14), (12, .int .i64 x11)]) [(⟨g5_, o5_ + (x11).toNat * 1, none⟩, .int .i64 ((t2.getD (x6).toNat []).getD (x11).toNat 0))] (RFacts.imm (hc5_ 0 _ rfl) (RFacts.nil _ _ _)) 2 [.r 0, .no] (by kernel_rfl) (by kernel_rfl) ?_
         by_cases hib0 : 0 ≤ x11
         case neg => rw [if_neg hib0] at H; cases H
         rw [if_pos hib0] at H
         by_cases hib1 : x11 < (x10.length : Int)
         case neg => rw [if_neg hib1] at H; cases H
         rw [if_pos hib1] at H
         have hx06_ := hib0; have hx16_ := hib1
         refine RL.ownAddr (e := 2) (sz := 1) (S := A14) (n := x10.length) (cap := c14) (cs := cs15) 3 (by kernel_rfl) (by omega) (fun g6_ hA6_ => ?_)
         have hc6_ := Ty.int_own hp16 x11 hib0 hib1
         refine RL.idx 1 .i64 x11 hA6_ x10.length c14 (some 51) (by kernel_rfl) (by kernel_rfl) (T := 24) (e := 2) (by kernel_rfl) (by kernel_rfl) hib0 hib1 (K' := [(51, .pointer (some ⟨g6_, 0 + (x11).toNat * 1, none⟩)), (50, .int .i64 (((t2.getD (x6).toNat []).getD (x11).toNat 0).tmod 536870912)), (42, .int .i64 x11), (41, .slice A14 x10.length c14), (1, .int .u8 a1), (5, .bool t1), (6, .slice A1 t2.length c1), (7, .int .i64 (iMin (t2.length : Int) t3)), (8, .slice A7 x4.length c7), (9, .slice A8 x5.length c8), (10, .int .i64 x6), (11, .slice A14 x10.length c14), (12, .int .i64 x11)]) (by kernel_rfl) ?_
         refine RL.storeL (T := 2) (e := 2) 1 3 hA6_ c14 x11 cs15 [.int .i64 (((t2.getD (x6).toNat []).getD (x11).toNat 0).tmod 536870912)] (.int .i64 (((t2.getD (x6).toNat []).getD (x11).toNat 0).tmod 536870912)) (Ty.int .i64) x10 (((t2.getD (x6).toNat []).getD (x11).toNat 0).tmod 536870912) (by kernel_rfl) (by kernel_rfl) (by kernel_rfl) (by kernel_rfl) (by kernel_rfl) rfl (by kernel_rfl) hp16 hx06_ hx16_ (fun cs16 hp17 => ?_)
         refine RL.sub (K' := [(50, .int .i64 (((t2.getD (x6).toNat []).getD (x11).toNat 0).tmod 536870912)), (42, .int .i64 x11), (41, .slice A14 x10.length c14), (1, .int .u8 a1), (5, .bool t1), (6, .slice A1 t2.length c1), (7, .int .i64 (iMin (t2.length : Int) t3)), (8, .slice A7 x4.length c7), (9, .slice A8 x5.length c8), (10, .int .i64 x6), (11, .slice A14 x10.length c14), (12, .int .i64 x11)]) (L' := []) (X' := [orow 24 1 A1 t2.length c1 cs1, orow 24 1 A7 x4.length c7 cs7, orow 3 1 A8 x5.length c8 cs8, orow 2 1 A14 ((x10.set (x11).toNat (((t2.getD (x6).toNat []).getD (x11).toNat 0).tmod 536870912)).length) c14 cs16]) (by kernel_rfl) (.refl _) (.refl _) ?_
         refine RL.norm (K' := [(50, .int .i64 (((t2.getD (x6).toNat []).getD (x11).toNat 0).tmod 536870912)), (42, .int .i64 x11), (41, .slice A14 ((x10.set (x11).toNat (((t2.getD (x6).toNat []).getD (x11).toNat 0).tmod 536870912)).length) c14), (1, .int .u8 a1), (5, .bool t1), (6, .slice A1 t2.length c1), (7, .int .i64 (iMin (t2.length : Int) t3)), (8, .slice A7 x4.length c7), (9, .slice A8 x5.length c8), (10, .int .i64 x6), (11, .slice A14 ((x10.set (x11).toNat (((t2.getD (x6).toNat []).getD (x11).toNat 0).tmod 536870912)).length) c14), (12, .int .i64 x11)]) (L' := []) (by simp only [List.length_set]) rfl (by first | rfl | simp only [List.length_set]) rfl ?_
         refine RL.nil (by kernel_rfl) ?_
         refine QN.sub (K' := [(1, .int .u8 a1), (5, .bool t1), (6, .slice A1 t2.length c1), (7, .int .i64 (iMin (t2.length : Int) t3)), (8, .slice A7 x4.length c7), (9, .slice A8 x5.length c8), (10, .int .i64 x6), (11, .slice A14 ((x10.set (x11).toNat (((t2.getD (x6).toNat []).getD (x11).toNat 0).tmod 536870912)).length) c14), (12, .int .i64 x11)]) (L' := []) (by kernel_rfl) .slnil (.refl _) ?_
         refine QN.blkN ?_
         refine QN.then_ ?_
         refine OK.region 13 O9_60 (by kernel_rfl) ?_
         refine RL.simK (K' := [(12, .int .i64 (W .i64 (x11 + 1))), (1, .int .u8 a1), (5, .bool t1), (6, .slice A1 t2.length c1), (7, .int .i64 (iMin (t2.length : Int) t3)), (8, .slice A7 x4.length c7), (9, .slice A8 x5.length c8), (10, .int .i64 x6), (11, .slice A14 ((x10.set (x11).toNat (((t2.getD (x6).toNat []).getD (x11).toNat 0).tmod 536870912)).length) c14)]) [] (RFacts.nil _ _ _) 3 [.no, .no, .no] (by kernel_rfl) (by kernel_rfl) ?_
         refine RL.nil (by kernel_rfl) ?_
         refine QN.sub (K' := [(1, .int .u8 a1), (5, .bool t1), (6, .slice A1 t2.length c1), (7, .int .i64 (iMin (t2.length : Int) t3)), (8, .slice A7 x4.length c7), (9, .slice A8 x5.length c8), (10, .int .i64 x6), (11, .slice A14 ((x10.set (x11).toNat (((t2.getD (x6).toNat []).getD (x11).toNat 0).tmod 536870912)).length) c14), (12, .int .i64 (W .i64 (x11 + 1)))]) (L' := []) (by kernel_rfl) .slnil (.refl _) ?_
         exact hJ6 _ _ _ _ _ ⟨x10.set (x11).toNat (((t2.getD (x6).toNat []).getD (x11).toNat 0).tmod 536870912), W .i64 (x11 + 1), A14, c14, cs16, rfl, rfl, rfl, hi14, hp17, H⟩
        ·skip
         have hc := (of_decide_eq_false hb)
         rw [if_neg hc] at H
         clear hb
         refine OK.exit 2 (by kernel_rfl) ?_
         refine QN.thenE ?_
         refine QN.outE hQ6 ?_
         refine QN.blkE ?_
         obtain rfl := Option.some.inj H
         refine QN.sub (K' := [(1, .int .u8 a1), (5, .bool t1), (6, .slice A1 t2.length c1), (7, .int .i64 (iMin (t2.length : Int) t3)), (8, .slice A7 x4.length c7), (9, .slice A8 x5.length c8), (10, .int .i64 x6), (11, .slice A14 x10.length c14)]) (L' := []) (by kernel_rfl) .slnil (.refl _) ?_
         exact hJ5 _ _ _ _ _ ⟨x10, A14, c14, cs15, rfl, rfl, rfl, hi14, hp16, HK4⟩
    ·skip
     have hc := (of_decide_eq_false hb)
     rw [if_neg hc] at H
     clear hb
     refine OK.exit 0 (by kernel_rfl) ?_
     refine QN.thenE ?_
     refine QN.outE hQ3 ?_
     refine QN.blkE ?_
     obtain rfl := Option.some.inj H
     refine QN.sel (K' := [(5, .bool t1), (8, .slice A7 x4.length c7), (9, .slice A8 x5.length c8)]) (L' := []) [1, 2] (by kernel_rfl) (by kernel_rfl) .slnil ?_
     refine QN.norm (X' := [orow 24 1 A7 x4.length c7 cs7, orow 3 1 A8 x5.length c8 cs8]) rfl rfl rfl (by kernel_rfl) ?_
     exact hJ1 _ _ _ _ _ ⟨x4, x5, A7, c7, cs7, A8, c8, cs8, rfl, rfl, rfl, hi10, hp7, hp8, HK1⟩

end Go.Proofs.Ytdmhbcgmimfjcaa
