/- Words of the walk, the functions' walks and plain laws, joined; no conditions beyond those that the theorems name. -/
import Derived.Test.YtdmhbcgmimfjcaaX42
import Derived.Test.YtdmhbcgmimfjcaaX47
import Derived.Test.YtdmhbcgmimfjcaaX46
namespace Go.Proofs.Ytdmhbcgmimfjcaa
open Go Go.Proofs.Ytdmhbcgmimfjcaa.RW
set_option linter.unusedVariables false
set_option maxRecDepth 100000
set_option maxHeartbeats 8000000

/-! ### armillaryref22_Same: function 17, armillary/armillaryref22.Same -/
noncomputable def K17_0 : Code := cBody Try.f17
noncomputable def K17_1 : Code := cL K17_0
noncomputable def O17_1 : List Oper := cOps K17_1
noncomputable def K17_3 : Code := cR K17_0
noncomputable def K17_4 : Code := cL K17_3
noncomputable def K17_5 : Code := cL K17_4
noncomputable def O17_5 : List Oper := cOps K17_5
noncomputable def K17_7 : Code := cR K17_4
noncomputable def K17_8 : Code := cL K17_7
noncomputable def K17_9 : Code := cL K17_8
noncomputable def O17_9 : List Oper := cOps K17_9
noncomputable def K17_11 : Code := cR K17_8
noncomputable def K17_12 : Code := cR K17_7
noncomputable def K17_13 : Code := cR K17_3
noncomputable def K17_14 : Code := cL K17_13
noncomputable def K17_15 : Code := cL K17_14
noncomputable def O17_15 : List Oper := cOps K17_15
noncomputable def K17_17 : Code := cR K17_14
noncomputable def K17_18 : Code := cL K17_17
noncomputable def K17_19 : Code := cL K17_18
noncomputable def K17_20 : Code := cL K17_19
noncomputable def K17_21 : Code := cL K17_20
noncomputable def O17_21 : List Oper := cOps K17_21
noncomputable def K17_23 : Code := cR K17_20
noncomputable def K17_24 : Code := cL K17_23
noncomputable def K17_25 : Code := cR K17_23
noncomputable def K17_26 : Code := cR K17_19
noncomputable def K17_27 : Code := cL K17_26
noncomputable def K17_28 : Code := cL K17_27
noncomputable def K17_29 : Code := cL K17_28
noncomputable def O17_29 : List Oper := cOps K17_29
noncomputable def K17_31 : Code := cR K17_28
noncomputable def K17_32 : Code := cL K17_31
noncomputable def K17_33 : Code := cL K17_32
noncomputable def O17_33 : List Oper := cOps K17_33
noncomputable def K17_35 : Code := cR K17_32
noncomputable def K17_36 : Code := cR K17_31
noncomputable def K17_37 : Code := cR K17_26
noncomputable def O17_37 : List Oper := cOps K17_37
noncomputable def K17_39 : Code := cR K17_13
noncomputable def K17_40 : Code := cL K17_39
noncomputable def O17_40 : List Oper := cOps K17_40
noncomputable def K17_42 : Code := cR K17_39
def armillaryref22_Same.k1  : (Unit) ⊕ (Bool) → Option (Bool)
 | .inl () => (some true)
 | .inr r_ => some r_
def armillaryref22_Same.l1 (a0 : List Int) (a1 : List Int) : Nat → Int → Option ((Unit) ⊕ (Bool))
 | 0, _ => none
 | k + 1, x1 => (if x1 < (a0.length : Int) then (if 0 ≤ x1 then (if x1 < (a0.length : Int) then (if 0 ≤ x1 then (if x1 < (a1.length : Int) then (if (a0.getD (x1).toNat 0) ≠ (a1.getD (x1).toNat 0) then (some (Sum.inr false)) else (armillaryref22_Same.l1 a0 a1 k (W .i64 (x1 + 1)))) else none) else none) else none) else none) else (some (Sum.inl ())))
def armillaryref22_Same.f (k : Nat) (a0 : List Int) (a1 : List Int) : Option (Bool) := (if (a0.length : Int) ≠ (a1.length : Int) then (some false) else ((armillaryref22_Same.l1 a0 a1 k 0).bind (armillaryref22_Same.k1)))
def armillaryref22_Same.Post (I : Imm) (w : World) (r : Bool) (v : Value) (w' : World) : Prop :=
 ∃ (J : Imm), v = .bool r ∧ Got w w' I J []
noncomputable def a17_29n : List Nat := [0, 0, 3, 7, 0, 0, 48, 112, 255]
theorem a17_29 : ancs O17_29 [] = a17_29n := by kernel_rfl
theorem a17_29o : drawOk O17_29 a17_29n 8 = true := by kernel_rfl
noncomputable def u17d1l  : List Ld :=
 []
noncomputable def u17d1g (x1 : Int) (g1_ : Nat) (o1_ : Nat) (g2_ : Nat) (o2_ : Nat) : List (Nat × ((Nat → Wt) → Value)) := [(2, fun u => .pointer (some ⟨g1_, o1_ + (x1).toNat * 1, none⟩)), (6, fun u => .pointer (some ⟨g2_, o2_ + (x1).toNat * 1, none⟩))]
noncomputable def u17d1q (a0 : List Int) (Ap0 : Option Addr) (cp0 : Nat) (a1 : List Int) (Ap1 : Option Addr) (cp1 : Nat) (x1 : Int) (g1_ : Nat) (o1_ : Nat) (g2_ : Nat) (o2_ : Nat) (u : Nat → Wt) : Option (List Value × List (Nat × Value) × List (Nat × Nat)) := qSim Try.prog [(⟨g1_, o1_ + (x1).toNat * 1, none⟩, .int .i64 (a0.getD (x1).toNat 0)), (⟨g2_, o2_ + (x1).toNat * 1, none⟩, .int .i64 (a1.getD (x1).toNat 0))] [] O17_29 ⟨26, []⟩ (Ld.vl u17d1l) (u17d1g x1 g1_ o1_ g2_ o2_) u [.no, .no, .no, .r 0, .no, .no, .no, .r 1] 0 (O17_29.take 8) [(14, .bool (decide (x1 < (a0.length : Int)))), (0, .slice Ap0 a0.length cp0), (1, .slice Ap1 a1.length cp1), (5, .int .i64 x1)]
noncomputable def u17d1s (a0 : List Int) (Ap0 : Option Addr) (cp0 : Nat) (a1 : List Int) (Ap1 : Option Addr) (cp1 : Nat) (x1 : Int) (g1_ : Nat) (o1_ : Nat) (g2_ : Nat) (o2_ : Nat) (u : Nat → Wt) : List Value := [.slice Ap0 a0.length cp0, .int .i64 x1, .pointer (some ⟨g1_, o1_ + (x1).toNat * 1, none⟩), .int .i64 (a0.getD (x1).toNat 0), .slice Ap1 a1.length cp1, .int .i64 x1, .pointer (some ⟨g2_, o2_ + (x1).toNat * 1, none⟩), .int .i64 (a1.getD (x1).toNat 0)]
noncomputable def u17d1f (a0 : List Int) (Ap0 : Option Addr) (cp0 : Nat) (a1 : List Int) (Ap1 : Option Addr) (cp1 : Nat) (x1 : Int) (g1_ : Nat) (o1_ : Nat) (g2_ : Nat) (o2_ : Nat) (i : Nat) (u : Nat → Wt) : List (Nat × Value) := foldPut ⟨26, []⟩ [(14, .bool (decide (x1 < (a0.length : Int)))), (0, .slice Ap0 a0.length cp0), (1, .slice Ap1 a1.length cp1), (5, .int .i64 x1)] (O17_29.take i) (((u17d1s a0 Ap0 cp0 a1 Ap1 cp1 x1 g1_ o1_ g2_ o2_) u).take i)
theorem u17d1v (a0 : List Int) (Ap0 : Option Addr) (cp0 : Nat) (a1 : List Int) (Ap1 : Option Addr) (cp1 : Nat) (x1 : Int) (g1_ : Nat) (o1_ : Nat) (g2_ : Nat) (o2_ : Nat) (u : Nat → Wt) : (u17d1q a0 Ap0 cp0 a1 Ap1 cp1 x1 g1_ o1_ g2_ o2_ u).map (fun x => (x.1, x.2.1)) = some ((u17d1s a0 Ap0 cp0 a1 Ap1 cp1 x1 g1_ o1_ g2_ o2_) u, (u17d1f a0 Ap0 cp0 a1 Ap1 cp1 x1 g1_ o1_ g2_ o2_ 8) u) := by kernel_rfl
theorem u17d1e (a0 : List Int) (Ap0 : Option Addr) (cp0 : Nat) (a1 : List Int) (Ap1 : Option Addr) (cp1 : Nat) (x1 : Int) (g1_ : Nat) (o1_ : Nat) (g2_ : Nat) (o2_ : Nat) (u : Nat → Wt) : (u17d1q a0 Ap0 cp0 a1 Ap1 cp1 x1 g1_ o1_ g2_ o2_ u).map (fun x => x.2.2.map (·.1)) = (u17d1q a0 Ap0 cp0 a1 Ap1 cp1 x1 g1_ o1_ g2_ o2_ u).map (fun x => x.2.2.map (·.2)) := by kernel_rfl
theorem armillaryref22_Same.calls (k : Nat) (I0 : Imm) (a0 : List Int) (Ap0 : Option Addr) (cp0 : Nat) (a1 : List Int) (Ap1 : Option Addr) (cp1 : Nat) (w : World) (hI : I0.at_ w) (hlp0 : a0.length ≤ cp0) (hrp0 : Rd (Ty.int .i64) I0 Ap0 a0) (hlp1 : a1.length ≤ cp1) (hrp1 : Rd (Ty.int .i64) I0 Ap1 a1) (r : Bool) (h : armillaryref22_Same.f k a0 a1 = some r) :
  Calls Try.prog 17 [.slice Ap0 a0.length cp0, .slice Ap1 a1.length cp1].toArray w fun e w' => ∃ v, e = .returned v ∧ armillaryref22_Same.Post I0 w r v w' := by
 have H : (if (a0.length : Int) ≠ (a1.length : Int) then (some false) else ((armillaryref22_Same.l1 a0 a1 k 0).bind (armillaryref22_Same.k1))) = some r := h
 clear h
 refine calls_body Try.func17 (by kernel_rfl) 26 (by kernel_rfl) (by kernel_rfl) ⟨w, fun _ => False, I0⟩ I0 [] [(0, .slice Ap0 a0.length cp0), (1, .slice Ap1 a1.length cp1)] (by kernel_rfl) (Sat.start w _ I0 hI) ?_
 generalize w.heap.size = nx0
 show OK _ K17_0 _ _ _ _ _ _ _ _
 refine OK.seq K17_1 K17_3 (by kernel_rfl) ?_
 refine OK.region 0 O17_1 (by kernel_rfl) ?_
 refine RL.simK (K' := [(0, .slice Ap0 a0.length cp0), (1, .slice Ap1 a1.length cp1)]) [] (RFacts.nil _ _ _) 1 [.no] (by kernel_rfl) (by kernel_rfl) ?_
 refine RL.nil (by kernel_rfl) ?_
 refine QN.then_ ?_
 refine OK.seq K17_4 K17_13 (by kernel_rfl) ?_
 refine OK.seq K17_5 K17_7 (by kernel_rfl) ?_
 refine OK.region 1 O17_5 (by kernel_rfl) ?_
 refine RL.simK (K' := [(10, .bool ((a0.length : Int) != (a1.length : Int))), (0, .slice Ap0 a0.length cp0), (1, .slice Ap1 a1.length cp1)]) [] (RFacts.nil _ _ _) 5 [.no, .no, .no, .no, .no] (by kernel_rfl) (by kernel_rfl) ?_
 refine RL.nil (by kernel_rfl) ?_
 refine QN.then_ ?_
 refine OK.cond (.tmp 10) K17_8 K17_12 ((a0.length : Int) != (a1.length : Int)) (by kernel_rfl) (by kernel_rfl) (by kernel_rfl) (fun hb => ?_) (fun hb => ?_)
 ·skip
  have hc := (bne_iff_ne.1 hb)
  rw [if_pos hc] at H
  clear hb
  refine OK.seq K17_9 K17_11 (by kernel_rfl) ?_
  refine OK.region 2 O17_9 (by kernel_rfl) ?_
  refine RL.simK (K' := [(4, .bool false)]) [] (RFacts.nil _ _ _) 1 [.no] (by kernel_rfl) (by kernel_rfl) ?_
  refine RL.nil (by kernel_rfl) ?_
  refine QN.then_ ?_
  refine OK.ret (by kernel_rfl) ?_
  refine QN.thenR ?_
  obtain rfl := Option.some.inj H
  refine QN.body rfl [] (RFacts.nil _ _ _) (.no) (.bool false) (by kernel_rfl) (by kernel_rfl) (by kernel_rfl) ?_ _ (.inr rfl)
  exact fun w' hs' => ⟨_, rfl, I0, rfl, hs'.got _ .slnil⟩
 ·skip
  have hc := (not_not_intro (bne_eq_false_iff_eq.1 hb))
  rw [if_neg hc] at H
  clear hb
  refine OK.skip (by kernel_rfl) ?_
  refine QN.then_ ?_
  refine OK.seq K17_14 K17_39 (by kernel_rfl) ?_
  refine OK.seq K17_15 K17_17 (by kernel_rfl) ?_
  refine OK.region 3 O17_15 (by kernel_rfl) ?_
  refine RL.simK (K' := [(5, .int .i64 0), (0, .slice Ap0 a0.length cp0), (1, .slice Ap1 a1.length cp1)]) [] (RFacts.nil _ _ _) 1 [.no] (by kernel_rfl) (by kernel_rfl) ?_
  refine RL.nil (by kernel_rfl) ?_
  refine QN.then_ ?_
  refine OK.join (fun K' I' _ L' X' => K' = [] ∧ L' = [] ∧ X' = [] ∧ Imm.le I0 I' ∧ armillaryref22_Same.k1 (Sum.inl ()) = some r) ?_ ?_
  ·rintro _ I1 nx1 _ _ ⟨rfl, rfl, rfl, hi1, H⟩
   replace H : (some true) = some r := H
   refine QN.then_ ?_
   refine OK.seq K17_40 K17_42 (by kernel_rfl) ?_
   refine OK.region 8 O17_40 (by kernel_rfl) ?_
   refine RL.simK (K' := [(4, .bool true)]) [] (RFacts.nil _ _ _) 1 [.no] (by kernel_rfl) (by kernel_rfl) ?_
   refine RL.nil (by kernel_rfl) ?_
   refine QN.then_ ?_
   refine OK.ret (by kernel_rfl) ?_
   obtain rfl := Option.some.inj H
   refine QN.body rfl [] (RFacts.nil _ _ _) (.no) (.bool true) (by kernel_rfl) (by kernel_rfl) (by kernel_rfl) ?_ _ (.inr rfl)
   exact fun w' hs' => ⟨_, rfl, I1, rfl, hs'.got _ .slnil⟩
  ·intro Q_1 hJ1 hQ1
   obtain ⟨y1, H, HK1⟩ := Option.bind_eq_some_iff.mp H
   refine OK.block 0 K17_18 (by kernel_rfl) ?_
   refine OK.sub (K' := [(0, .slice Ap0 a0.length cp0), (1, .slice Ap1 a1.length cp1), (5, .int .i64 0)]) (L' := []) (by kernel_rfl) .slnil (.refl _) ?_
   refine OK.loopInv K17_19 (by kernel_rfl) (fun n_ K' I' _ L' X' => ∃ (x1 : Int), K' = [(0, .slice Ap0 a0.length cp0), (1, .slice Ap1 a1.length cp1), (5, .int .i64 x1)] ∧ L' = [] ∧ X' = [] ∧ Imm.le I0 I' ∧ armillaryref22_Same.l1 a0 a1 n_ x1 = some y1) k ⟨0, rfl, rfl, rfl, (Imm.le_refl _), H⟩ ?_ ?_
   ·rintro _ _ _ _ _ ⟨x1, rfl, rfl, rfl, _, H⟩
    cases H
   ·rintro kq1 _ I2 nx2 _ _ ⟨x1, rfl, rfl, rfl, hi2, H⟩ Q_l1 hJ2 hQ2
    replace H : (if x1 < (a0.length : Int) then (if 0 ≤ x1 then (if x1 < (a0.length : Int) then (if 0 ≤ x1 then (if x1 < (a1.length : Int) then (if (a0.getD (x1).toNat 0) ≠ (a1.getD (x1).toNat 0) then (some (Sum.inr false)) else (armillaryref22_Same.l1 a0 a1 kq1 (W .i64 (x1 + 1)))) else none) else none) else none) else none) else (some (Sum.inl ()))) = some y1 := H
    refine OK.seq K17_20 K17_26 (by kernel_rfl) ?_
    refine OK.seq K17_21 K17_23 (by kernel_rfl) ?_
    refine OK.region 4 O17_21 (by kernel_rfl) ?_
    refine RL.simK (K' := [(14, .bool (decide (x1 < (a0.length : Int)))), (0, .slice Ap0 a0.length cp0), (1, .slice Ap1 a1.length cp1), (5, .int .i64 x1)]) [] (RFacts.nil _ _ _) 4 [.no, .no, .no, .no] (by kernel_rfl) (by kernel_rfl) ?_
    refine RL.nil (by kernel_rfl) ?_
    refine QN.then_ ?_
    refine OK.cond (.tmp 14) K17_24 K17_25 (decide (x1 < (a0.length : Int))) (by kernel_rfl) (by kernel_rfl) (by kernel_rfl) (fun hb => ?_) (fun hb => ?_)
    ·skip
     have hc := (of_decide_eq_true hb)
     rw [if_pos hc] at H
     clear hb
     refine OK.skip (by kernel_rfl) ?_
     refine QN.then_ ?_
     refine OK.seq K17_27 K17_37 (by kernel_rfl) ?_
     refine OK.block 1 K17_28 (by kernel_rfl) ?_
     refine OK.seq K17_29 K17_31 (by kernel_rfl) ?_
     by_cases hi0_1 : 0 ≤ x1
     case neg => rw [if_neg hi0_1] at H; cases H
     rw [if_pos hi0_1] at H
     by_cases hi1_1 : x1 < (a0.length : Int)
     case neg => rw [if_neg hi1_1] at H; cases H
     rw [if_pos hi1_1] at H
     obtain ⟨g1_, o1_, hA1_, hc1_⟩ := Ty.int_at (Rd.ext hi2 hrp0) x1 hi0_1 hi1_1
     by_cases hi0_2 : 0 ≤ x1
     case neg => rw [if_neg hi0_2] at H; cases H
     rw [if_pos hi0_2] at H
     by_cases hi1_2 : x1 < (a1.length : Int)
     case neg => rw [if_neg hi1_2] at H; cases H
     rw [if_pos hi1_2] at H
     obtain ⟨g2_, o2_, hA2_, hc2_⟩ := Ty.int_at (Rd.ext hi2 hrp1) x1 hi0_2 hi1_2
     refine OK.drawnC 6 8 O17_29 a17_29n (by kernel_rfl) (by kernel_rfl) u17d1l (u17d1g x1 g1_ o1_ g2_ o2_) [(⟨g1_, o1_ + (x1).toNat * 1, none⟩, .int .i64 (a0.getD (x1).toNat 0)), (⟨g2_, o2_ + (x1).toNat * 1, none⟩, .int .i64 (a1.getD (x1).toNat 0))] (RI.cons (hc1_ 0 _ rfl) (RI.cons (hc2_ 0 _ rfl) (RI.nil _))) [.no, .no, .no, .r 0, .no, .no, .no, .r 1] a17_29 a17_29o (by kernel_rfl) (by kernel_rfl) (u17d1s a0 Ap0 cp0 a1 Ap1 cp1 x1 g1_ o1_ g2_ o2_) (u17d1f a0 Ap0 cp0 a1 Ap1 cp1 x1 g1_ o1_ g2_ o2_ 8) (u17d1v a0 Ap0 cp0 a1 Ap1 cp1 x1 g1_ o1_ g2_ o2_) (u17d1e a0 Ap0 cp0 a1 Ap1 cp1 x1 g1_ o1_ g2_ o2_) [] framesOk.nil ?_ [u17d1f a0 Ap0 cp0 a1 Ap1 cp1 x1 g1_ o1_ g2_ o2_ 2, u17d1f a0 Ap0 cp0 a1 Ap1 cp1 x1 g1_ o1_ g2_ o2_ 6] (framesOk.cons (fun u => rfl) (framesOk.cons (fun u => rfl) framesOk.nil)) ?_ ?_
     ·refine LoudsG.nil
     ·refine Givens.cons (fun u w =>  ?_) (fun _ _ _ => rfl) (Givens.cons (fun u w =>  ?_) (fun _ _ _ => rfl) (Givens.nil))
      ·exact giv_idx (T := 23) (e := 3) 1 .i64 x1 hA1_ a0.length cp0 (by kernel_rfl) (by kernel_rfl) (by kernel_rfl) hi0_1 hi1_1 w
      ·exact giv_idx (T := 23) (e := 3) 1 .i64 x1 hA2_ a1.length cp1 (by kernel_rfl) (by kernel_rfl) (by kernel_rfl) hi0_2 hi1_2 w
     intro u I3 nx3 hi3 hF
     clear hF
     refine RL.norm (K' := [(24, .int .i64 (a1.getD (x1).toNat 0)), (23, .pointer (some ⟨g2_, o2_ + (x1).toNat * 1, none⟩)), (22, .int .i64 x1), (21, .slice Ap1 a1.length cp1), (20, .int .i64 (a0.getD (x1).toNat 0)), (19, .pointer (some ⟨g1_, o1_ + (x1).toNat * 1, none⟩)), (18, .int .i64 x1), (17, .slice Ap0 a0.length cp0), (14, .bool (decide (x1 < (a0.length : Int)))), (0, .slice Ap0 a0.length cp0), (1, .slice Ap1 a1.length cp1), (5, .int .i64 x1)]) (X' := []) (by kernel_rfl) rfl rfl rfl ?_
     refine RL.simK (K' := [(25, .bool ((a0.getD (x1).toNat 0) != (a1.getD (x1).toNat 0))), (0, .slice Ap0 a0.length cp0), (1, .slice Ap1 a1.length cp1), (5, .int .i64 x1)]) [] (RFacts.nil _ _ _) 1 [.no] (by kernel_rfl) (by kernel_rfl) ?_
     refine RL.nil (by kernel_rfl) ?_
     refine QN.then_ ?_
     refine OK.cond (.tmp 25) K17_32 K17_36 ((a0.getD (x1).toNat 0) != (a1.getD (x1).toNat 0)) (by kernel_rfl) (by kernel_rfl) (by kernel_rfl) (fun hb => ?_) (fun hb => ?_)
     ·skip
      have hc := (bne_iff_ne.1 hb)
      rw [if_pos hc] at H
      clear hb
      refine OK.seq K17_33 K17_35 (by kernel_rfl) ?_
      refine OK.region 7 O17_33 (by kernel_rfl) ?_
      refine RL.simK (K' := [(4, .bool false)]) [] (RFacts.nil _ _ _) 1 [.no] (by kernel_rfl) (by kernel_rfl) ?_
      refine RL.nil (by kernel_rfl) ?_
      refine QN.then_ ?_
      refine OK.ret (by kernel_rfl) ?_
      refine QN.blkR ?_
      refine QN.thenR ?_
      refine QN.outR hQ2 ?_
      refine QN.blkR ?_
      refine QN.outR hQ1 ?_
      refine QN.thenR ?_
      obtain rfl := Option.some.inj H
      replace H : some false = some r := HK1
      obtain rfl := Option.some.inj H
      refine QN.body rfl [] (RFacts.nil _ _ _) (.no) (.bool false) (by kernel_rfl) (by kernel_rfl) (by kernel_rfl) ?_ _ (.inr rfl)
      exact fun w' hs' => ⟨_, rfl, I3, rfl, hs'.got _ .slnil⟩
     ·skip
      have hc := (not_not_intro (bne_eq_false_iff_eq.1 hb))
      rw [if_neg hc] at H
      clear hb
      refine OK.skip (by kernel_rfl) ?_
      refine QN.blkN ?_
      refine QN.then_ ?_
      refine OK.region 5 O17_37 (by kernel_rfl) ?_
      refine RL.simK (K' := [(5, .int .i64 (W .i64 (x1 + 1))), (0, .slice Ap0 a0.length cp0), (1, .slice Ap1 a1.length cp1)]) [] (RFacts.nil _ _ _) 3 [.no, .no, .no] (by kernel_rfl) (by kernel_rfl) ?_
      refine RL.nil (by kernel_rfl) ?_
      refine QN.sub (K' := [(0, .slice Ap0 a0.length cp0), (1, .slice Ap1 a1.length cp1), (5, .int .i64 (W .i64 (x1 + 1)))]) (L' := []) (by kernel_rfl) .slnil (.refl _) ?_
      exact hJ2 _ _ _ _ _ ⟨W .i64 (x1 + 1), rfl, rfl, rfl, (Imm.le_trans hi2 hi3), H⟩
    ·skip
     have hc := (of_decide_eq_false hb)
     rw [if_neg hc] at H
     clear hb
     refine OK.exit 0 (by kernel_rfl) ?_
     refine QN.thenE ?_
     refine QN.outE hQ2 ?_
     refine QN.blkE ?_
     obtain rfl := Option.some.inj H
     refine QN.sub (K' := []) (L' := []) (by kernel_rfl) .slnil (.refl _) ?_
     exact hJ1 _ _ _ _ _ ⟨rfl, rfl, rfl, hi2, HK1⟩

end Go.Proofs.Ytdmhbcgmimfjcaa
namespace Go.Proofs.Ytdmhbcgmimfjcaa
open Go Go.Proofs.Ytdmhbcgmimfjcaa.RW
set_option linter.unusedVariables false
set_option maxRecDepth 100000
set_option maxHeartbeats 8000000

/-! ### armillarylaw22_sanity: function 10, armillary/armillarylaw22.sanity -/
noncomputable def K10_0 : Code := cBody Try.f10
noncomputable def K10_1 : Code := cL K10_0
noncomputable def O10_1 : List Oper := cOps K10_1
noncomputable def K10_3 : Code := cR K10_0
noncomputable def K10_4 : Code := cL K10_3
noncomputable def O10_4 : List Oper := cOps K10_4
noncomputable def K10_6 : Code := cR K10_3
noncomputable def K10_7 : Code := cL K10_6
noncomputable def O10_7 : List Oper := cOps K10_7
noncomputable def K10_9 : Code := cR K10_6
noncomputable def K10_10 : Code := cL K10_9
noncomputable def O10_10 : List Oper := cOps K10_10
noncomputable def K10_12 : Code := cR K10_9
noncomputable def K10_13 : Code := cL K10_12
noncomputable def O10_13 : List Oper := cOps K10_13
noncomputable def K10_15 : Code := cR K10_12
noncomputable def K10_16 : Code := cL K10_15
noncomputable def O10_16 : List Oper := cOps K10_16
noncomputable def K10_18 : Code := cR K10_15
noncomputable def K10_19 : Code := cL K10_18
noncomputable def O10_19 : List Oper := cOps K10_19
noncomputable def K10_21 : Code := cR K10_18
noncomputable def K10_22 : Code := cL K10_21
noncomputable def O10_22 : List Oper := cOps K10_22
noncomputable def K10_24 : Code := cR K10_21
noncomputable def K10_25 : Code := cL K10_24
noncomputable def O10_25 : List Oper := cOps K10_25
noncomputable def K10_27 : Code := cR K10_24
noncomputable def K10_28 : Code := cL K10_27
noncomputable def O10_28 : List Oper := cOps K10_28
noncomputable def K10_30 : Code := cR K10_27
noncomputable def K10_31 : Code := cL K10_30
noncomputable def O10_31 : List Oper := cOps K10_31
noncomputable def K10_33 : Code := cR K10_30
noncomputable def K10_34 : Code := cL K10_33
noncomputable def O10_34 : List Oper := cOps K10_34
noncomputable def K10_36 : Code := cR K10_33
def armillarylaw22_sanity.k1  (x1 : Bool) : Option (Bool) := (some x1)
def armillarylaw22_sanity.f (k : Nat)  : Option (Bool) := ((assign_Solve.f k [[3, 5], [4, 7]]).bind fun t1 => ((assign_Solve.f k [[5], [7]]).bind fun t2 => ((assign_Solve.f k [[0, 0], [0, 0]]).bind fun t3 => ((assign_Solve.f k []).bind fun t4 => ((assign_Value.f k [[3, 5], [4, 7]] [1, 0]).bind fun t5 => ((assign_Value.f k [[3, 5], [4, 7]] [(-1), 1]).bind fun t6 => ((assign_Value.f k [[3, 5], [4, 7]] [1, 1]).bind fun t7 => ((assign_Value.f k [[3, 5], [4, 7]] [1]).bind fun t8 => (((armillaryref22_Same.f k t1.1 [0, 1]).bind fun t9 => (if t9 = true then ((assign_VerifyDuals.f k [[3, 5], [4, 7]] t1.1 t1.2).bind fun t10 => (if t10 = true then ((armillaryref22_Same.f k t2.1 [(-1), 0]).bind fun t11 => (if t11 = true then ((armillaryref22_Same.f k t3.1 [0, 1]).bind fun t12 => (if t12 = true then (if (W .i64 ((W .i64 ((t4.1.length : Int) + (t4.2.f0.length : Int))) + (t4.2.f1.length : Int))) = 0 then (if t5.1 = 9 then (if t5.2 = true then (if t6.1 = 7 then (if t6.2 = true then (if t7.2 = true then (some false) else (if t8.2 = true then (some false) else ((assign_VerifyDuals.f k [[3, 5], [4, 7]] t1.1 (⟨[3, 5], [0, 2]⟩ : S26)).bind fun t13 => (if t13 = true then ((assign_VerifyDuals.f k [[3, 5], [4, 7]] t1.1 (⟨[3, 5], [0, 1]⟩ : S26)).bind fun t14 => (if t14 = true then (some false) else ((assign_VerifyDuals.f k [[3, 5], [4, 7]] t1.1 (⟨[4, 5], [0, 2]⟩ : S26)).bind fun t15 => (if t15 = true then (some false) else ((assign_VerifyDuals.f k [[3, 5], [4, 7]] [1, 0] (⟨[3, 5], [0, 2]⟩ : S26)).bind fun t16 => (if t16 = true then (some false) else ((assign_Valid.f k [[3, 5], [4, 7]]).bind fun t17 => (if t17 = true then ((assign_Valid.f k []).bind fun t18 => (if t18 = true then ((assign_Valid.f k [[1], []]).bind fun t19 => (if t19 = true then (some false) else ((assign_Valid.f k [[(-1)]]).bind fun t20 => (some (!t20))))) else (some false))) else (some false))))))))) else (some false))))) else (some false)) else (some false)) else (some false)) else (some false)) else (some false)) else (some false))) else (some false))) else (some false))) else (some false))).bind (armillarylaw22_sanity.k1))))))))))
def armillarylaw22_sanity.Post (I : Imm) (w : World) (r : Bool) (v : Value) (w' : World) : Prop :=
 ∃ (J : Imm), v = .bool r ∧ Got w w' I J []
theorem armillarylaw22_sanity.calls (k : Nat) (I0 : Imm)  (w : World) (hI : I0.at_ w)  (r : Bool) (h : armillarylaw22_sanity.f k  = some r) :
  Calls Try.prog 10 [].toArray w fun e w' => ∃ v, e = .returned v ∧ armillarylaw22_sanity.Post I0 w r v w' := by
 have H : ((assign_Solve.f k [[3, 5], [4, 7]]).bind fun t1 => ((assign_Solve.f k [[5], [7]]).bind fun t2 => ((assign_Solve.f k [[0, 0], [0, 0]]).bind fun t3 => ((assign_Solve.f k []).bind fun t4 => ((assign_Value.f k [[3, 5], [4, 7]] [1, 0]).bind fun t5 => ((assign_Value.f k [[3, 5], [4, 7]] [(-1), 1]).bind fun t6 => ((assign_Value.f k [[3, 5], [4, 7]] [1, 1]).bind fun t7 => ((assign_Value.f k [[3, 5], [4, 7]] [1]).bind fun t8 => (((armillaryref22_Same.f k t1.1 [0, 1]).bind fun t9 => (if t9 = true then ((assign_VerifyDuals.f k [[3, 5], [4, 7]] t1.1 t1.2).bind fun t10 => (if t10 = true then ((armillaryref22_Same.f k t2.1 [(-1), 0]).bind fun t11 => (if t11 = true then ((armillaryref22_Same.f k t3.1 [0, 1]).bind fun t12 => (if t12 = true then (if (W .i64 ((W .i64 ((t4.1.length : Int) + (t4.2.f0.length : Int))) + (t4.2.f1.length : Int))) = 0 then (if t5.1 = 9 then (if t5.2 = true then (if t6.1 = 7 then (if t6.2 = true then (if t7.2 = true then (some false) else (if t8.2 = true then (some false) else ((assign_VerifyDuals.f k [[3, 5], [4, 7]] t1.1 (⟨[3, 5], [0, 2]⟩ : S26)).bind fun t13 => (if t13 = true then ((assign_VerifyDuals.f k [[3, 5], [4, 7]] t1.1 (⟨[3, 5], [0, 1]⟩ : S26)).bind fun t14 => (if t14 = true then (some false) else ((assign_VerifyDuals.f k [[3, 5], [4, 7]] t1.1 (⟨[4, 5], [0, 2]⟩ : S26)).bind fun t15 => (if t15 = true then (some false) else ((assign_VerifyDuals.f k [[3, 5], [4, 7]] [1, 0] (⟨[3, 5], [0, 2]⟩ : S26)).bind fun t16 => (if t16 = true then (some false) else ((assign_Valid.f k [[3, 5], [4, 7]]).bind fun t17 => (if t17 = true then ((assign_Valid.f k []).bind fun t18 => (if t18 = true then ((assign_Valid.f k [[1], []]).bind fun t19 => (if t19 = true then (some false) else ((assign_Valid.f k [[(-1)]]).bind fun t20 => (some (!t20))))) else (some false))) else (some false))))))))) else (some false))))) else (some false)) else (some false)) else (some false)) else (some false)) else (some false)) else (some false))) else (some false))) else (some false))) else (some false))).bind (armillarylaw22_sanity.k1)))))))))) = some r := h
 clear h
 refine calls_body Try.func10 (by kernel_rfl) 179 (by kernel_rfl) (by kernel_rfl) ⟨w, fun _ => False, I0⟩ I0 [] [] (by kernel_rfl) (Sat.start w _ I0 hI) ?_
 generalize w.heap.size = nx0
 show OK _ K10_0 _ _ _ _ _ _ _ _
 refine OK.seq K10_1 K10_3 (by kernel_rfl) ?_
 refine OK.region 0 O10_1 (by kernel_rfl) ?_
 refine RL.simK (K' := []) [] (RFacts.nil _ _ _) 1 [.no] (by kernel_rfl) (by kernel_rfl) ?_
 refine RL.nil (by kernel_rfl) ?_
 refine QN.then_ ?_
 refine OK.seq K10_4 K10_6 (by kernel_rfl) ?_
 refine OK.region 1 O10_4 (by kernel_rfl) ?_
 refine RL.simP (K' := [(1, .slice (some ⟨nx0 + 2, 0, none⟩) 2 2)]) (nx' := nx0 + 3) (L' := [⟨nx0, [.int .i64 3, .int .i64 5], 2⟩, ⟨nx0 + 1, [.int .i64 4, .int .i64 7], 2⟩, ⟨nx0 + 2, [.slice (some ⟨nx0, 0, none⟩) 2 2, .slice (some ⟨nx0 + 1, 0, none⟩) 2 2], 24⟩]) [] (RFacts.nil _ _ _) 4 [.no, .no, .no, .no] (by kernel_rfl) (by kernel_rfl) ?_
 refine RL.nil (by kernel_rfl) ?_
 refine QN.then_ ?_
 refine OK.seq K10_7 K10_9 (by kernel_rfl) ?_
 refine OK.region 2 O10_7 (by kernel_rfl) ?_
 refine RL.simK (K' := [(23, .slice (some ⟨nx0 + 2, 0, none⟩) 2 2), (1, .slice (some ⟨nx0 + 2, 0, none⟩) 2 2)]) [] (RFacts.nil _ _ _) 1 [.no] (by kernel_rfl) (by kernel_rfl) ?_
 refine RL.freezeL (d := (Ty.int .i64)) (xs := [3, 5]) (b := ⟨nx0, [.int .i64 3, .int .i64 5], 2⟩) 0 (by kernel_rfl) ⟨_, _, rfl, rfl, ⟨_, _, rfl, rfl, rfl⟩⟩ (Nat.le_of_ble_eq_true rfl) (fun I1 hi1 hr1 => ?_)
 refine RL.freezeL (d := (Ty.int .i64)) (xs := [4, 7]) (b := ⟨nx0 + 1, [.int .i64 4, .int .i64 7], 2⟩) 0 (by kernel_rfl) ⟨_, _, rfl, rfl, ⟨_, _, rfl, rfl, rfl⟩⟩ (Nat.le_of_ble_eq_true rfl) (fun I2 hi2 hr2 => ?_)
 refine RL.freezeL (d := (Ty.slice (Ty.int .i64))) (xs := [[3, 5], [4, 7]]) (b := ⟨nx0 + 2, [.slice (some ⟨nx0, 0, none⟩) 2 2, .slice (some ⟨nx0 + 1, 0, none⟩) 2 2], 24⟩) 0 (by kernel_rfl) ⟨_, _, rfl, ⟨_, _, rfl, (Nat.le_of_ble_eq_true rfl), (Rd.ext hi2 hr1)⟩, ⟨_, _, rfl, ⟨_, _, rfl, (Nat.le_of_ble_eq_true rfl), hr2⟩, rfl⟩⟩ (Nat.le_of_ble_eq_true rfl) (fun I3 hi3 hr3 => ?_)
 obtain ⟨t1, hA1, H⟩ := Option.bind_eq_some_iff.mp H
 refine RL.callP 14 [.slice (some ⟨nx0 + 2, 0, none⟩) 2 2] (some 24) (fun w => assign_Solve.Post I3 w t1) (by kernel_rfl) (by kernel_rfl) (fun w hs => assign_Solve.calls k I3 [[3, 5], [4, 7]] (some ⟨nx0 + 2, 0, none⟩) 2 w hs.im (Nat.le_of_ble_eq_true rfl) hr3 t1 hA1) ?_
 rintro w v w' hs ⟨I4, A1, c1, cs1, A2, c2, cs2, A3, c3, cs3, rfl, hg, hp1, hp2, hp3⟩
 have hi4 := hg.le
 refine RL.resume (X' := [orow 3 1 A1 t1.1.length c1 cs1, orow 2 1 A2 t1.2.f0.length c2 cs2, orow 2 1 A3 t1.2.f1.length c3 cs3]) rfl (hs.call hg) ?_
 clear hs hg
 generalize w'.heap.size = nx1
 clear w w'
 refine RL.freeze (e := 2) (sz := 1) (S := A2) (n := t1.2.f0.length) (cap := c2) 1 (by kernel_rfl) hp2 rfl (fun I5 hi5 hl1 hr4 => ?_)
 skip
 refine RL.freeze (e := 2) (sz := 1) (S := A3) (n := t1.2.f1.length) (cap := c3) 1 (by kernel_rfl) (Reps.ext hi5 hp3) rfl (fun I6 hi6 hl2 hr5 => ?_)
 skip
 refine RL.simP (K' := [(2, .slice A1 t1.1.length c1), (3, .pointer (some ⟨nx1, 0, none⟩)), (1, .slice (some ⟨nx0 + 2, 0, none⟩) 2 2)]) (nx' := nx1 + 1) (L' := [⟨nx1, [.slice A2 t1.2.f0.length c2, .slice A3 t1.2.f1.length c3], 26⟩]) [] (RFacts.nil _ _ _) 6 [.no, .no, .no, .no, .no, .l 0] (by kernel_rfl) (by kernel_rfl) ?_
 refine RL.nil (by kernel_rfl) ?_
 refine QN.then_ ?_
 refine OK.seq K10_10 K10_12 (by kernel_rfl) ?_
 refine OK.region 3 O10_10 (by kernel_rfl) ?_
 refine RL.simP (K' := [(4, .slice (some ⟨nx1 + 3, 0, none⟩) 2 2), (2, .slice A1 t1.1.length c1), (3, .pointer (some ⟨nx1, 0, none⟩)), (1, .slice (some ⟨nx0 + 2, 0, none⟩) 2 2)]) (nx' := nx1 + 4) (L' := [⟨nx1, [.slice A2 t1.2.f0.length c2, .slice A3 t1.2.f1.length c3], 26⟩, ⟨nx1 + 1, [.int .i64 5], 2⟩, ⟨nx1 + 2, [.int .i64 7], 2⟩, ⟨nx1 + 3, [.slice (some ⟨nx1 + 1, 0, none⟩) 1 1, .slice (some ⟨nx1 + 2, 0, none⟩) 1 1], 24⟩]) [] (RFacts.nil _ _ _) 4 [.no, .no, .no, .no] (by kernel_rfl) (by kernel_rfl) ?_
 refine RL.nil (by kernel_rfl) ?_
 refine QN.then_ ?_
 refine OK.seq K10_13 K10_15 (by kernel_rfl) ?_
 refine OK.region 4 O10_13 (by kernel_rfl) ?_
 refine RL.simK (K' := [(31, .slice (some ⟨nx1 + 3, 0, none⟩) 2 2), (2, .slice A1 t1.1.length c1), (3, .pointer (some ⟨nx1, 0, none⟩)), (1, .slice (some ⟨nx0 + 2, 0, none⟩) 2 2)]) [] (RFacts.nil _ _ _) 1 [.no] (by kernel_rfl) (by kernel_rfl) ?_
 refine RL.freezeL (d := (Ty.int .i64)) (xs := [5]) (b := ⟨nx1 + 1, [.int .i64 5], 2⟩) 1 (by kernel_rfl) ⟨_, _, rfl, rfl, rfl⟩ (Nat.le_of_ble_eq_true rfl) (fun I7 hi7 hr6 => ?_)
 refine RL.freezeL (d := (Ty.int .i64)) (xs := [7]) (b := ⟨nx1 + 2, [.int .i64 7], 2⟩) 1 (by kernel_rfl) ⟨_, _, rfl, rfl, rfl⟩ (Nat.le_of_ble_eq_true rfl) (fun I8 hi8 hr7 => ?_)
 refine RL.freezeL (d := (Ty.slice (Ty.int .i64))) (xs := [[5], [7]]) (b := ⟨nx1 + 3, [.slice (some ⟨nx1 + 1, 0, none⟩) 1 1, .slice (some ⟨nx1 + 2, 0, none⟩) 1 1], 24⟩) 1 (by kernel_rfl) ⟨_, _, rfl, ⟨_, _, rfl, (Nat.le_of_ble_eq_true rfl), (Rd.ext hi8 hr6)⟩, ⟨_, _, rfl, ⟨_, _, rfl, (Nat.le_of_ble_eq_true rfl), hr7⟩, rfl⟩⟩ (Nat.le_of_ble_eq_true rfl) (fun I9 hi9 hr8 => ?_)
 obtain ⟨t2, hA2, H⟩ := Option.bind_eq_some_iff.mp H
 refine RL.callP 14 [.slice (some ⟨nx1 + 3, 0, none⟩) 2 2] (some 32) (fun w => assign_Solve.Post I9 w t2) (by kernel_rfl) (by kernel_rfl) (fun w hs => assign_Solve.calls k I9 [[5], [7]] (some ⟨nx1 + 3, 0, none⟩) 2 w hs.im (Nat.le_of_ble_eq_true rfl) hr8 t2 hA2) ?_
 rintro w v w' hs ⟨I10, A4, c4, cs4, A5, c5, cs5, A6, c6, cs6, rfl, hg, hp4, hp5, hp6⟩
 have hi10 := hg.le
 refine RL.resume (X' := [orow 3 1 A1 t1.1.length c1 cs1, orow 3 1 A4 t2.1.length c4 cs4, orow 2 1 A5 t2.2.f0.length c5 cs5, orow 2 1 A6 t2.2.f1.length c6 cs6]) rfl (hs.call hg) ?_
 clear hs hg
 generalize w'.heap.size = nx2
 clear w w'
 refine RL.freeze (e := 2) (sz := 1) (S := A5) (n := t2.2.f0.length) (cap := c5) 2 (by kernel_rfl) hp5 rfl (fun I11 hi11 hl3 hr9 => ?_)
 skip
 refine RL.freeze (e := 2) (sz := 1) (S := A6) (n := t2.2.f1.length) (cap := c6) 2 (by kernel_rfl) (Reps.ext hi11 hp6) rfl (fun I12 hi12 hl4 hr10 => ?_)
 skip
 refine RL.simP (K' := [(5, .slice A4 t2.1.length c4), (2, .slice A1 t1.1.length c1), (3, .pointer (some ⟨nx1, 0, none⟩)), (1, .slice (some ⟨nx0 + 2, 0, none⟩) 2 2)]) (nx' := nx2 + 1) (L' := [⟨nx1, [.slice A2 t1.2.f0.length c2, .slice A3 t1.2.f1.length c3], 26⟩, ⟨nx2, [.slice A5 t2.2.f0.length c5, .slice A6 t2.2.f1.length c6], 26⟩]) [] (RFacts.nil _ _ _) 6 [.no, .no, .no, .no, .no, .l 1] (by kernel_rfl) (by kernel_rfl) ?_
 refine RL.nil (by kernel_rfl) ?_
 refine QN.then_ ?_
 refine OK.seq K10_16 K10_18 (by kernel_rfl) ?_
 refine OK.region 5 O10_16 (by kernel_rfl) ?_
 refine RL.simP (K' := [(38, .slice (some ⟨nx2 + 3, 0, none⟩) 2 2), (5, .slice A4 t2.1.length c4), (2, .slice A1 t1.1.length c1), (3, .pointer (some ⟨nx1, 0, none⟩)), (1, .slice (some ⟨nx0 + 2, 0, none⟩) 2 2)]) (nx' := nx2 + 4) (L' := [⟨nx1, [.slice A2 t1.2.f0.length c2, .slice A3 t1.2.f1.length c3], 26⟩, ⟨nx2, [.slice A5 t2.2.f0.length c5, .slice A6 t2.2.f1.length c6], 26⟩, ⟨nx2 + 1, [.int .i64 0, .int .i64 0], 2⟩, ⟨nx2 + 2, [.int .i64 0, .int .i64 0], 2⟩, ⟨nx2 + 3, [.slice (some ⟨nx2 + 1, 0, none⟩) 2 2, .slice (some ⟨nx2 + 2, 0, none⟩) 2 2], 24⟩]) [] (RFacts.nil _ _ _) 3 [.no, .no, .no] (by kernel_rfl) (by kernel_rfl) ?_
 refine RL.freezeL (d := (Ty.int .i64)) (xs := [0, 0]) (b := ⟨nx2 + 1, [.int .i64 0, .int .i64 0], 2⟩) 2 (by kernel_rfl) ⟨_, _, rfl, rfl, ⟨_, _, rfl, rfl, rfl⟩⟩ (Nat.le_of_ble_eq_true rfl) (fun I13 hi13 hr11 => ?_)
 refine RL.freezeL (d := (Ty.int .i64)) (xs := [0, 0]) (b := ⟨nx2 + 2, [.int .i64 0, .int .i64 0], 2⟩) 2 (by kernel_rfl) ⟨_, _, rfl, rfl, ⟨_, _, rfl, rfl, rfl⟩⟩ (Nat.le_of_ble_eq_true rfl) (fun I14 hi14 hr12 => ?_)
 refine RL.freezeL (d := (Ty.slice (Ty.int .i64))) (xs := [[0, 0], [0, 0]]) (b := ⟨nx2 + 3, [.slice (some ⟨nx2 + 1, 0, none⟩) 2 2, .slice (some ⟨nx2 + 2, 0, none⟩) 2 2], 24⟩) 2 (by kernel_rfl) ⟨_, _, rfl, ⟨_, _, rfl, (Nat.le_of_ble_eq_true rfl), (Rd.ext hi14 hr11)⟩, ⟨_, _, rfl, ⟨_, _, rfl, (Nat.le_of_ble_eq_true rfl), hr12⟩, rfl⟩⟩ (Nat.le_of_ble_eq_true rfl) (fun I15 hi15 hr13 => ?_)
 obtain ⟨t3, hA3, H⟩ := Option.bind_eq_some_iff.mp H
 refine RL.callP 14 [.slice (some ⟨nx2 + 3, 0, none⟩) 2 2] (some 39) (fun w => assign_Solve.Post I15 w t3) (by kernel_rfl) (by kernel_rfl) (fun w hs => assign_Solve.calls k I15 [[0, 0], [0, 0]] (some ⟨nx2 + 3, 0, none⟩) 2 w hs.im (Nat.le_of_ble_eq_true rfl) hr13 t3 hA3) ?_
 rintro w v w' hs ⟨I16, A7, c7, cs7, A8, c8, cs8, A9, c9, cs9, rfl, hg, hp7, hp8, hp9⟩
 have hi16 := hg.le
 refine RL.resume (X' := [orow 3 1 A1 t1.1.length c1 cs1, orow 3 1 A4 t2.1.length c4 cs4, orow 3 1 A7 t3.1.length c7 cs7, orow 2 1 A8 t3.2.f0.length c8 cs8, orow 2 1 A9 t3.2.f1.length c9 cs9]) rfl (hs.call hg) ?_
 clear hs hg
 generalize w'.heap.size = nx3
 clear w w'
 refine RL.freeze (e := 2) (sz := 1) (S := A8) (n := t3.2.f0.length) (cap := c8) 3 (by kernel_rfl) hp8 rfl (fun I17 hi17 hl5 hr14 => ?_)
 skip
 refine RL.freeze (e := 2) (sz := 1) (S := A9) (n := t3.2.f1.length) (cap := c9) 3 (by kernel_rfl) (Reps.ext hi17 hp9) rfl (fun I18 hi18 hl6 hr15 => ?_)
 skip
 refine RL.simP (K' := [(7, .slice A7 t3.1.length c7), (5, .slice A4 t2.1.length c4), (2, .slice A1 t1.1.length c1), (3, .pointer (some ⟨nx1, 0, none⟩)), (1, .slice (some ⟨nx0 + 2, 0, none⟩) 2 2)]) (nx' := nx3 + 1) (L' := [⟨nx1, [.slice A2 t1.2.f0.length c2, .slice A3 t1.2.f1.length c3], 26⟩, ⟨nx2, [.slice A5 t2.2.f0.length c5, .slice A6 t2.2.f1.length c6], 26⟩, ⟨nx3, [.slice A8 t3.2.f0.length c8, .slice A9 t3.2.f1.length c9], 26⟩]) [] (RFacts.nil _ _ _) 6 [.no, .no, .no, .no, .no, .l 2] (by kernel_rfl) (by kernel_rfl) ?_
 refine RL.nil (by kernel_rfl) ?_
 refine QN.then_ ?_
 refine OK.seq K10_19 K10_21 (by kernel_rfl) ?_
 refine OK.region 6 O10_19 (by kernel_rfl) ?_
 obtain ⟨t4, hA4, H⟩ := Option.bind_eq_some_iff.mp H
 refine RL.callP 14 [.slice none 0 0] (some 43) (fun w => assign_Solve.Post I18 w t4) (by kernel_rfl) (by kernel_rfl) (fun w hs => assign_Solve.calls k I18 [] none 0 w hs.im (Nat.le_refl _) (Rd.nil _ _ _) t4 hA4) ?_
 rintro w v w' hs ⟨I19, A10, c10, cs10, A11, c11, cs11, A12, c12, cs12, rfl, hg, hp10, hp11, hp12⟩
 have hi19 := hg.le
 refine RL.resume (X' := [orow 3 1 A1 t1.1.length c1 cs1, orow 3 1 A4 t2.1.length c4 cs4, orow 3 1 A7 t3.1.length c7 cs7, orow 3 1 A10 t4.1.length c10 cs10, orow 2 1 A11 t4.2.f0.length c11 cs11, orow 2 1 A12 t4.2.f1.length c12 cs12]) rfl (hs.call hg) ?_
 clear hs hg
 generalize w'.heap.size = nx4
 clear w w'
 refine RL.freeze (e := 2) (sz := 1) (S := A11) (n := t4.2.f0.length) (cap := c11) 4 (by kernel_rfl) hp11 rfl (fun I20 hi20 hl7 hr16 => ?_)
 skip
 refine RL.freeze (e := 2) (sz := 1) (S := A12) (n := t4.2.f1.length) (cap := c12) 4 (by kernel_rfl) (Reps.ext hi20 hp12) rfl (fun I21 hi21 hl8 hr17 => ?_)
 skip
 refine RL.simP (K' := [(9, .slice A10 t4.1.length c10), (10, .pointer (some ⟨nx4, 0, none⟩)), (7, .slice A7 t3.1.length c7), (5, .slice A4 t2.1.length c4), (2, .slice A1 t1.1.length c1), (3, .pointer (some ⟨nx1, 0, none⟩)), (1, .slice (some ⟨nx0 + 2, 0, none⟩) 2 2)]) (nx' := nx4 + 1) (L' := [⟨nx1, [.slice A2 t1.2.f0.length c2, .slice A3 t1.2.f1.length c3], 26⟩, ⟨nx2, [.slice A5 t2.2.f0.length c5, .slice A6 t2.2.f1.length c6], 26⟩, ⟨nx3, [.slice A8 t3.2.f0.length c8, .slice A9 t3.2.f1.length c9], 26⟩, ⟨nx4, [.slice A11 t4.2.f0.length c11, .slice A12 t4.2.f1.length c12], 26⟩]) [] (RFacts.nil _ _ _) 6 [.no, .no, .no, .no, .no, .l 3] (by kernel_rfl) (by kernel_rfl) ?_
 refine RL.nil (by kernel_rfl) ?_
 refine QN.then_ ?_
 refine OK.seq K10_22 K10_24 (by kernel_rfl) ?_
 refine OK.region 7 O10_22 (by kernel_rfl) ?_
 refine RL.simP (K' := [(48, .slice (some ⟨nx4 + 1, 0, none⟩) 2 2), (47, .slice (some ⟨nx0 + 2, 0, none⟩) 2 2), (9, .slice A10 t4.1.length c10), (10, .pointer (some ⟨nx4, 0, none⟩)), (7, .slice A7 t3.1.length c7), (5, .slice A4 t2.1.length c4), (2, .slice A1 t1.1.length c1), (3, .pointer (some ⟨nx1, 0, none⟩)), (1, .slice (some ⟨nx0 + 2, 0, none⟩) 2 2)]) (nx' := nx4 + 2) (L' := [⟨nx1, [.slice A2 t1.2.f0.length c2, .slice A3 t1.2.f1.length c3], 26⟩, ⟨nx2, [.slice A5 t2.2.f0.length c5, .slice A6 t2.2.f1.length c6], 26⟩, ⟨nx3, [.slice A8 t3.2.f0.length c8, .slice A9 t3.2.f1.length c9], 26⟩, ⟨nx4, [.slice A11 t4.2.f0.length c11, .slice A12 t4.2.f1.length c12], 26⟩, ⟨nx4 + 1, [.int .i64 1, .int .i64 0], 3⟩]) [] (RFacts.nil _ _ _) 2 [.no, .no] (by kernel_rfl) (by kernel_rfl) ?_
 refine RL.freezeL (d := (Ty.int .i64)) (xs := [1, 0]) (b := ⟨nx4 + 1, [.int .i64 1, .int .i64 0], 3⟩) 4 (by kernel_rfl) ⟨_, _, rfl, rfl, ⟨_, _, rfl, rfl, rfl⟩⟩ (Nat.le_of_ble_eq_true rfl) (fun I22 hi22 hr18 => ?_)
 obtain ⟨t5, hA5, H⟩ := Option.bind_eq_some_iff.mp H
 refine RL.callP 15 [.slice (some ⟨nx0 + 2, 0, none⟩) 2 2, .slice (some ⟨nx4 + 1, 0, none⟩) 2 2] (some 49) (fun w => assign_Value.Post I22 w t5) (by kernel_rfl) (by kernel_rfl) (fun w hs => assign_Value.calls k I22 [[3, 5], [4, 7]] (some ⟨nx0 + 2, 0, none⟩) 2 [1, 0] (some ⟨nx4 + 1, 0, none⟩) 2 w hs.im (Nat.le_of_ble_eq_true rfl) (Rd.ext (Imm.le_trans (Imm.le_trans (Imm.le_trans (Imm.le_trans (Imm.le_trans (Imm.le_trans (Imm.le_trans (Imm.le_trans (Imm.le_trans (Imm.le_trans (Imm.le_trans (Imm.le_trans (Imm.le_trans (Imm.le_trans (Imm.le_trans (Imm.le_trans (Imm.le_trans (Imm.le_trans hi4 hi5) hi6) hi7) hi8) hi9) hi10) hi11) hi12) hi13) hi14) hi15) hi16) hi17) hi18) hi19) hi20) hi21) hi22) hr3) (Nat.le_of_ble_eq_true rfl) hr18 t5 hA5) ?_
 rintro w v w' hs ⟨I23, rfl, hg⟩
 have hi23 := hg.le
 refine RL.resume (X' := [orow 3 1 A1 t1.1.length c1 cs1, orow 3 1 A4 t2.1.length c4 cs4, orow 3 1 A7 t3.1.length c7 cs7, orow 3 1 A10 t4.1.length c10 cs10]) rfl (hs.call hg) ?_
 clear hs hg
 generalize w'.heap.size = nx5
 clear w w'
 refine RL.simK (K' := [(12, .bool t5.2), (11, .int .i64 t5.1), (9, .slice A10 t4.1.length c10), (10, .pointer (some ⟨nx4, 0, none⟩)), (7, .slice A7 t3.1.length c7), (5, .slice A4 t2.1.length c4), (2, .slice A1 t1.1.length c1), (3, .pointer (some ⟨nx1, 0, none⟩)), (1, .slice (some ⟨nx0 + 2, 0, none⟩) 2 2)]) [] (RFacts.nil _ _ _) 5 [.no, .no, .no, .no, .no] (by kernel_rfl) (by kernel_rfl) ?_
 refine RL.nil (by kernel_rfl) ?_
 refine QN.then_ ?_
 refine OK.seq K10_25 K10_27 (by kernel_rfl) ?_
 refine OK.region 8 O10_25 (by kernel_rfl) ?_
 refine RL.simP (K' := [(54, .slice (some ⟨nx5, 0, none⟩) 2 2), (53, .slice (some ⟨nx0 + 2, 0, none⟩) 2 2), (12, .bool t5.2), (11, .int .i64 t5.1), (9, .slice A10 t4.1.length c10), (10, .pointer (some ⟨nx4, 0, none⟩)), (7, .slice A7 t3.1.length c7), (5, .slice A4 t2.1.length c4), (2, .slice A1 t1.1.length c1), (3, .pointer (some ⟨nx1, 0, none⟩)), (1, .slice (some ⟨nx0 + 2, 0, none⟩) 2 2)]) (nx' := nx5 + 1) (L' := [⟨nx1, [.slice A2 t1.2.f0.length c2, .slice A3 t1.2.f1.length c3], 26⟩, ⟨nx2, [.slice A5 t2.2.f0.length c5, .slice A6 t2.2.f1.length c6], 26⟩, ⟨nx3, [.slice A8 t3.2.f0.length c8, .slice A9 t3.2.f1.length c9], 26⟩, ⟨nx4, [.slice A11 t4.2.f0.length c11, .slice A12 t4.2.f1.length c12], 26⟩, ⟨nx5, [.int .i64 (-1), .int .i64 1], 3⟩]) [] (RFacts.nil _ _ _) 2 [.no, .no] (by kernel_rfl) (by kernel_rfl) ?_
 refine RL.freezeL (d := (Ty.int .i64)) (xs := [(-1), 1]) (b := ⟨nx5, [.int .i64 (-1), .int .i64 1], 3⟩) 4 (by kernel_rfl) ⟨_, _, rfl, rfl, ⟨_, _, rfl, rfl, rfl⟩⟩ (Nat.le_of_ble_eq_true rfl) (fun I24 hi24 hr19 => ?_)
 obtain ⟨t6, hA6, H⟩ := Option.bind_eq_some_iff.mp H
 refine RL.callP 15 [.slice (some ⟨nx0 + 2, 0, none⟩) 2 2, .slice (some ⟨nx5, 0, none⟩) 2 2] (some 55) (fun w => assign_Value.Post I24 w t6) (by kernel_rfl) (by kernel_rfl) (fun w hs => assign_Value.calls k I24 [[3, 5], [4, 7]] (some ⟨nx0 + 2, 0, none⟩) 2 [(-1), 1] (some ⟨nx5, 0, none⟩) 2 w hs.im (Nat.le_of_ble_eq_true rfl) (Rd.ext (Imm.le_trans (Imm.le_trans (Imm.le_trans (Imm.le_trans (Imm.le_trans (Imm.le_trans (Imm.le_trans (Imm.le_trans (Imm.le_trans (Imm.le_trans (Imm.le_trans (Imm.le_trans (Imm.le_trans (Imm.le_trans (Imm.le_trans (Imm.le_trans (Imm.le_trans (Imm.le_trans (Imm.le_trans (Imm.le_trans hi4 hi5) hi6) hi7) hi8) hi9) hi10) hi11) hi12) hi13) hi14) hi15) hi16) hi17) hi18) hi19) hi20) hi21) hi22) hi23) hi24) hr3) (Nat.le_of_ble_eq_true rfl) hr19 t6 hA6) ?_
 rintro w v w' hs ⟨I25, rfl, hg⟩
 have hi25 := hg.le
 refine RL.resume (X' := [orow 3 1 A1 t1.1.length c1 cs1, orow 3 1 A4 t2.1.length c4 cs4, orow 3 1 A7 t3.1.length c7 cs7, orow 3 1 A10 t4.1.length c10 cs10]) rfl (hs.call hg) ?_
 clear hs hg
 generalize w'.heap.size = nx6
 clear w w'
 refine RL.simK (K' := [(14, .bool t6.2), (13, .int .i64 t6.1), (12, .bool t5.2), (11, .int .i64 t5.1), (9, .slice A10 t4.1.length c10), (10, .pointer (some ⟨nx4, 0, none⟩)), (7, .slice A7 t3.1.length c7), (5, .slice A4 t2.1.length c4), (2, .slice A1 t1.1.length c1), (3, .pointer (some ⟨nx1, 0, none⟩)), (1, .slice (some ⟨nx0 + 2, 0, none⟩) 2 2)]) [] (RFacts.nil _ _ _) 5 [.no, .no, .no, .no, .no] (by kernel_rfl) (by kernel_rfl) ?_
 refine RL.nil (by kernel_rfl) ?_
 refine QN.then_ ?_
 refine OK.seq K10_28 K10_30 (by kernel_rfl) ?_
 refine OK.region 9 O10_28 (by kernel_rfl) ?_
 refine RL.simP (K' := [(60, .slice (some ⟨nx6, 0, none⟩) 2 2), (59, .slice (some ⟨nx0 + 2, 0, none⟩) 2 2), (14, .bool t6.2), (13, .int .i64 t6.1), (12, .bool t5.2), (11, .int .i64 t5.1), (9, .slice A10 t4.1.length c10), (10, .pointer (some ⟨nx4, 0, none⟩)), (7, .slice A7 t3.1.length c7), (5, .slice A4 t2.1.length c4), (2, .slice A1 t1.1.length c1), (3, .pointer (some ⟨nx1, 0, none⟩)), (1, .slice (some ⟨nx0 + 2, 0, none⟩) 2 2)]) (nx' := nx6 + 1) (L' := [⟨nx1, [.slice A2 t1.2.f0.length c2, .slice A3 t1.2.f1.length c3], 26⟩, ⟨nx2, [.slice A5 t2.2.f0.length c5, .slice A6 t2.2.f1.length c6], 26⟩, ⟨nx3, [.slice A8 t3.2.f0.length c8, .slice A9 t3.2.f1.length c9], 26⟩, ⟨nx4, [.slice A11 t4.2.f0.length c11, .slice A12 t4.2.f1.length c12], 26⟩, ⟨nx6, [.int .i64 1, .int .i64 1], 3⟩]) [] (RFacts.nil _ _ _) 2 [.no, .no] (by kernel_rfl) (by kernel_rfl) ?_
 refine RL.freezeL (d := (Ty.int .i64)) (xs := [1, 1]) (b := ⟨nx6, [.int .i64 1, .int .i64 1], 3⟩) 4 (by kernel_rfl) ⟨_, _, rfl, rfl, ⟨_, _, rfl, rfl, rfl⟩⟩ (Nat.le_of_ble_eq_true rfl) (fun I26 hi26 hr20 => ?_)
 obtain ⟨t7, hA7, H⟩ := Option.bind_eq_some_iff.mp H
 refine RL.callP 15 [.slice (some ⟨nx0 + 2, 0, none⟩) 2 2, .slice (some ⟨nx6, 0, none⟩) 2 2] (some 61) (fun w => assign_Value.Post I26 w t7) (by kernel_rfl) (by kernel_rfl) (fun w hs => assign_Value.calls k I26 [[3, 5], [4, 7]] (some ⟨nx0 + 2, 0, none⟩) 2 [1, 1] (some ⟨nx6, 0, none⟩) 2 w hs.im (Nat.le_of_ble_eq_true rfl) (Rd.ext (Imm.le_trans (Imm.le_trans (Imm.le_trans (Imm.le_trans (Imm.le_trans (Imm.le_trans (Imm.le_trans (Imm.le_trans (Imm.le_trans (Imm.le_trans (Imm.le_trans (Imm.le_trans (Imm.le_trans (Imm.le_trans (Imm.le_trans (Imm.le_trans (Imm.le_trans (Imm.le_trans (Imm.le_trans (Imm.le_trans (Imm.le_trans (Imm.le_trans hi4 hi5) hi6) hi7) hi8) hi9) hi10) hi11) hi12) hi13) hi14) hi15) hi16) hi17) hi18) hi19) hi20) hi21) hi22) hi23) hi24) hi25) hi26) hr3) (Nat.le_of_ble_eq_true rfl) hr20 t7 hA7) ?_
 rintro w v w' hs ⟨I27, rfl, hg⟩
 have hi27 := hg.le
 refine RL.resume (X' := [orow 3 1 A1 t1.1.length c1 cs1, orow 3 1 A4 t2.1.length c4 cs4, orow 3 1 A7 t3.1.length c7 cs7, orow 3 1 A10 t4.1.length c10 cs10]) rfl (hs.call hg) ?_
 clear hs hg
 generalize w'.heap.size = nx7
 clear w w'
 refine RL.simK (K' := [(16, .bool t7.2), (14, .bool t6.2), (13, .int .i64 t6.1), (12, .bool t5.2), (11, .int .i64 t5.1), (9, .slice A10 t4.1.length c10), (10, .pointer (some ⟨nx4, 0, none⟩)), (7, .slice A7 t3.1.length c7), (5, .slice A4 t2.1.length c4), (2, .slice A1 t1.1.length c1), (3, .pointer (some ⟨nx1, 0, none⟩)), (1, .slice (some ⟨nx0 + 2, 0, none⟩) 2 2)]) [] (RFacts.nil _ _ _) 5 [.no, .no, .no, .no, .no] (by kernel_rfl) (by kernel_rfl) ?_
 refine RL.nil (by kernel_rfl) ?_
 refine QN.then_ ?_
 refine OK.seq K10_31 K10_33 (by kernel_rfl) ?_
 refine OK.region 10 O10_31 (by kernel_rfl) ?_
 refine RL.simP (K' := [(66, .slice (some ⟨nx7, 0, none⟩) 1 1), (65, .slice (some ⟨nx0 + 2, 0, none⟩) 2 2), (16, .bool t7.2), (14, .bool t6.2), (13, .int .i64 t6.1), (12, .bool t5.2), (11, .int .i64 t5.1), (9, .slice A10 t4.1.length c10), (10, .pointer (some ⟨nx4, 0, none⟩)), (7, .slice A7 t3.1.length c7), (5, .slice A4 t2.1.length c4), (2, .slice A1 t1.1.length c1), (3, .pointer (some ⟨nx1, 0, none⟩)), (1, .slice (some ⟨nx0 + 2, 0, none⟩) 2 2)]) (nx' := nx7 + 1) (L' := [⟨nx1, [.slice A2 t1.2.f0.length c2, .slice A3 t1.2.f1.length c3], 26⟩, ⟨nx2, [.slice A5 t2.2.f0.length c5, .slice A6 t2.2.f1.length c6], 26⟩, ⟨nx3, [.slice A8 t3.2.f0.length c8, .slice A9 t3.2.f1.length c9], 26⟩, ⟨nx4, [.slice A11 t4.2.f0.length c11, .slice A12 t4.2.f1.length c12], 26⟩, ⟨nx7, [.int .i64 1], 3⟩]) [] (RFacts.nil _ _ _) 2 [.no, .no] (by kernel_rfl) (by kernel_rfl) ?_
 refine RL.freezeL (d := (Ty.int .i64)) (xs := [1]) (b := ⟨nx7, [.int .i64 1], 3⟩) 4 (by kernel_rfl) ⟨_, _, rfl, rfl, rfl⟩ (Nat.le_of_ble_eq_true rfl) (fun I28 hi28 hr21 => ?_)
 obtain ⟨t8, hA8, H⟩ := Option.bind_eq_some_iff.mp H
 refine RL.callP 15 [.slice (some ⟨nx0 + 2, 0, none⟩) 2 2, .slice (some ⟨nx7, 0, none⟩) 1 1] (some 67) (fun w => assign_Value.Post I28 w t8) (by kernel_rfl) (by kernel_rfl) (fun w hs => assign_Value.calls k I28 [[3, 5], [4, 7]] (some ⟨nx0 + 2, 0, none⟩) 2 [1] (some ⟨nx7, 0, none⟩) 1 w hs.im (Nat.le_of_ble_eq_true rfl) (Rd.ext (Imm.le_trans (Imm.le_trans (Imm.le_trans (Imm.le_trans (Imm.le_trans (Imm.le_trans (Imm.le_trans (Imm.le_trans (Imm.le_trans (Imm.le_trans (Imm.le_trans (Imm.le_trans (Imm.le_trans (Imm.le_trans (Imm.le_trans (Imm.le_trans (Imm.le_trans (Imm.le_trans (Imm.le_trans (Imm.le_trans (Imm.le_trans (Imm.le_trans (Imm.le_trans (Imm.le_trans hi4 hi5) hi6) hi7) hi8) hi9) hi10) hi11) hi12) hi13) hi14) hi15) hi16) hi17) hi18) hi19) hi20) hi21) hi22) hi23) hi24) hi25) hi26) hi27) hi28) hr3) (Nat.le_of_ble_eq_true rfl) hr21 t8 hA8) ?_
 rintro w v w' hs ⟨I29, rfl, hg⟩
 have hi29 := hg.le
 refine RL.resume (X' := [orow 3 1 A1 t1.1.length c1 cs1, orow 3 1 A4 t2.1.length c4 cs4, orow 3 1 A7 t3.1.length c7 cs7, orow 3 1 A10 t4.1.length c10 cs10]) rfl (hs.call hg) ?_
 clear hs hg
 generalize w'.heap.size = nx8
 clear w w'
 refine RL.simK (K' := [(18, .bool t8.2), (16, .bool t7.2), (14, .bool t6.2), (13, .int .i64 t6.1), (12, .bool t5.2), (11, .int .i64 t5.1), (9, .slice A10 t4.1.length c10), (10, .pointer (some ⟨nx4, 0, none⟩)), (7, .slice A7 t3.1.length c7), (5, .slice A4 t2.1.length c4), (2, .slice A1 t1.1.length c1), (3, .pointer (some ⟨nx1, 0, none⟩)), (1, .slice (some ⟨nx0 + 2, 0, none⟩) 2 2)]) [] (RFacts.nil _ _ _) 5 [.no, .no, .no, .no, .no] (by kernel_rfl) (by kernel_rfl) ?_
 refine RL.nil (by kernel_rfl) ?_
 refine QN.then_ ?_
 refine OK.seq K10_34 K10_36 (by kernel_rfl) ?_
 refine OK.join (fun K' I' _ L' X' => ∃ (x1 : Bool), K' = [(0, .bool x1)] ∧ L' = [⟨nx1, [.slice A2 t1.2.f0.length c2, .slice A3 t1.2.f1.length c3], 26⟩, ⟨nx2, [.slice A5 t2.2.f0.length c5, .slice A6 t2.2.f1.length c6], 26⟩, ⟨nx3, [.slice A8 t3.2.f0.length c8, .slice A9 t3.2.f1.length c9], 26⟩, ⟨nx4, [.slice A11 t4.2.f0.length c11, .slice A12 t4.2.f1.length c12], 26⟩] ∧ X' = [] ∧ Imm.le I29 I' ∧ armillarylaw22_sanity.k1 x1 = some r) ?_ ?_
 ·rintro _ I30 nx9 _ _ ⟨x1, rfl, rfl, rfl, hi30, H⟩
  replace H : (some x1) = some r := H
  refine QN.then_ ?_
  refine OK.ret (by kernel_rfl) ?_
  obtain rfl := Option.some.inj H
  refine QN.body rfl [] (RFacts.nil _ _ _) (.no) (.bool x1) (by kernel_rfl) (by kernel_rfl) (by kernel_rfl) ?_ _ (.inr rfl)
  exact fun w' hs' => ⟨_, rfl, I30, rfl, hs'.got _ .slnil⟩
 ·intro Q_1 hJ1 hQ1
  obtain ⟨y1, H, HK1⟩ := Option.bind_eq_some_iff.mp H
  refine OK.region 11 O10_34 (by kernel_rfl) ?_
  refine RL.simP (K' := [(71, .slice (some ⟨nx8, 0, none⟩) 2 2), (70, .slice A1 t1.1.length c1), (18, .bool t8.2), (16, .bool t7.2), (14, .bool t6.2), (13, .int .i64 t6.1), (12, .bool t5.2), (11, .int .i64 t5.1), (9, .slice A10 t4.1.length c10), (10, .pointer (some ⟨nx4, 0, none⟩)), (7, .slice A7 t3.1.length c7), (5, .slice A4 t2.1.length c4), (2, .slice A1 t1.1.length c1), (3, .pointer (some ⟨nx1, 0, none⟩)), (1, .slice (some ⟨nx0 + 2, 0, none⟩) 2 2)]) (nx' := nx8 + 1) (L' := [⟨nx1, [.slice A2 t1.2.f0.length c2, .slice A3 t1.2.f1.length c3], 26⟩, ⟨nx2, [.slice A5 t2.2.f0.length c5, .slice A6 t2.2.f1.length c6], 26⟩, ⟨nx3, [.slice A8 t3.2.f0.length c8, .slice A9 t3.2.f1.length c9], 26⟩, ⟨nx4, [.slice A11 t4.2.f0.length c11, .slice A12 t4.2.f1.length c12], 26⟩, ⟨nx8, [.int .i64 0, .int .i64 1], 3⟩]) [] (RFacts.nil _ _ _) 2 [.no, .no] (by kernel_rfl) (by kernel_rfl) ?_
  refine RL.freezeL (d := (Ty.int .i64)) (xs := [0, 1]) (b := ⟨nx8, [.int .i64 0, .int .i64 1], 3⟩) 4 (by kernel_rfl) ⟨_, _, rfl, rfl, ⟨_, _, rfl, rfl, rfl⟩⟩ (Nat.le_of_ble_eq_true rfl) (fun I31 hi31 hr22 => ?_)
  obtain ⟨t9, hA9, H⟩ := Option.bind_eq_some_iff.mp H
  refine RL.callP 17 [.slice A1 t1.1.length c1, .slice (some ⟨nx8, 0, none⟩) 2 2] (some 72) (fun w v w' => ∃ I', Imm.le I31 I' ∧ armillaryref22_Same.Post I' w t9 v w') (by kernel_rfl) (by kernel_rfl) (fun w hs => ?_) ?_
  ·skip
   obtain ⟨JL1, hj1, hn1, hw1, hs⟩ := Sat.freeze (e := 3) (sz := 1) (S := A1) (n := t1.1.length) (cap := c1) (m := 0) hs (by kernel_rfl) (Reps.ext (Imm.le_trans (Imm.le_trans (Imm.le_trans (Imm.le_trans (Imm.le_trans (Imm.le_trans (Imm.le_trans (Imm.le_trans (Imm.le_trans (Imm.le_trans (Imm.le_trans (Imm.le_trans (Imm.le_trans (Imm.le_trans (Imm.le_trans (Imm.le_trans (Imm.le_trans (Imm.le_trans (Imm.le_trans (Imm.le_trans (Imm.le_trans (Imm.le_trans (Imm.le_trans (Imm.le_trans (Imm.le_trans hi5 hi6) hi7) hi8) hi9) hi10) hi11) hi12) hi13) hi14) hi15) hi16) hi17) hi18) hi19) hi20) hi21) hi22) hi23) hi24) hi25) hi26) hi27) hi28) hi29) hi31) hp1) rfl
   exact (armillaryref22_Same.calls k JL1 t1.1 A1 c1 [0, 1] (some ⟨nx8, 0, none⟩) 2 _ hs.im hn1 hw1 (Nat.le_of_ble_eq_true rfl) (Rd.ext hj1 hr22) t9 hA9).mono (fun e w' ⟨v, hv, hp⟩ => ⟨v, hv, JL1, hj1, hp⟩)
  rintro w v w' hs ⟨I', hle, J, rfl, hg⟩
  refine RL.resume (X' := [orow 3 1 A1 t1.1.length c1 cs1, orow 3 1 A4 t2.1.length c4 cs4, orow 3 1 A7 t3.1.length c7 cs7, orow 3 1 A10 t4.1.length c10 cs10]) rfl (hs.call (hg.back hle)) ?_
  clear hs hg hle I' J
  generalize w'.heap.size = nx10
  clear w w'
  refine RL.simK (K' := [(73, .bool t9), (18, .bool t8.2), (16, .bool t7.2), (14, .bool t6.2), (13, .int .i64 t6.1), (12, .bool t5.2), (11, .int .i64 t5.1), (9, .slice A10 t4.1.length c10), (10, .pointer (some ⟨nx4, 0, none⟩)), (7, .slice A7 t3.1.length c7), (5, .slice A4 t2.1.length c4), (2, .slice A1 t1.1.length c1), (3, .pointer (some ⟨nx1, 0, none⟩)), (1, .slice (some ⟨nx0 + 2, 0, none⟩) 2 2)]) [] (RFacts.nil _ _ _) 1 [.no] (by kernel_rfl) (by kernel_rfl) ?_
  refine RL.cases t9 (fun hb => ?_) (fun hb => ?_)
  ·have hc := hb
   rw [hb]
   rw [if_pos hc] at H; clear hb
   refine RL.simK (K' := [(76, .agg #[.slice A2 t1.2.f0.length c2, .slice A3 t1.2.f1.length c3]), (75, .slice A1 t1.1.length c1), (74, .slice (some ⟨nx0 + 2, 0, none⟩) 2 2), (73, .bool true), (18, .bool t8.2), (16, .bool t7.2), (14, .bool t6.2), (13, .int .i64 t6.1), (12, .bool t5.2), (11, .int .i64 t5.1), (9, .slice A10 t4.1.length c10), (10, .pointer (some ⟨nx4, 0, none⟩)), (7, .slice A7 t3.1.length c7), (5, .slice A4 t2.1.length c4), (2, .slice A1 t1.1.length c1), (1, .slice (some ⟨nx0 + 2, 0, none⟩) 2 2)]) [] (RFacts.nil _ _ _) 3 [.no, .no, .l 0] (by kernel_rfl) (by kernel_rfl) ?_
   obtain ⟨t10, hA10, H⟩ := Option.bind_eq_some_iff.mp H
   refine RL.callP 20 [.slice (some ⟨nx0 + 2, 0, none⟩) 2 2, .slice A1 t1.1.length c1, .agg #[.slice A2 t1.2.f0.length c2, .slice A3 t1.2.f1.length c3]] (some 77) (fun w v w' => ∃ I', Imm.le I31 I' ∧ assign_VerifyDuals.Post I' w t10 v w') (by kernel_rfl) (by kernel_rfl) (fun w hs => ?_) ?_
   ·skip
    obtain ⟨JL2, hj2, hn2, hw2, hs⟩ := Sat.freeze (e := 3) (sz := 1) (S := A1) (n := t1.1.length) (cap := c1) (m := 0) hs (by kernel_rfl) (Reps.ext (Imm.le_trans (Imm.le_trans (Imm.le_trans (Imm.le_trans (Imm.le_trans (Imm.le_trans (Imm.le_trans (Imm.le_trans (Imm.le_trans (Imm.le_trans (Imm.le_trans (Imm.le_trans (Imm.le_trans (Imm.le_trans (Imm.le_trans (Imm.le_trans (Imm.le_trans (Imm.le_trans (Imm.le_trans (Imm.le_trans (Imm.le_trans (Imm.le_trans (Imm.le_trans (Imm.le_trans (Imm.le_trans hi5 hi6) hi7) hi8) hi9) hi10) hi11) hi12) hi13) hi14) hi15) hi16) hi17) hi18) hi19) hi20) hi21) hi22) hi23) hi24) hi25) hi26) hi27) hi28) hi29) hi31) hp1) rfl
    exact (assign_VerifyDuals.calls k JL2 [[3, 5], [4, 7]] (some ⟨nx0 + 2, 0, none⟩) 2 t1.1 A1 c1 t1.2 A2 c2 A3 c3 _ hs.im (Nat.le_of_ble_eq_true rfl) (Rd.ext hj2 (Rd.ext (Imm.le_trans (Imm.le_trans (Imm.le_trans (Imm.le_trans (Imm.le_trans (Imm.le_trans (Imm.le_trans (Imm.le_trans (Imm.le_trans (Imm.le_trans (Imm.le_trans (Imm.le_trans (Imm.le_trans (Imm.le_trans (Imm.le_trans (Imm.le_trans (Imm.le_trans (Imm.le_trans (Imm.le_trans (Imm.le_trans (Imm.le_trans (Imm.le_trans (Imm.le_trans (Imm.le_trans (Imm.le_trans (Imm.le_trans hi4 hi5) hi6) hi7) hi8) hi9) hi10) hi11) hi12) hi13) hi14) hi15) hi16) hi17) hi18) hi19) hi20) hi21) hi22) hi23) hi24) hi25) hi26) hi27) hi28) hi29) hi31) hr3)) hn2 hw2 hl1 (Rd.ext hj2 (Rd.ext (Imm.le_trans (Imm.le_trans (Imm.le_trans (Imm.le_trans (Imm.le_trans (Imm.le_trans (Imm.le_trans (Imm.le_trans (Imm.le_trans (Imm.le_trans (Imm.le_trans (Imm.le_trans (Imm.le_trans (Imm.le_trans (Imm.le_trans (Imm.le_trans (Imm.le_trans (Imm.le_trans (Imm.le_trans (Imm.le_trans (Imm.le_trans (Imm.le_trans (Imm.le_trans (Imm.le_trans hi6 hi7) hi8) hi9) hi10) hi11) hi12) hi13) hi14) hi15) hi16) hi17) hi18) hi19) hi20) hi21) hi22) hi23) hi24) hi25) hi26) hi27) hi28) hi29) hi31) hr4)) hl2 (Rd.ext hj2 (Rd.ext (Imm.le_trans (Imm.le_trans (Imm.le_trans (Imm.le_trans (Imm.le_trans (Imm.le_trans (Imm.le_trans (Imm.le_trans (Imm.le_trans (Imm.le_trans (Imm.le_trans (Imm.le_trans (Imm.le_trans (Imm.le_trans (Imm.le_trans (Imm.le_trans (Imm.le_trans (Imm.le_trans (Imm.le_trans (Imm.le_trans (Imm.le_trans (Imm.le_trans (Imm.le_trans hi7 hi8) hi9) hi10) hi11) hi12) hi13) hi14) hi15) hi16) hi17) hi18) hi19) hi20) hi21) hi22) hi23) hi24) hi25) hi26) hi27) hi28) hi29) hi31) hr5)) t10 hA10).mono (fun e w' ⟨v, hv, hp⟩ => ⟨v, hv, JL2, hj2, hp⟩)
   rintro w v w' hs ⟨I', hle, J, rfl, hg⟩
   refine RL.resume (X' := [orow 3 1 A1 t1.1.length c1 cs1, orow 3 1 A4 t2.1.length c4 cs4, orow 3 1 A7 t3.1.length c7 cs7, orow 3 1 A10 t4.1.length c10 cs10]) rfl (hs.call (hg.back hle)) ?_
   clear hs hg hle I' J
   generalize w'.heap.size = nx11
   clear w w'
   refine RL.simK (K' := [(79, .bool t10), (18, .bool t8.2), (16, .bool t7.2), (14, .bool t6.2), (13, .int .i64 t6.1), (12, .bool t5.2), (11, .int .i64 t5.1), (9, .slice A10 t4.1.length c10), (10, .pointer (some ⟨nx4, 0, none⟩)), (7, .slice A7 t3.1.length c7), (5, .slice A4 t2.1.length c4), (2, .slice A1 t1.1.length c1), (1, .slice (some ⟨nx0 + 2, 0, none⟩) 2 2)]) [] (RFacts.nil _ _ _) 2 [.no, .no] (by kernel_rfl) (by kernel_rfl) ?_
   refine RL.cases t10 (fun hb => ?_) (fun hb => ?_)
   ·have hc := hb
    rw [hb]
    rw [if_pos hc] at H; clear hb
    refine RL.simP (K' := [(81, .slice (some ⟨nx11, 0, none⟩) 2 2), (80, .slice A4 t2.1.length c4), (79, .bool true), (18, .bool t8.2), (16, .bool t7.2), (14, .bool t6.2), (13, .int .i64 t6.1), (12, .bool t5.2), (11, .int .i64 t5.1), (9, .slice A10 t4.1.length c10), (10, .pointer (some ⟨nx4, 0, none⟩)), (7, .slice A7 t3.1.length c7), (2, .slice A1 t1.1.length c1), (1, .slice (some ⟨nx0 + 2, 0, none⟩) 2 2)]) (nx' := nx11 + 1) (L' := [⟨nx1, [.slice A2 t1.2.f0.length c2, .slice A3 t1.2.f1.length c3], 26⟩, ⟨nx2, [.slice A5 t2.2.f0.length c5, .slice A6 t2.2.f1.length c6], 26⟩, ⟨nx3, [.slice A8 t3.2.f0.length c8, .slice A9 t3.2.f1.length c9], 26⟩, ⟨nx4, [.slice A11 t4.2.f0.length c11, .slice A12 t4.2.f1.length c12], 26⟩, ⟨nx11, [.int .i64 (-1), .int .i64 0], 3⟩]) [] (RFacts.nil _ _ _) 2 [.no, .no] (by kernel_rfl) (by kernel_rfl) ?_
    refine RL.freezeL (d := (Ty.int .i64)) (xs := [(-1), 0]) (b := ⟨nx11, [.int .i64 (-1), .int .i64 0], 3⟩) 4 (by kernel_rfl) ⟨_, _, rfl, rfl, ⟨_, _, rfl, rfl, rfl⟩⟩ (Nat.le_of_ble_eq_true rfl) (fun I32 hi32 hr23 => ?_)
    obtain ⟨t11, hA11, H⟩ := Option.bind_eq_some_iff.mp H
    refine RL.callP 17 [.slice A4 t2.1.length c4, .slice (some ⟨nx11, 0, none⟩) 2 2] (some 82) (fun w v w' => ∃ I', Imm.le I32 I' ∧ armillaryref22_Same.Post I' w t11 v w') (by kernel_rfl) (by kernel_rfl) (fun w hs => ?_) ?_
    ·skip
     obtain ⟨JL3, hj3, hn3, hw3, hs⟩ := Sat.freeze (e := 3) (sz := 1) (S := A4) (n := t2.1.length) (cap := c4) (m := 1) hs (by kernel_rfl) (Reps.ext (Imm.le_trans (Imm.le_trans (Imm.le_trans (Imm.le_trans (Imm.le_trans (Imm.le_trans (Imm.le_trans (Imm.le_trans (Imm.le_trans (Imm.le_trans (Imm.le_trans (Imm.le_trans (Imm.le_trans (Imm.le_trans (Imm.le_trans (Imm.le_trans (Imm.le_trans (Imm.le_trans (Imm.le_trans (Imm.le_trans hi11 hi12) hi13) hi14) hi15) hi16) hi17) hi18) hi19) hi20) hi21) hi22) hi23) hi24) hi25) hi26) hi27) hi28) hi29) hi31) hi32) hp4) rfl
     exact (armillaryref22_Same.calls k JL3 t2.1 A4 c4 [(-1), 0] (some ⟨nx11, 0, none⟩) 2 _ hs.im hn3 hw3 (Nat.le_of_ble_eq_true rfl) (Rd.ext hj3 hr23) t11 hA11).mono (fun e w' ⟨v, hv, hp⟩ => ⟨v, hv, JL3, hj3, hp⟩)
    rintro w v w' hs ⟨I', hle, J, rfl, hg⟩
    refine RL.resume (X' := [orow 3 1 A1 t1.1.length c1 cs1, orow 3 1 A4 t2.1.length c4 cs4, orow 3 1 A7 t3.1.length c7 cs7, orow 3 1 A10 t4.1.length c10 cs10]) rfl (hs.call (hg.back hle)) ?_
    clear hs hg hle I' J
    generalize w'.heap.size = nx12
    clear w w'
    refine RL.simK (K' := [(84, .bool t11), (18, .bool t8.2), (16, .bool t7.2), (14, .bool t6.2), (13, .int .i64 t6.1), (12, .bool t5.2), (11, .int .i64 t5.1), (9, .slice A10 t4.1.length c10), (10, .pointer (some ⟨nx4, 0, none⟩)), (7, .slice A7 t3.1.length c7), (2, .slice A1 t1.1.length c1), (1, .slice (some ⟨nx0 + 2, 0, none⟩) 2 2)]) [] (RFacts.nil _ _ _) 2 [.no, .no] (by kernel_rfl) (by kernel_rfl) ?_
    refine RL.cases t11 (fun hb => ?_) (fun hb => ?_)
    ·have hc := hb
     rw [hb]
     rw [if_pos hc] at H; clear hb
     refine RL.simP (K' := [(86, .slice (some ⟨nx12, 0, none⟩) 2 2), (85, .slice A7 t3.1.length c7), (84, .bool true), (18, .bool t8.2), (16, .bool t7.2), (14, .bool t6.2), (13, .int .i64 t6.1), (12, .bool t5.2), (11, .int .i64 t5.1), (9, .slice A10 t4.1.length c10), (10, .pointer (some ⟨nx4, 0, none⟩)), (2, .slice A1 t1.1.length c1), (1, .slice (some ⟨nx0 + 2, 0, none⟩) 2 2)]) (nx' := nx12 + 1) (L' := [⟨nx1, [.slice A2 t1.2.f0.length c2, .slice A3 t1.2.f1.length c3], 26⟩, ⟨nx2, [.slice A5 t2.2.f0.length c5, .slice A6 t2.2.f1.length c6], 26⟩, ⟨nx3, [.slice A8 t3.2.f0.length c8, .slice A9 t3.2.f1.length c9], 26⟩, ⟨nx4, [.slice A11 t4.2.f0.length c11, .slice A12 t4.2.f1.length c12], 26⟩, ⟨nx12, [.int .i64 0, .int .i64 1], 3⟩]) [] (RFacts.nil _ _ _) 2 [.no, .no] (by kernel_rfl) (by kernel_rfl) ?_
     refine RL.freezeL (d := (Ty.int .i64)) (xs := [0, 1]) (b := ⟨nx12, [.int .i64 0, .int .i64 1], 3⟩) 4 (by kernel_rfl) ⟨_, _, rfl, rfl, ⟨_, _, rfl, rfl, rfl⟩⟩ (Nat.le_of_ble_eq_true rfl) (fun I33 hi33 hr24 => ?_)
     obtain ⟨t12, hA12, H⟩ := Option.bind_eq_some_iff.mp H
     refine RL.callP 17 [.slice A7 t3.1.length c7, .slice (some ⟨nx12, 0, none⟩) 2 2] (some 87) (fun w v w' => ∃ I', Imm.le I33 I' ∧ armillaryref22_Same.Post I' w t12 v w') (by kernel_rfl) (by kernel_rfl) (fun w hs => ?_) ?_
     ·skip
      obtain ⟨JL4, hj4, hn4, hw4, hs⟩ := Sat.freeze (e := 3) (sz := 1) (S := A7) (n := t3.1.length) (cap := c7) (m := 2) hs (by kernel_rfl) (Reps.ext (Imm.le_trans (Imm.le_trans (Imm.le_trans (Imm.le_trans (Imm.le_trans (Imm.le_trans (Imm.le_trans (Imm.le_trans (Imm.le_trans (Imm.le_trans (Imm.le_trans (Imm.le_trans (Imm.le_trans (Imm.le_trans (Imm.le_trans hi17 hi18) hi19) hi20) hi21) hi22) hi23) hi24) hi25) hi26) hi27) hi28) hi29) hi31) hi32) hi33) hp7) rfl
      exact (armillaryref22_Same.calls k JL4 t3.1 A7 c7 [0, 1] (some ⟨nx12, 0, none⟩) 2 _ hs.im hn4 hw4 (Nat.le_of_ble_eq_true rfl) (Rd.ext hj4 hr24) t12 hA12).mono (fun e w' ⟨v, hv, hp⟩ => ⟨v, hv, JL4, hj4, hp⟩)
     rintro w v w' hs ⟨I', hle, J, rfl, hg⟩
     refine RL.resume (X' := [orow 3 1 A1 t1.1.length c1 cs1, orow 3 1 A4 t2.1.length c4 cs4, orow 3 1 A7 t3.1.length c7 cs7, orow 3 1 A10 t4.1.length c10 cs10]) rfl (hs.call (hg.back hle)) ?_
     clear hs hg hle I' J
     generalize w'.heap.size = nx13
     clear w w'
     refine RL.simK (K' := [(89, .bool t12), (18, .bool t8.2), (16, .bool t7.2), (14, .bool t6.2), (13, .int .i64 t6.1), (12, .bool t5.2), (11, .int .i64 t5.1), (9, .slice A10 t4.1.length c10), (10, .pointer (some ⟨nx4, 0, none⟩)), (2, .slice A1 t1.1.length c1), (1, .slice (some ⟨nx0 + 2, 0, none⟩) 2 2)]) [] (RFacts.nil _ _ _) 2 [.no, .no] (by kernel_rfl) (by kernel_rfl) ?_
     refine RL.cases t12 (fun hb => ?_) (fun hb => ?_)
     ·have hc := hb
      rw [hb]
      rw [if_pos hc] at H; clear hb
      refine RL.simK (K' := [(102, .bool ((W .i64 ((W .i64 ((t4.1.length : Int) + (t4.2.f0.length : Int))) + (t4.2.f1.length : Int))) == 0)), (18, .bool t8.2), (16, .bool t7.2), (14, .bool t6.2), (13, .int .i64 t6.1), (12, .bool t5.2), (11, .int .i64 t5.1), (2, .slice A1 t1.1.length c1), (1, .slice (some ⟨nx0 + 2, 0, none⟩) 2 2)]) [] (RFacts.nil _ _ _) 13 [.no, .no, .no, .l 3, .no, .no, .no, .l 3, .no, .no, .no, .no, .no] (by kernel_rfl) (by kernel_rfl) ?_
      refine RL.cases ((W .i64 ((W .i64 ((t4.1.length : Int) + (t4.2.f0.length : Int))) + (t4.2.f1.length : Int))) == 0) (fun hb => ?_) (fun hb => ?_)
      ·have hc := (beq_iff_eq.1 hb)
       rw [hb]
       rw [if_pos hc] at H; clear hb
       refine RL.simK (K' := [(106, .bool (t5.1 == 9)), (18, .bool t8.2), (16, .bool t7.2), (14, .bool t6.2), (13, .int .i64 t6.1), (12, .bool t5.2), (2, .slice A1 t1.1.length c1), (1, .slice (some ⟨nx0 + 2, 0, none⟩) 2 2)]) [] (RFacts.nil _ _ _) 4 [.no, .no, .no, .no] (by kernel_rfl) (by kernel_rfl) ?_
       refine RL.cases (t5.1 == 9) (fun hb => ?_) (fun hb => ?_)
       ·have hc := (beq_iff_eq.1 hb)
        rw [hb]
        rw [if_pos hc] at H; clear hb
        refine RL.simK (K' := [(109, .bool t5.2), (18, .bool t8.2), (16, .bool t7.2), (14, .bool t6.2), (13, .int .i64 t6.1), (2, .slice A1 t1.1.length c1), (1, .slice (some ⟨nx0 + 2, 0, none⟩) 2 2)]) [] (RFacts.nil _ _ _) 3 [.no, .no, .no] (by kernel_rfl) (by kernel_rfl) ?_
        refine RL.cases t5.2 (fun hb => ?_) (fun hb => ?_)
        ·have hc := hb
         rw [hb]
         rw [if_pos hc] at H; clear hb
         refine RL.simK (K' := [(113, .bool (t6.1 == 7)), (18, .bool t8.2), (16, .bool t7.2), (14, .bool t6.2), (2, .slice A1 t1.1.length c1), (1, .slice (some ⟨nx0 + 2, 0, none⟩) 2 2)]) [] (RFacts.nil _ _ _) 4 [.no, .no, .no, .no] (by kernel_rfl) (by kernel_rfl) ?_
         refine RL.cases (t6.1 == 7) (fun hb => ?_) (fun hb => ?_)
         ·have hc := (beq_iff_eq.1 hb)
          rw [hb]
          rw [if_pos hc] at H; clear hb
          refine RL.simK (K' := [(116, .bool t6.2), (18, .bool t8.2), (16, .bool t7.2), (2, .slice A1 t1.1.length c1), (1, .slice (some ⟨nx0 + 2, 0, none⟩) 2 2)]) [] (RFacts.nil _ _ _) 3 [.no, .no, .no] (by kernel_rfl) (by kernel_rfl) ?_
          refine RL.cases t6.2 (fun hb => ?_) (fun hb => ?_)
          ·have hc := hb
           rw [hb]
           rw [if_pos hc] at H; clear hb
           refine RL.simK (K' := [(120, .bool (!t7.2)), (18, .bool t8.2), (2, .slice A1 t1.1.length c1), (1, .slice (some ⟨nx0 + 2, 0, none⟩) 2 2)]) [] (RFacts.nil _ _ _) 4 [.no, .no, .no, .no] (by kernel_rfl) (by kernel_rfl) ?_
           refine RL.cases t7.2 (fun hb => ?_) (fun hb => ?_)
           ·have hc := hb
            rw [hb]
            rw [if_pos hc] at H; clear hb
            refine RL.simK (K' := [(0, .bool false)]) [] (RFacts.nil _ _ _) 59 (.no :: .no :: .no :: .no :: .no :: .no :: .no :: .no :: .no :: .no :: .no :: .no :: .no :: .no :: .no :: .no :: .no :: .no :: .no :: .no :: .no :: .no :: .no :: .no :: .no :: .no :: .no :: .no :: .no :: .no :: .no :: .no :: .no :: .no :: .no :: .no :: .no :: .no :: .no :: .no :: .no :: .no :: .no :: .no :: .no :: .no :: .no :: .no :: .no :: .no :: .no :: .no :: .no :: .no :: .no :: .no :: .no :: .no :: .no :: []) (by kernel_rfl) (by kernel_rfl) ?_
            refine RL.nil (by kernel_rfl) ?_
            obtain rfl := Option.some.inj H
            refine QN.sel (K' := [(0, .bool false)]) (L' := [⟨nx1, [.slice A2 t1.2.f0.length c2, .slice A3 t1.2.f1.length c3], 26⟩, ⟨nx2, [.slice A5 t2.2.f0.length c5, .slice A6 t2.2.f1.length c6], 26⟩, ⟨nx3, [.slice A8 t3.2.f0.length c8, .slice A9 t3.2.f1.length c9], 26⟩, ⟨nx4, [.slice A11 t4.2.f0.length c11, .slice A12 t4.2.f1.length c12], 26⟩]) [] (by kernel_rfl) (by kernel_rfl) (.cons_cons _ (.cons_cons _ (.cons_cons _ (.cons_cons _ .slnil)))) ?_
            refine QN.norm (X' := []) rfl rfl rfl (by kernel_rfl) ?_
            exact hJ1 _ _ _ _ _ ⟨false, rfl, rfl, rfl, (Imm.le_trans (Imm.le_trans hi31 hi32) hi33), HK1⟩
           ·have hc := (Bool.eq_false_iff.1 hb)
            rw [hb]
            rw [if_neg hc] at H; clear hb
            refine RL.simK (K' := [(124, .bool (!t8.2)), (2, .slice A1 t1.1.length c1), (1, .slice (some ⟨nx0 + 2, 0, none⟩) 2 2)]) [] (RFacts.nil _ _ _) 4 [.no, .no, .no, .no] (by kernel_rfl) (by kernel_rfl) ?_
            refine RL.cases t8.2 (fun hb => ?_) (fun hb => ?_)
            ·have hc := hb
             rw [hb]
             rw [if_pos hc] at H; clear hb
             refine RL.simK (K' := [(0, .bool false)]) [] (RFacts.nil _ _ _) 55 (.no :: .no :: .no :: .no :: .no :: .no :: .no :: .no :: .no :: .no :: .no :: .no :: .no :: .no :: .no :: .no :: .no :: .no :: .no :: .no :: .no :: .no :: .no :: .no :: .no :: .no :: .no :: .no :: .no :: .no :: .no :: .no :: .no :: .no :: .no :: .no :: .no :: .no :: .no :: .no :: .no :: .no :: .no :: .no :: .no :: .no :: .no :: .no :: .no :: .no :: .no :: .no :: .no :: .no :: .no :: []) (by kernel_rfl) (by kernel_rfl) ?_
             refine RL.nil (by kernel_rfl) ?_
             obtain rfl := Option.some.inj H
             refine QN.sel (K' := [(0, .bool false)]) (L' := [⟨nx1, [.slice A2 t1.2.f0.length c2, .slice A3 t1.2.f1.length c3], 26⟩, ⟨nx2, [.slice A5 t2.2.f0.length c5, .slice A6 t2.2.f1.length c6], 26⟩, ⟨nx3, [.slice A8 t3.2.f0.length c8, .slice A9 t3.2.f1.length c9], 26⟩, ⟨nx4, [.slice A11 t4.2.f0.length c11, .slice A12 t4.2.f1.length c12], 26⟩]) [] (by kernel_rfl) (by kernel_rfl) (.cons_cons _ (.cons_cons _ (.cons_cons _ (.cons_cons _ .slnil)))) ?_
             refine QN.norm (X' := []) rfl rfl rfl (by kernel_rfl) ?_
             exact hJ1 _ _ _ _ _ ⟨false, rfl, rfl, rfl, (Imm.le_trans (Imm.le_trans hi31 hi32) hi33), HK1⟩
            ·have hc := (Bool.eq_false_iff.1 hb)
             rw [hb]
             rw [if_neg hc] at H; clear hb
             refine RL.simP (K' := [(129, .agg #[.slice (some ⟨nx13, 0, none⟩) 2 2, .slice (some ⟨nx13 + 1, 0, none⟩) 2 2]), (126, .slice A1 t1.1.length c1), (125, .slice (some ⟨nx0 + 2, 0, none⟩) 2 2), (124, .bool true), (2, .slice A1 t1.1.length c1), (1, .slice (some ⟨nx0 + 2, 0, none⟩) 2 2)]) (nx' := nx13 + 2) (L' := [⟨nx1, [.slice A2 t1.2.f0.length c2, .slice A3 t1.2.f1.length c3], 26⟩, ⟨nx2, [.slice A5 t2.2.f0.length c5, .slice A6 t2.2.f1.length c6], 26⟩, ⟨nx3, [.slice A8 t3.2.f0.length c8, .slice A9 t3.2.f1.length c9], 26⟩, ⟨nx4, [.slice A11 t4.2.f0.length c11, .slice A12 t4.2.f1.length c12], 26⟩, ⟨nx13, [.int .i64 3, .int .i64 5], 2⟩, ⟨nx13 + 1, [.int .i64 0, .int .i64 2], 2⟩]) [] (RFacts.nil _ _ _) 5 [.no, .no, .no, .no, .no] (by kernel_rfl) (by kernel_rfl) ?_
             refine RL.freezeL (d := (Ty.int .i64)) (xs := [3, 5]) (b := ⟨nx13, [.int .i64 3, .int .i64 5], 2⟩) 4 (by kernel_rfl) ⟨_, _, rfl, rfl, ⟨_, _, rfl, rfl, rfl⟩⟩ (Nat.le_of_ble_eq_true rfl) (fun I34 hi34 hr25 => ?_)
             refine RL.freezeL (d := (Ty.int .i64)) (xs := [0, 2]) (b := ⟨nx13 + 1, [.int .i64 0, .int .i64 2], 2⟩) 4 (by kernel_rfl) ⟨_, _, rfl, rfl, ⟨_, _, rfl, rfl, rfl⟩⟩ (Nat.le_of_ble_eq_true rfl) (fun I35 hi35 hr26 => ?_)
             obtain ⟨t13, hA13, H⟩ := Option.bind_eq_some_iff.mp H
             refine RL.callP 20 [.slice (some ⟨nx0 + 2, 0, none⟩) 2 2, .slice A1 t1.1.length c1, .agg #[.slice (some ⟨nx13, 0, none⟩) 2 2, .slice (some ⟨nx13 + 1, 0, none⟩) 2 2]] (some 130) (fun w v w' => ∃ I', Imm.le I35 I' ∧ assign_VerifyDuals.Post I' w t13 v w') (by kernel_rfl) (by kernel_rfl) (fun w hs => ?_) ?_
             ·skip
              obtain ⟨JL5, hj5, hn5, hw5, hs⟩ := Sat.freeze (e := 3) (sz := 1) (S := A1) (n := t1.1.length) (cap := c1) (m := 0) hs (by kernel_rfl) (Reps.ext (Imm.le_trans (Imm.le_trans (Imm.le_trans (Imm.le_trans (Imm.le_trans (Imm.le_trans (Imm.le_trans (Imm.le_trans (Imm.le_trans (Imm.le_trans (Imm.le_trans (Imm.le_trans (Imm.le_trans (Imm.le_trans (Imm.le_trans (Imm.le_trans (Imm.le_trans (Imm.le_trans (Imm.le_trans (Imm.le_trans (Imm.le_trans (Imm.le_trans (Imm.le_trans (Imm.le_trans (Imm.le_trans (Imm.le_trans (Imm.le_trans (Imm.le_trans (Imm.le_trans hi5 hi6) hi7) hi8) hi9) hi10) hi11) hi12) hi13) hi14) hi15) hi16) hi17) hi18) hi19) hi20) hi21) hi22) hi23) hi24) hi25) hi26) hi27) hi28) hi29) hi31) hi32) hi33) hi34) hi35) hp1) rfl
              exact (assign_VerifyDuals.calls k JL5 [[3, 5], [4, 7]] (some ⟨nx0 + 2, 0, none⟩) 2 t1.1 A1 c1 (⟨[3, 5], [0, 2]⟩ : S26) (some ⟨nx13, 0, none⟩) 2 (some ⟨nx13 + 1, 0, none⟩) 2 _ hs.im (Nat.le_of_ble_eq_true rfl) (Rd.ext hj5 (Rd.ext (Imm.le_trans (Imm.le_trans (Imm.le_trans (Imm.le_trans (Imm.le_trans (Imm.le_trans (Imm.le_trans (Imm.le_trans (Imm.le_trans (Imm.le_trans (Imm.le_trans (Imm.le_trans (Imm.le_trans (Imm.le_trans (Imm.le_trans (Imm.le_trans (Imm.le_trans (Imm.le_trans (Imm.le_trans (Imm.le_trans (Imm.le_trans (Imm.le_trans (Imm.le_trans (Imm.le_trans (Imm.le_trans (Imm.le_trans (Imm.le_trans (Imm.le_trans (Imm.le_trans (Imm.le_trans hi4 hi5) hi6) hi7) hi8) hi9) hi10) hi11) hi12) hi13) hi14) hi15) hi16) hi17) hi18) hi19) hi20) hi21) hi22) hi23) hi24) hi25) hi26) hi27) hi28) hi29) hi31) hi32) hi33) hi34) hi35) hr3)) hn5 hw5 (Nat.le_of_ble_eq_true rfl) (Rd.ext hj5 (Rd.ext hi35 hr25)) (Nat.le_of_ble_eq_true rfl) (Rd.ext hj5 hr26) t13 hA13).mono (fun e w' ⟨v, hv, hp⟩ => ⟨v, hv, JL5, hj5, hp⟩)
             rintro w v w' hs ⟨I', hle, J, rfl, hg⟩
             refine RL.resume (X' := [orow 3 1 A1 t1.1.length c1 cs1, orow 3 1 A4 t2.1.length c4 cs4, orow 3 1 A7 t3.1.length c7 cs7, orow 3 1 A10 t4.1.length c10 cs10]) rfl (hs.call (hg.back hle)) ?_
             clear hs hg hle I' J
             generalize w'.heap.size = nx14
             clear w w'
             refine RL.simK (K' := [(132, .bool t13), (2, .slice A1 t1.1.length c1), (1, .slice (some ⟨nx0 + 2, 0, none⟩) 2 2)]) [] (RFacts.nil _ _ _) 2 [.no, .no] (by kernel_rfl) (by kernel_rfl) ?_
             refine RL.cases t13 (fun hb => ?_) (fun hb => ?_)
             ·have hc := hb
              rw [hb]
              rw [if_pos hc] at H; clear hb
              refine RL.simP (K' := [(137, .agg #[.slice (some ⟨nx14, 0, none⟩) 2 2, .slice (some ⟨nx14 + 1, 0, none⟩) 2 2]), (134, .slice A1 t1.1.length c1), (133, .slice (some ⟨nx0 + 2, 0, none⟩) 2 2), (132, .bool true), (2, .slice A1 t1.1.length c1), (1, .slice (some ⟨nx0 + 2, 0, none⟩) 2 2)]) (nx' := nx14 + 2) (L' := [⟨nx1, [.slice A2 t1.2.f0.length c2, .slice A3 t1.2.f1.length c3], 26⟩, ⟨nx2, [.slice A5 t2.2.f0.length c5, .slice A6 t2.2.f1.length c6], 26⟩, ⟨nx3, [.slice A8 t3.2.f0.length c8, .slice A9 t3.2.f1.length c9], 26⟩, ⟨nx4, [.slice A11 t4.2.f0.length c11, .slice A12 t4.2.f1.length c12], 26⟩, ⟨nx14, [.int .i64 3, .int .i64 5], 2⟩, ⟨nx14 + 1, [.int .i64 0, .int .i64 1], 2⟩]) [] (RFacts.nil _ _ _) 5 [.no, .no, .no, .no, .no] (by kernel_rfl) (by kernel_rfl) ?_
              refine RL.freezeL (d := (Ty.int .i64)) (xs := [3, 5]) (b := ⟨nx14, [.int .i64 3, .int .i64 5], 2⟩) 4 (by kernel_rfl) ⟨_, _, rfl, rfl, ⟨_, _, rfl, rfl, rfl⟩⟩ (Nat.le_of_ble_eq_true rfl) (fun I36 hi36 hr27 => ?_)
              refine RL.freezeL (d := (Ty.int .i64)) (xs := [0, 1]) (b := ⟨nx14 + 1, [.int .i64 0, .int .i64 1], 2⟩) 4 (by kernel_rfl) ⟨_, _, rfl, rfl, ⟨_, _, rfl, rfl, rfl⟩⟩ (Nat.le_of_ble_eq_true rfl) (fun I37 hi37 hr28 => ?_)
              obtain ⟨t14, hA14, H⟩ := Option.bind_eq_some_iff.mp H
              refine RL.callP 20 [.slice (some ⟨nx0 + 2, 0, none⟩) 2 2, .slice A1 t1.1.length c1, .agg #[.slice (some ⟨nx14, 0, none⟩) 2 2, .slice (some ⟨nx14 + 1, 0, none⟩) 2 2]] (some 138) (fun w v w' => ∃ I', Imm.le I37 I' ∧ assign_VerifyDuals.Post I' w t14 v w') (by kernel_rfl) (by kernel_rfl) (fun w hs => ?_) ?_
              ·skip
               obtain ⟨JL6, hj6, hn6, hw6, hs⟩ := Sat.freeze (e := 3) (sz := 1) (S := A1) (n := t1.1.length) (cap := c1) (m := 0) hs (by kernel_rfl) (Reps.ext (Imm.le_trans (Imm.le_trans (Imm.le_trans (Imm.le_trans (Imm.le_trans (Imm.le_trans (Imm.le_trans (Imm.le_trans (Imm.le_trans (Imm.le_trans (Imm.le_trans (Imm.le_trans (Imm.le_trans (Imm.le_trans (Imm.le_trans (Imm.le_trans (Imm.le_trans (Imm.le_trans (Imm.le_trans (Imm.le_trans (Imm.le_trans (Imm.le_trans (Imm.le_trans (Imm.le_trans (Imm.le_trans (Imm.le_trans (Imm.le_trans (Imm.le_trans (Imm.le_trans (Imm.le_trans (Imm.le_trans hi5 hi6) hi7) hi8) hi9) hi10) hi11) hi12) hi13) hi14) hi15) hi16) hi17) hi18) hi19) hi20) hi21) hi22) hi23) hi24) hi25) hi26) hi27) hi28) hi29) hi31) hi32) hi33) hi34) hi35) hi36) hi37) hp1) rfl
               exact (assign_VerifyDuals.calls k JL6 [[3, 5], [4, 7]] (some ⟨nx0 + 2, 0, none⟩) 2 t1.1 A1 c1 (⟨[3, 5], [0, 1]⟩ : S26) (some ⟨nx14, 0, none⟩) 2 (some ⟨nx14 + 1, 0, none⟩) 2 _ hs.im (Nat.le_of_ble_eq_true rfl) (Rd.ext hj6 (Rd.ext (Imm.le_trans (Imm.le_trans (Imm.le_trans (Imm.le_trans (Imm.le_trans (Imm.le_trans (Imm.le_trans (Imm.le_trans (Imm.le_trans (Imm.le_trans (Imm.le_trans (Imm.le_trans (Imm.le_trans (Imm.le_trans (Imm.le_trans (Imm.le_trans (Imm.le_trans (Imm.le_trans (Imm.le_trans (Imm.le_trans (Imm.le_trans (Imm.le_trans (Imm.le_trans (Imm.le_trans (Imm.le_trans (Imm.le_trans (Imm.le_trans (Imm.le_trans (Imm.le_trans (Imm.le_trans (Imm.le_trans (Imm.le_trans hi4 hi5) hi6) hi7) hi8) hi9) hi10) hi11) hi12) hi13) hi14) hi15) hi16) hi17) hi18) hi19) hi20) hi21) hi22) hi23) hi24) hi25) hi26) hi27) hi28) hi29) hi31) hi32) hi33) hi34) hi35) hi36) hi37) hr3)) hn6 hw6 (Nat.le_of_ble_eq_true rfl) (Rd.ext hj6 (Rd.ext hi37 hr27)) (Nat.le_of_ble_eq_true rfl) (Rd.ext hj6 hr28) t14 hA14).mono (fun e w' ⟨v, hv, hp⟩ => ⟨v, hv, JL6, hj6, hp⟩)
              rintro w v w' hs ⟨I', hle, J, rfl, hg⟩
              refine RL.resume (X' := [orow 3 1 A1 t1.1.length c1 cs1, orow 3 1 A4 t2.1.length c4 cs4, orow 3 1 A7 t3.1.length c7 cs7, orow 3 1 A10 t4.1.length c10 cs10]) rfl (hs.call (hg.back hle)) ?_
              clear hs hg hle I' J
              generalize w'.heap.size = nx15
              clear w w'
              refine RL.simK (K' := [(141, .bool (!t14)), (2, .slice A1 t1.1.length c1), (1, .slice (some ⟨nx0 + 2, 0, none⟩) 2 2)]) [] (RFacts.nil _ _ _) 3 [.no, .no, .no] (by kernel_rfl) (by kernel_rfl) ?_
              refine RL.cases t14 (fun hb => ?_) (fun hb => ?_)
              ·have hc := hb
               rw [hb]
               rw [if_pos hc] at H; clear hb
               refine RL.simK (K' := [(0, .bool false)]) [] (RFacts.nil _ _ _) 38 (.no :: .no :: .no :: .no :: .no :: .no :: .no :: .no :: .no :: .no :: .no :: .no :: .no :: .no :: .no :: .no :: .no :: .no :: .no :: .no :: .no :: .no :: .no :: .no :: .no :: .no :: .no :: .no :: .no :: .no :: .no :: .no :: .no :: .no :: .no :: .no :: .no :: .no :: []) (by kernel_rfl) (by kernel_rfl) ?_
               refine RL.nil (by kernel_rfl) ?_
               obtain rfl := Option.some.inj H
               refine QN.sel (K' := [(0, .bool false)]) (L' := [⟨nx1, [.slice A2 t1.2.f0.length c2, .slice A3 t1.2.f1.length c3], 26⟩, ⟨nx2, [.slice A5 t2.2.f0.length c5, .slice A6 t2.2.f1.length c6], 26⟩, ⟨nx3, [.slice A8 t3.2.f0.length c8, .slice A9 t3.2.f1.length c9], 26⟩, ⟨nx4, [.slice A11 t4.2.f0.length c11, .slice A12 t4.2.f1.length c12], 26⟩]) [] (by kernel_rfl) (by kernel_rfl) (.cons_cons _ (.cons_cons _ (.cons_cons _ (.cons_cons _ .slnil)))) ?_
               refine QN.norm (X' := []) rfl rfl rfl (by kernel_rfl) ?_
               exact hJ1 _ _ _ _ _ ⟨false, rfl, rfl, rfl, (Imm.le_trans (Imm.le_trans (Imm.le_trans (Imm.le_trans (Imm.le_trans (Imm.le_trans hi31 hi32) hi33) hi34) hi35) hi36) hi37), HK1⟩
              ·have hc := (Bool.eq_false_iff.1 hb)
               rw [hb]
               rw [if_neg hc] at H; clear hb
               refine RL.simP (K' := [(146, .agg #[.slice (some ⟨nx15, 0, none⟩) 2 2, .slice (some ⟨nx15 + 1, 0, none⟩) 2 2]), (143, .slice A1 t1.1.length c1), (142, .slice (some ⟨nx0 + 2, 0, none⟩) 2 2), (141, .bool true), (1, .slice (some ⟨nx0 + 2, 0, none⟩) 2 2)]) (nx' := nx15 + 2) (L' := [⟨nx1, [.slice A2 t1.2.f0.length c2, .slice A3 t1.2.f1.length c3], 26⟩, ⟨nx2, [.slice A5 t2.2.f0.length c5, .slice A6 t2.2.f1.length c6], 26⟩, ⟨nx3, [.slice A8 t3.2.f0.length c8, .slice A9 t3.2.f1.length c9], 26⟩, ⟨nx4, [.slice A11 t4.2.f0.length c11, .slice A12 t4.2.f1.length c12], 26⟩, ⟨nx15, [.int .i64 4, .int .i64 5], 2⟩, ⟨nx15 + 1, [.int .i64 0, .int .i64 2], 2⟩]) [] (RFacts.nil _ _ _) 5 [.no, .no, .no, .no, .no] (by kernel_rfl) (by kernel_rfl) ?_
               refine RL.freezeL (d := (Ty.int .i64)) (xs := [4, 5]) (b := ⟨nx15, [.int .i64 4, .int .i64 5], 2⟩) 4 (by kernel_rfl) ⟨_, _, rfl, rfl, ⟨_, _, rfl, rfl, rfl⟩⟩ (Nat.le_of_ble_eq_true rfl) (fun I38 hi38 hr29 => ?_)
               refine RL.freezeL (d := (Ty.int .i64)) (xs := [0, 2]) (b := ⟨nx15 + 1, [.int .i64 0, .int .i64 2], 2⟩) 4 (by kernel_rfl) ⟨_, _, rfl, rfl, ⟨_, _, rfl, rfl, rfl⟩⟩ (Nat.le_of_ble_eq_true rfl) (fun I39 hi39 hr30 => ?_)
               obtain ⟨t15, hA15, H⟩ := Option.bind_eq_some_iff.mp H
               refine RL.callP 20 [.slice (some ⟨nx0 + 2, 0, none⟩) 2 2, .slice A1 t1.1.length c1, .agg #[.slice (some ⟨nx15, 0, none⟩) 2 2, .slice (some ⟨nx15 + 1, 0, none⟩) 2 2]] (some 147) (fun w v w' => ∃ I', Imm.le I39 I' ∧ assign_VerifyDuals.Post I' w t15 v w') (by kernel_rfl) (by kernel_rfl) (fun w hs => ?_) ?_
               ·skip
                obtain ⟨JL7, hj7, hn7, hw7, hs⟩ := Sat.freeze (e := 3) (sz := 1) (S := A1) (n := t1.1.length) (cap := c1) (m := 0) hs (by kernel_rfl) (Reps.ext (Imm.le_trans (Imm.le_trans (Imm.le_trans (Imm.le_trans (Imm.le_trans (Imm.le_trans (Imm.le_trans (Imm.le_trans (Imm.le_trans (Imm.le_trans (Imm.le_trans (Imm.le_trans (Imm.le_trans (Imm.le_trans (Imm.le_trans (Imm.le_trans (Imm.le_trans (Imm.le_trans (Imm.le_trans (Imm.le_trans (Imm.le_trans (Imm.le_trans (Imm.le_trans (Imm.le_trans (Imm.le_trans (Imm.le_trans (Imm.le_trans (Imm.le_trans (Imm.le_trans (Imm.le_trans (Imm.le_trans (Imm.le_trans (Imm.le_trans hi5 hi6) hi7) hi8) hi9) hi10) hi11) hi12) hi13) hi14) hi15) hi16) hi17) hi18) hi19) hi20) hi21) hi22) hi23) hi24) hi25) hi26) hi27) hi28) hi29) hi31) hi32) hi33) hi34) hi35) hi36) hi37) hi38) hi39) hp1) rfl
                exact (assign_VerifyDuals.calls k JL7 [[3, 5], [4, 7]] (some ⟨nx0 + 2, 0, none⟩) 2 t1.1 A1 c1 (⟨[4, 5], [0, 2]⟩ : S26) (some ⟨nx15, 0, none⟩) 2 (some ⟨nx15 + 1, 0, none⟩) 2 _ hs.im (Nat.le_of_ble_eq_true rfl) (Rd.ext hj7 (Rd.ext (Imm.le_trans (Imm.le_trans (Imm.le_trans (Imm.le_trans (Imm.le_trans (Imm.le_trans (Imm.le_trans (Imm.le_trans (Imm.le_trans (Imm.le_trans (Imm.le_trans (Imm.le_trans (Imm.le_trans (Imm.le_trans (Imm.le_trans (Imm.le_trans (Imm.le_trans (Imm.le_trans (Imm.le_trans (Imm.le_trans (Imm.le_trans (Imm.le_trans (Imm.le_trans (Imm.le_trans (Imm.le_trans (Imm.le_trans (Imm.le_trans (Imm.le_trans (Imm.le_trans (Imm.le_trans (Imm.le_trans (Imm.le_trans (Imm.le_trans (Imm.le_trans hi4 hi5) hi6) hi7) hi8) hi9) hi10) hi11) hi12) hi13) hi14) hi15) hi16) hi17) hi18) hi19) hi20) hi21) hi22) hi23) hi24) hi25) hi26) hi27) hi28) hi29) hi31) hi32) hi33) hi34) hi35) hi36) hi37) hi38) hi39) hr3)) hn7 hw7 (Nat.le_of_ble_eq_true rfl) (Rd.ext hj7 (Rd.ext hi39 hr29)) (Nat.le_of_ble_eq_true rfl) (Rd.ext hj7 hr30) t15 hA15).mono (fun e w' ⟨v, hv, hp⟩ => ⟨v, hv, JL7, hj7, hp⟩)
               rintro w v w' hs ⟨I', hle, J, rfl, hg⟩
               refine RL.resume (X' := [orow 3 1 A1 t1.1.length c1 cs1, orow 3 1 A4 t2.1.length c4 cs4, orow 3 1 A7 t3.1.length c7 cs7, orow 3 1 A10 t4.1.length c10 cs10]) rfl (hs.call (hg.back hle)) ?_
               clear hs hg hle I' J
               generalize w'.heap.size = nx16
               clear w w'
               refine RL.simK (K' := [(150, .bool (!t15)), (1, .slice (some ⟨nx0 + 2, 0, none⟩) 2 2)]) [] (RFacts.nil _ _ _) 3 [.no, .no, .no] (by kernel_rfl) (by kernel_rfl) ?_
               refine RL.cases t15 (fun hb => ?_) (fun hb => ?_)
               ·have hc := hb
                rw [hb]
                rw [if_pos hc] at H; clear hb
                refine RL.simK (K' := [(0, .bool false)]) [] (RFacts.nil _ _ _) 29 (.no :: .no :: .no :: .no :: .no :: .no :: .no :: .no :: .no :: .no :: .no :: .no :: .no :: .no :: .no :: .no :: .no :: .no :: .no :: .no :: .no :: .no :: .no :: .no :: .no :: .no :: .no :: .no :: .no :: []) (by kernel_rfl) (by kernel_rfl) ?_
                refine RL.nil (by kernel_rfl) ?_
                obtain rfl := Option.some.inj H
                refine QN.sel (K' := [(0, .bool false)]) (L' := [⟨nx1, [.slice A2 t1.2.f0.length c2, .slice A3 t1.2.f1.length c3], 26⟩, ⟨nx2, [.slice A5 t2.2.f0.length c5, .slice A6 t2.2.f1.length c6], 26⟩, ⟨nx3, [.slice A8 t3.2.f0.length c8, .slice A9 t3.2.f1.length c9], 26⟩, ⟨nx4, [.slice A11 t4.2.f0.length c11, .slice A12 t4.2.f1.length c12], 26⟩]) [] (by kernel_rfl) (by kernel_rfl) (.cons_cons _ (.cons_cons _ (.cons_cons _ (.cons_cons _ .slnil)))) ?_
                refine QN.norm (X' := []) rfl rfl rfl (by kernel_rfl) ?_
                exact hJ1 _ _ _ _ _ ⟨false, rfl, rfl, rfl, (Imm.le_trans (Imm.le_trans (Imm.le_trans (Imm.le_trans (Imm.le_trans (Imm.le_trans (Imm.le_trans (Imm.le_trans hi31 hi32) hi33) hi34) hi35) hi36) hi37) hi38) hi39), HK1⟩
               ·have hc := (Bool.eq_false_iff.1 hb)
                rw [hb]
                rw [if_neg hc] at H; clear hb
                refine RL.simP (K' := [(155, .agg #[.slice (some ⟨nx16 + 1, 0, none⟩) 2 2, .slice (some ⟨nx16 + 2, 0, none⟩) 2 2]), (152, .slice (some ⟨nx16, 0, none⟩) 2 2), (151, .slice (some ⟨nx0 + 2, 0, none⟩) 2 2), (150, .bool true), (1, .slice (some ⟨nx0 + 2, 0, none⟩) 2 2)]) (nx' := nx16 + 3) (L' := [⟨nx1, [.slice A2 t1.2.f0.length c2, .slice A3 t1.2.f1.length c3], 26⟩, ⟨nx2, [.slice A5 t2.2.f0.length c5, .slice A6 t2.2.f1.length c6], 26⟩, ⟨nx3, [.slice A8 t3.2.f0.length c8, .slice A9 t3.2.f1.length c9], 26⟩, ⟨nx4, [.slice A11 t4.2.f0.length c11, .slice A12 t4.2.f1.length c12], 26⟩, ⟨nx16, [.int .i64 1, .int .i64 0], 3⟩, ⟨nx16 + 1, [.int .i64 3, .int .i64 5], 2⟩, ⟨nx16 + 2, [.int .i64 0, .int .i64 2], 2⟩]) [] (RFacts.nil _ _ _) 5 [.no, .no, .no, .no, .no] (by kernel_rfl) (by kernel_rfl) ?_
                refine RL.freezeL (d := (Ty.int .i64)) (xs := [1, 0]) (b := ⟨nx16, [.int .i64 1, .int .i64 0], 3⟩) 4 (by kernel_rfl) ⟨_, _, rfl, rfl, ⟨_, _, rfl, rfl, rfl⟩⟩ (Nat.le_of_ble_eq_true rfl) (fun I40 hi40 hr31 => ?_)
                refine RL.freezeL (d := (Ty.int .i64)) (xs := [3, 5]) (b := ⟨nx16 + 1, [.int .i64 3, .int .i64 5], 2⟩) 4 (by kernel_rfl) ⟨_, _, rfl, rfl, ⟨_, _, rfl, rfl, rfl⟩⟩ (Nat.le_of_ble_eq_true rfl) (fun I41 hi41 hr32 => ?_)
                refine RL.freezeL (d := (Ty.int .i64)) (xs := [0, 2]) (b := ⟨nx16 + 2, [.int .i64 0, .int .i64 2], 2⟩) 4 (by kernel_rfl) ⟨_, _, rfl, rfl, ⟨_, _, rfl, rfl, rfl⟩⟩ (Nat.le_of_ble_eq_true rfl) (fun I42 hi42 hr33 => ?_)
                obtain ⟨t16, hA16, H⟩ := Option.bind_eq_some_iff.mp H
                refine RL.callP 20 [.slice (some ⟨nx0 + 2, 0, none⟩) 2 2, .slice (some ⟨nx16, 0, none⟩) 2 2, .agg #[.slice (some ⟨nx16 + 1, 0, none⟩) 2 2, .slice (some ⟨nx16 + 2, 0, none⟩) 2 2]] (some 156) (fun w => assign_VerifyDuals.Post I42 w t16) (by kernel_rfl) (by kernel_rfl) (fun w hs => assign_VerifyDuals.calls k I42 [[3, 5], [4, 7]] (some ⟨nx0 + 2, 0, none⟩) 2 [1, 0] (some ⟨nx16, 0, none⟩) 2 (⟨[3, 5], [0, 2]⟩ : S26) (some ⟨nx16 + 1, 0, none⟩) 2 (some ⟨nx16 + 2, 0, none⟩) 2 w hs.im (Nat.le_of_ble_eq_true rfl) (Rd.ext (Imm.le_trans (Imm.le_trans (Imm.le_trans (Imm.le_trans (Imm.le_trans (Imm.le_trans (Imm.le_trans (Imm.le_trans (Imm.le_trans (Imm.le_trans (Imm.le_trans (Imm.le_trans (Imm.le_trans (Imm.le_trans (Imm.le_trans (Imm.le_trans (Imm.le_trans (Imm.le_trans (Imm.le_trans (Imm.le_trans (Imm.le_trans (Imm.le_trans (Imm.le_trans (Imm.le_trans (Imm.le_trans (Imm.le_trans (Imm.le_trans (Imm.le_trans (Imm.le_trans (Imm.le_trans (Imm.le_trans (Imm.le_trans (Imm.le_trans (Imm.le_trans (Imm.le_trans (Imm.le_trans (Imm.le_trans hi4 hi5) hi6) hi7) hi8) hi9) hi10) hi11) hi12) hi13) hi14) hi15) hi16) hi17) hi18) hi19) hi20) hi21) hi22) hi23) hi24) hi25) hi26) hi27) hi28) hi29) hi31) hi32) hi33) hi34) hi35) hi36) hi37) hi38) hi39) hi40) hi41) hi42) hr3) (Nat.le_of_ble_eq_true rfl) (Rd.ext (Imm.le_trans hi41 hi42) hr31) (Nat.le_of_ble_eq_true rfl) (Rd.ext hi42 hr32) (Nat.le_of_ble_eq_true rfl) hr33 t16 hA16) ?_
                rintro w v w' hs ⟨I43, rfl, hg⟩
                have hi43 := hg.le
                refine RL.resume (X' := [orow 3 1 A1 t1.1.length c1 cs1, orow 3 1 A4 t2.1.length c4 cs4, orow 3 1 A7 t3.1.length c7 cs7, orow 3 1 A10 t4.1.length c10 cs10]) rfl (hs.call hg) ?_
                clear hs hg
                generalize w'.heap.size = nx17
                clear w w'
                refine RL.simK (K' := [(159, .bool (!t16)), (1, .slice (some ⟨nx0 + 2, 0, none⟩) 2 2)]) [] (RFacts.nil _ _ _) 3 [.no, .no, .no] (by kernel_rfl) (by kernel_rfl) ?_
                refine RL.cases t16 (fun hb => ?_) (fun hb => ?_)
                ·have hc := hb
                 rw [hb]
                 rw [if_pos hc] at H; clear hb
                 refine RL.simK (K' := [(0, .bool false)]) [] (RFacts.nil _ _ _) 20 [.no, .no, .no, .no, .no, .no, .no, .no, .no, .no, .no, .no, .no, .no, .no, .no, .no, .no, .no, .no] (by kernel_rfl) (by kernel_rfl) ?_
                 refine RL.nil (by kernel_rfl) ?_
                 obtain rfl := Option.some.inj H
                 refine QN.sel (K' := [(0, .bool false)]) (L' := [⟨nx1, [.slice A2 t1.2.f0.length c2, .slice A3 t1.2.f1.length c3], 26⟩, ⟨nx2, [.slice A5 t2.2.f0.length c5, .slice A6 t2.2.f1.length c6], 26⟩, ⟨nx3, [.slice A8 t3.2.f0.length c8, .slice A9 t3.2.f1.length c9], 26⟩, ⟨nx4, [.slice A11 t4.2.f0.length c11, .slice A12 t4.2.f1.length c12], 26⟩]) [] (by kernel_rfl) (by kernel_rfl) (.cons_cons _ (.cons_cons _ (.cons_cons _ (.cons_cons _ .slnil)))) ?_
                 refine QN.norm (X' := []) rfl rfl rfl (by kernel_rfl) ?_
                 exact hJ1 _ _ _ _ _ ⟨false, rfl, rfl, rfl, (Imm.le_trans (Imm.le_trans (Imm.le_trans (Imm.le_trans (Imm.le_trans (Imm.le_trans (Imm.le_trans (Imm.le_trans (Imm.le_trans (Imm.le_trans (Imm.le_trans (Imm.le_trans hi31 hi32) hi33) hi34) hi35) hi36) hi37) hi38) hi39) hi40) hi41) hi42) hi43), HK1⟩
                ·have hc := (Bool.eq_false_iff.1 hb)
                 rw [hb]
                 rw [if_neg hc] at H; clear hb
                 refine RL.simK (K' := [(160, .slice (some ⟨nx0 + 2, 0, none⟩) 2 2), (159, .bool true)]) [] (RFacts.nil _ _ _) 1 [.no] (by kernel_rfl) (by kernel_rfl) ?_
                 obtain ⟨t17, hA17, H⟩ := Option.bind_eq_some_iff.mp H
                 refine RL.callP 11 [.slice (some ⟨nx0 + 2, 0, none⟩) 2 2] (some 161) (fun w => assign_Valid.Post I43 w t17) (by kernel_rfl) (by kernel_rfl) (fun w hs => assign_Valid.calls k I43 [[3, 5], [4, 7]] (some ⟨nx0 + 2, 0, none⟩) 2 w hs.im (Nat.le_of_ble_eq_true rfl) (Rd.ext (Imm.le_trans (Imm.le_trans (Imm.le_trans (Imm.le_trans (Imm.le_trans (Imm.le_trans (Imm.le_trans (Imm.le_trans (Imm.le_trans (Imm.le_trans (Imm.le_trans (Imm.le_trans (Imm.le_trans (Imm.le_trans (Imm.le_trans (Imm.le_trans (Imm.le_trans (Imm.le_trans (Imm.le_trans (Imm.le_trans (Imm.le_trans (Imm.le_trans (Imm.le_trans (Imm.le_trans (Imm.le_trans (Imm.le_trans (Imm.le_trans (Imm.le_trans (Imm.le_trans (Imm.le_trans (Imm.le_trans (Imm.le_trans (Imm.le_trans (Imm.le_trans (Imm.le_trans (Imm.le_trans (Imm.le_trans (Imm.le_trans hi4 hi5) hi6) hi7) hi8) hi9) hi10) hi11) hi12) hi13) hi14) hi15) hi16) hi17) hi18) hi19) hi20) hi21) hi22) hi23) hi24) hi25) hi26) hi27) hi28) hi29) hi31) hi32) hi33) hi34) hi35) hi36) hi37) hi38) hi39) hi40) hi41) hi42) hi43) hr3) t17 hA17) ?_
                 rintro w v w' hs ⟨I44, rfl, hg⟩
                 have hi44 := hg.le
                 refine RL.resume (X' := [orow 3 1 A1 t1.1.length c1 cs1, orow 3 1 A4 t2.1.length c4 cs4, orow 3 1 A7 t3.1.length c7 cs7, orow 3 1 A10 t4.1.length c10 cs10]) rfl (hs.call hg) ?_
                 clear hs hg
                 generalize w'.heap.size = nx18
                 clear w w'
                 refine RL.simK (K' := [(163, .bool t17)]) [] (RFacts.nil _ _ _) 2 [.no, .no] (by kernel_rfl) (by kernel_rfl) ?_
                 refine RL.cases t17 (fun hb => ?_) (fun hb => ?_)
                 ·have hc := hb
                  rw [hb]
                  rw [if_pos hc] at H; clear hb
                  obtain ⟨t18, hA18, H⟩ := Option.bind_eq_some_iff.mp H
                  refine RL.callP 11 [.slice none 0 0] (some 164) (fun w => assign_Valid.Post I44 w t18) (by kernel_rfl) (by kernel_rfl) (fun w hs => assign_Valid.calls k I44 [] none 0 w hs.im (Nat.le_refl _) (Rd.nil _ _ _) t18 hA18) ?_
                  rintro w v w' hs ⟨I45, rfl, hg⟩
                  have hi45 := hg.le
                  refine RL.resume (X' := [orow 3 1 A1 t1.1.length c1 cs1, orow 3 1 A4 t2.1.length c4 cs4, orow 3 1 A7 t3.1.length c7 cs7, orow 3 1 A10 t4.1.length c10 cs10]) rfl (hs.call hg) ?_
                  clear hs hg
                  generalize w'.heap.size = nx19
                  clear w w'
                  refine RL.simK (K' := [(166, .bool t18)]) [] (RFacts.nil _ _ _) 2 [.no, .no] (by kernel_rfl) (by kernel_rfl) ?_
                  refine RL.cases t18 (fun hb => ?_) (fun hb => ?_)
                  ·have hc := hb
                   rw [hb]
                   rw [if_pos hc] at H; clear hb
                   refine RL.simP (K' := [(169, .slice (some ⟨nx19 + 2, 0, none⟩) 2 2), (166, .bool true)]) (nx' := nx19 + 3) (L' := [⟨nx1, [.slice A2 t1.2.f0.length c2, .slice A3 t1.2.f1.length c3], 26⟩, ⟨nx2, [.slice A5 t2.2.f0.length c5, .slice A6 t2.2.f1.length c6], 26⟩, ⟨nx3, [.slice A8 t3.2.f0.length c8, .slice A9 t3.2.f1.length c9], 26⟩, ⟨nx4, [.slice A11 t4.2.f0.length c11, .slice A12 t4.2.f1.length c12], 26⟩, ⟨nx19, [.int .i64 1], 2⟩, ⟨nx19 + 1, [], 2⟩, ⟨nx19 + 2, [.slice (some ⟨nx19, 0, none⟩) 1 1, .slice (some ⟨nx19 + 1, 0, none⟩) 0 0], 24⟩]) [] (RFacts.nil _ _ _) 3 [.no, .no, .no] (by kernel_rfl) (by kernel_rfl) ?_
                   refine RL.freezeL (d := (Ty.int .i64)) (xs := [1]) (b := ⟨nx19, [.int .i64 1], 2⟩) 4 (by kernel_rfl) ⟨_, _, rfl, rfl, rfl⟩ (Nat.le_of_ble_eq_true rfl) (fun I46 hi46 hr34 => ?_)
                   refine RL.freezeL (d := (Ty.int .i64)) (xs := []) (b := ⟨nx19 + 1, [], 2⟩) 4 (by kernel_rfl) rfl (Nat.le_of_ble_eq_true rfl) (fun I47 hi47 hr35 => ?_)
                   refine RL.freezeL (d := (Ty.slice (Ty.int .i64))) (xs := [[1], []]) (b := ⟨nx19 + 2, [.slice (some ⟨nx19, 0, none⟩) 1 1, .slice (some ⟨nx19 + 1, 0, none⟩) 0 0], 24⟩) 4 (by kernel_rfl) ⟨_, _, rfl, ⟨_, _, rfl, (Nat.le_of_ble_eq_true rfl), (Rd.ext hi47 hr34)⟩, ⟨_, _, rfl, ⟨_, _, rfl, (Nat.le_of_ble_eq_true rfl), hr35⟩, rfl⟩⟩ (Nat.le_of_ble_eq_true rfl) (fun I48 hi48 hr36 => ?_)
                   obtain ⟨t19, hA19, H⟩ := Option.bind_eq_some_iff.mp H
                   refine RL.callP 11 [.slice (some ⟨nx19 + 2, 0, none⟩) 2 2] (some 170) (fun w => assign_Valid.Post I48 w t19) (by kernel_rfl) (by kernel_rfl) (fun w hs => assign_Valid.calls k I48 [[1], []] (some ⟨nx19 + 2, 0, none⟩) 2 w hs.im (Nat.le_of_ble_eq_true rfl) hr36 t19 hA19) ?_
                   rintro w v w' hs ⟨I49, rfl, hg⟩
                   have hi49 := hg.le
                   refine RL.resume (X' := [orow 3 1 A1 t1.1.length c1 cs1, orow 3 1 A4 t2.1.length c4 cs4, orow 3 1 A7 t3.1.length c7 cs7, orow 3 1 A10 t4.1.length c10 cs10]) rfl (hs.call hg) ?_
                   clear hs hg
                   generalize w'.heap.size = nx20
                   clear w w'
                   refine RL.simK (K' := [(173, .bool (!t19))]) [] (RFacts.nil _ _ _) 3 [.no, .no, .no] (by kernel_rfl) (by kernel_rfl) ?_
                   refine RL.cases t19 (fun hb => ?_) (fun hb => ?_)
                   ·have hc := hb
                    rw [hb]
                    rw [if_pos hc] at H; clear hb
                    refine RL.simK (K' := [(0, .bool false)]) [] (RFacts.nil _ _ _) 6 [.no, .no, .no, .no, .no, .no] (by kernel_rfl) (by kernel_rfl) ?_
                    refine RL.nil (by kernel_rfl) ?_
                    obtain rfl := Option.some.inj H
                    refine QN.sel (K' := [(0, .bool false)]) (L' := [⟨nx1, [.slice A2 t1.2.f0.length c2, .slice A3 t1.2.f1.length c3], 26⟩, ⟨nx2, [.slice A5 t2.2.f0.length c5, .slice A6 t2.2.f1.length c6], 26⟩, ⟨nx3, [.slice A8 t3.2.f0.length c8, .slice A9 t3.2.f1.length c9], 26⟩, ⟨nx4, [.slice A11 t4.2.f0.length c11, .slice A12 t4.2.f1.length c12], 26⟩]) [] (by kernel_rfl) (by kernel_rfl) (.cons_cons _ (.cons_cons _ (.cons_cons _ (.cons_cons _ .slnil)))) ?_
                    refine QN.norm (X' := []) rfl rfl rfl (by kernel_rfl) ?_
                    exact hJ1 _ _ _ _ _ ⟨false, rfl, rfl, rfl, (Imm.le_trans (Imm.le_trans (Imm.le_trans (Imm.le_trans (Imm.le_trans (Imm.le_trans (Imm.le_trans (Imm.le_trans (Imm.le_trans (Imm.le_trans (Imm.le_trans (Imm.le_trans (Imm.le_trans (Imm.le_trans (Imm.le_trans (Imm.le_trans (Imm.le_trans (Imm.le_trans hi31 hi32) hi33) hi34) hi35) hi36) hi37) hi38) hi39) hi40) hi41) hi42) hi43) hi44) hi45) hi46) hi47) hi48) hi49), HK1⟩
                   ·have hc := (Bool.eq_false_iff.1 hb)
                    rw [hb]
                    rw [if_neg hc] at H; clear hb
                    refine RL.simP (K' := [(175, .slice (some ⟨nx20 + 1, 0, none⟩) 1 1), (173, .bool true)]) (nx' := nx20 + 2) (L' := [⟨nx1, [.slice A2 t1.2.f0.length c2, .slice A3 t1.2.f1.length c3], 26⟩, ⟨nx2, [.slice A5 t2.2.f0.length c5, .slice A6 t2.2.f1.length c6], 26⟩, ⟨nx3, [.slice A8 t3.2.f0.length c8, .slice A9 t3.2.f1.length c9], 26⟩, ⟨nx4, [.slice A11 t4.2.f0.length c11, .slice A12 t4.2.f1.length c12], 26⟩, ⟨nx20, [.int .i64 (-1)], 2⟩, ⟨nx20 + 1, [.slice (some ⟨nx20, 0, none⟩) 1 1], 24⟩]) [] (RFacts.nil _ _ _) 2 [.no, .no] (by kernel_rfl) (by kernel_rfl) ?_
                    refine RL.freezeL (d := (Ty.int .i64)) (xs := [(-1)]) (b := ⟨nx20, [.int .i64 (-1)], 2⟩) 4 (by kernel_rfl) ⟨_, _, rfl, rfl, rfl⟩ (Nat.le_of_ble_eq_true rfl) (fun I50 hi50 hr37 => ?_)
                    refine RL.freezeL (d := (Ty.slice (Ty.int .i64))) (xs := [[(-1)]]) (b := ⟨nx20 + 1, [.slice (some ⟨nx20, 0, none⟩) 1 1], 24⟩) 4 (by kernel_rfl) ⟨_, _, rfl, ⟨_, _, rfl, (Nat.le_of_ble_eq_true rfl), hr37⟩, rfl⟩ (Nat.le_of_ble_eq_true rfl) (fun I51 hi51 hr38 => ?_)
                    obtain ⟨t20, hA20, H⟩ := Option.bind_eq_some_iff.mp H
                    refine RL.callP 11 [.slice (some ⟨nx20 + 1, 0, none⟩) 1 1] (some 176) (fun w => assign_Valid.Post I51 w t20) (by kernel_rfl) (by kernel_rfl) (fun w hs => assign_Valid.calls k I51 [[(-1)]] (some ⟨nx20 + 1, 0, none⟩) 1 w hs.im (Nat.le_of_ble_eq_true rfl) hr38 t20 hA20) ?_
                    rintro w v w' hs ⟨I52, rfl, hg⟩
                    have hi52 := hg.le
                    refine RL.resume (X' := [orow 3 1 A1 t1.1.length c1 cs1, orow 3 1 A4 t2.1.length c4 cs4, orow 3 1 A7 t3.1.length c7 cs7, orow 3 1 A10 t4.1.length c10 cs10]) rfl (hs.call hg) ?_
                    clear hs hg
                    generalize w'.heap.size = nx21
                    clear w w'
                    refine RL.simK (K' := [(0, .bool (!t20))]) [] (RFacts.nil _ _ _) 3 [.no, .no, .no] (by kernel_rfl) (by kernel_rfl) ?_
                    refine RL.nil (by kernel_rfl) ?_
                    obtain rfl := Option.some.inj H
                    refine QN.sel (K' := [(0, .bool (!t20))]) (L' := [⟨nx1, [.slice A2 t1.2.f0.length c2, .slice A3 t1.2.f1.length c3], 26⟩, ⟨nx2, [.slice A5 t2.2.f0.length c5, .slice A6 t2.2.f1.length c6], 26⟩, ⟨nx3, [.slice A8 t3.2.f0.length c8, .slice A9 t3.2.f1.length c9], 26⟩, ⟨nx4, [.slice A11 t4.2.f0.length c11, .slice A12 t4.2.f1.length c12], 26⟩]) [] (by kernel_rfl) (by kernel_rfl) (.cons_cons _ (.cons_cons _ (.cons_cons _ (.cons_cons _ .slnil)))) ?_
                    refine QN.norm (X' := []) rfl rfl rfl (by kernel_rfl) ?_
                    exact hJ1 _ _ _ _ _ ⟨(!t20), rfl, rfl, rfl, (Imm.le_trans (Imm.le_trans (Imm.le_trans (Imm.le_trans (Imm.le_trans (Imm.le_trans (Imm.le_trans (Imm.le_trans (Imm.le_trans (Imm.le_trans (Imm.le_trans (Imm.le_trans (Imm.le_trans (Imm.le_trans (Imm.le_trans (Imm.le_trans (Imm.le_trans (Imm.le_trans (Imm.le_trans (Imm.le_trans (Imm.le_trans hi31 hi32) hi33) hi34) hi35) hi36) hi37) hi38) hi39) hi40) hi41) hi42) hi43) hi44) hi45) hi46) hi47) hi48) hi49) hi50) hi51) hi52), HK1⟩
                  ·have hc := (Bool.eq_false_iff.1 hb)
                   rw [hb]
                   rw [if_neg hc] at H; clear hb
                   refine RL.simK (K' := [(0, .bool false)]) [] (RFacts.nil _ _ _) 13 [.no, .no, .no, .no, .no, .no, .no, .no, .no, .no, .no, .no, .no] (by kernel_rfl) (by kernel_rfl) ?_
                   refine RL.nil (by kernel_rfl) ?_
                   obtain rfl := Option.some.inj H
                   refine QN.sel (K' := [(0, .bool false)]) (L' := [⟨nx1, [.slice A2 t1.2.f0.length c2, .slice A3 t1.2.f1.length c3], 26⟩, ⟨nx2, [.slice A5 t2.2.f0.length c5, .slice A6 t2.2.f1.length c6], 26⟩, ⟨nx3, [.slice A8 t3.2.f0.length c8, .slice A9 t3.2.f1.length c9], 26⟩, ⟨nx4, [.slice A11 t4.2.f0.length c11, .slice A12 t4.2.f1.length c12], 26⟩]) [] (by kernel_rfl) (by kernel_rfl) (.cons_cons _ (.cons_cons _ (.cons_cons _ (.cons_cons _ .slnil)))) ?_
                   refine QN.norm (X' := []) rfl rfl rfl (by kernel_rfl) ?_
                   exact hJ1 _ _ _ _ _ ⟨false, rfl, rfl, rfl, (Imm.le_trans (Imm.le_trans (Imm.le_trans (Imm.le_trans (Imm.le_trans (Imm.le_trans (Imm.le_trans (Imm.le_trans (Imm.le_trans (Imm.le_trans (Imm.le_trans (Imm.le_trans (Imm.le_trans (Imm.le_trans hi31 hi32) hi33) hi34) hi35) hi36) hi37) hi38) hi39) hi40) hi41) hi42) hi43) hi44) hi45), HK1⟩
                 ·have hc := (Bool.eq_false_iff.1 hb)
                  rw [hb]
                  rw [if_neg hc] at H; clear hb
                  refine RL.simK (K' := [(0, .bool false)]) [] (RFacts.nil _ _ _) 16 [.no, .no, .no, .no, .no, .no, .no, .no, .no, .no, .no, .no, .no, .no, .no, .no] (by kernel_rfl) (by kernel_rfl) ?_
                  refine RL.nil (by kernel_rfl) ?_
                  obtain rfl := Option.some.inj H
                  refine QN.sel (K' := [(0, .bool false)]) (L' := [⟨nx1, [.slice A2 t1.2.f0.length c2, .slice A3 t1.2.f1.length c3], 26⟩, ⟨nx2, [.slice A5 t2.2.f0.length c5, .slice A6 t2.2.f1.length c6], 26⟩, ⟨nx3, [.slice A8 t3.2.f0.length c8, .slice A9 t3.2.f1.length c9], 26⟩, ⟨nx4, [.slice A11 t4.2.f0.length c11, .slice A12 t4.2.f1.length c12], 26⟩]) [] (by kernel_rfl) (by kernel_rfl) (.cons_cons _ (.cons_cons _ (.cons_cons _ (.cons_cons _ .slnil)))) ?_
                  refine QN.norm (X' := []) rfl rfl rfl (by kernel_rfl) ?_
                  exact hJ1 _ _ _ _ _ ⟨false, rfl, rfl, rfl, (Imm.le_trans (Imm.le_trans (Imm.le_trans (Imm.le_trans (Imm.le_trans (Imm.le_trans (Imm.le_trans (Imm.le_trans (Imm.le_trans (Imm.le_trans (Imm.le_trans (Imm.le_trans (Imm.le_trans hi31 hi32) hi33) hi34) hi35) hi36) hi37) hi38) hi39) hi40) hi41) hi42) hi43) hi44), HK1⟩
             ·have hc := (Bool.eq_false_iff.1 hb)
              rw [hb]
              rw [if_neg hc] at H; clear hb
              refine RL.simK (K' := [(0, .bool false)]) [] (RFacts.nil _ _ _) 47 (.no :: .no :: .no :: .no :: .no :: .no :: .no :: .no :: .no :: .no :: .no :: .no :: .no :: .no :: .no :: .no :: .no :: .no :: .no :: .no :: .no :: .no :: .no :: .no :: .no :: .no :: .no :: .no :: .no :: .no :: .no :: .no :: .no :: .no :: .no :: .no :: .no :: .no :: .no :: .no :: .no :: .no :: .no :: .no :: .no :: .no :: .no :: []) (by kernel_rfl) (by kernel_rfl) ?_
              refine RL.nil (by kernel_rfl) ?_
              obtain rfl := Option.some.inj H
              refine QN.sel (K' := [(0, .bool false)]) (L' := [⟨nx1, [.slice A2 t1.2.f0.length c2, .slice A3 t1.2.f1.length c3], 26⟩, ⟨nx2, [.slice A5 t2.2.f0.length c5, .slice A6 t2.2.f1.length c6], 26⟩, ⟨nx3, [.slice A8 t3.2.f0.length c8, .slice A9 t3.2.f1.length c9], 26⟩, ⟨nx4, [.slice A11 t4.2.f0.length c11, .slice A12 t4.2.f1.length c12], 26⟩]) [] (by kernel_rfl) (by kernel_rfl) (.cons_cons _ (.cons_cons _ (.cons_cons _ (.cons_cons _ .slnil)))) ?_
              refine QN.norm (X' := []) rfl rfl rfl (by kernel_rfl) ?_
              exact hJ1 _ _ _ _ _ ⟨false, rfl, rfl, rfl, (Imm.le_trans (Imm.le_trans (Imm.le_trans (Imm.le_trans hi31 hi32) hi33) hi34) hi35), HK1⟩
          ·have hc := (Bool.eq_false_iff.1 hb)
           rw [hb]
           rw [if_neg hc] at H; clear hb
           refine RL.simK (K' := [(0, .bool false)]) [] (RFacts.nil _ _ _) 63 (.no :: .no :: .no :: .no :: .no :: .no :: .no :: .no :: .no :: .no :: .no :: .no :: .no :: .no :: .no :: .no :: .no :: .no :: .no :: .no :: .no :: .no :: .no :: .no :: .no :: .no :: .no :: .no :: .no :: .no :: .no :: .no :: .no :: .no :: .no :: .no :: .no :: .no :: .no :: .no :: .no :: .no :: .no :: .no :: .no :: .no :: .no :: .no :: .no :: .no :: .no :: .no :: .no :: .no :: .no :: .no :: .no :: .no :: .no :: .no :: .no :: .no :: .no :: []) (by kernel_rfl) (by kernel_rfl) ?_
           refine RL.nil (by kernel_rfl) ?_
           obtain rfl := Option.some.inj H
           refine QN.sel (K' := [(0, .bool false)]) (L' := [⟨nx1, [.slice A2 t1.2.f0.length c2, .slice A3 t1.2.f1.length c3], 26⟩, ⟨nx2, [.slice A5 t2.2.f0.length c5, .slice A6 t2.2.f1.length c6], 26⟩, ⟨nx3, [.slice A8 t3.2.f0.length c8, .slice A9 t3.2.f1.length c9], 26⟩, ⟨nx4, [.slice A11 t4.2.f0.length c11, .slice A12 t4.2.f1.length c12], 26⟩]) [] (by kernel_rfl) (by kernel_rfl) (.cons_cons _ (.cons_cons _ (.cons_cons _ (.cons_cons _ .slnil)))) ?_
           refine QN.norm (X' := []) rfl rfl rfl (by kernel_rfl) ?_
           exact hJ1 _ _ _ _ _ ⟨false, rfl, rfl, rfl, (Imm.le_trans (Imm.le_trans hi31 hi32) hi33), HK1⟩
         ·have hc := (beq_eq_false_iff_ne.1 hb)
          rw [hb]
          rw [if_neg hc] at H; clear hb
          refine RL.simK (K' := [(0, .bool false)]) [] (RFacts.nil _ _ _) 66 (.no :: .no :: .no :: .no :: .no :: .no :: .no :: .no :: .no :: .no :: .no :: .no :: .no :: .no :: .no :: .no :: .no :: .no :: .no :: .no :: .no :: .no :: .no :: .no :: .no :: .no :: .no :: .no :: .no :: .no :: .no :: .no :: .no :: .no :: .no :: .no :: .no :: .no :: .no :: .no :: .no :: .no :: .no :: .no :: .no :: .no :: .no :: .no :: .no :: .no :: .no :: .no :: .no :: .no :: .no :: .no :: .no :: .no :: .no :: .no :: .no :: .no :: .no :: .no :: .no :: .no :: []) (by kernel_rfl) (by kernel_rfl) ?_
          refine RL.nil (by kernel_rfl) ?_
          obtain rfl := Option.some.inj H
          refine QN.sel (K' := [(0, .bool false)]) (L' := [⟨nx1, [.slice A2 t1.2.f0.length c2, .slice A3 t1.2.f1.length c3], 26⟩, ⟨nx2, [.slice A5 t2.2.f0.length c5, .slice A6 t2.2.f1.length c6], 26⟩, ⟨nx3, [.slice A8 t3.2.f0.length c8, .slice A9 t3.2.f1.length c9], 26⟩, ⟨nx4, [.slice A11 t4.2.f0.length c11, .slice A12 t4.2.f1.length c12], 26⟩]) [] (by kernel_rfl) (by kernel_rfl) (.cons_cons _ (.cons_cons _ (.cons_cons _ (.cons_cons _ .slnil)))) ?_
          refine QN.norm (X' := []) rfl rfl rfl (by kernel_rfl) ?_
          exact hJ1 _ _ _ _ _ ⟨false, rfl, rfl, rfl, (Imm.le_trans (Imm.le_trans hi31 hi32) hi33), HK1⟩
        ·have hc := (Bool.eq_false_iff.1 hb)
         rw [hb]
         rw [if_neg hc] at H; clear hb
         refine RL.simK (K' := [(0, .bool false)]) [] (RFacts.nil _ _ _) 70 (.no :: .no :: .no :: .no :: .no :: .no :: .no :: .no :: .no :: .no :: .no :: .no :: .no :: .no :: .no :: .no :: .no :: .no :: .no :: .no :: .no :: .no :: .no :: .no :: .no :: .no :: .no :: .no :: .no :: .no :: .no :: .no :: .no :: .no :: .no :: .no :: .no :: .no :: .no :: .no :: .no :: .no :: .no :: .no :: .no :: .no :: .no :: .no :: .no :: .no :: .no :: .no :: .no :: .no :: .no :: .no :: .no :: .no :: .no :: .no :: .no :: .no :: .no :: .no :: .no :: .no :: .no :: .no :: .no :: .no :: []) (by kernel_rfl) (by kernel_rfl) ?_
         refine RL.nil (by kernel_rfl) ?_
         obtain rfl := Option.some.inj H
         refine QN.sel (K' := [(0, .bool false)]) (L' := [⟨nx1, [.slice A2 t1.2.f0.length c2, .slice A3 t1.2.f1.length c3], 26⟩, ⟨nx2, [.slice A5 t2.2.f0.length c5, .slice A6 t2.2.f1.length c6], 26⟩, ⟨nx3, [.slice A8 t3.2.f0.length c8, .slice A9 t3.2.f1.length c9], 26⟩, ⟨nx4, [.slice A11 t4.2.f0.length c11, .slice A12 t4.2.f1.length c12], 26⟩]) [] (by kernel_rfl) (by kernel_rfl) (.cons_cons _ (.cons_cons _ (.cons_cons _ (.cons_cons _ .slnil)))) ?_
         refine QN.norm (X' := []) rfl rfl rfl (by kernel_rfl) ?_
         exact hJ1 _ _ _ _ _ ⟨false, rfl, rfl, rfl, (Imm.le_trans (Imm.le_trans hi31 hi32) hi33), HK1⟩
       ·have hc := (beq_eq_false_iff_ne.1 hb)
        rw [hb]
        rw [if_neg hc] at H; clear hb
        refine RL.simK (K' := [(0, .bool false)]) [] (RFacts.nil _ _ _) 73 (.no :: .no :: .no :: .no :: .no :: .no :: .no :: .no :: .no :: .no :: .no :: .no :: .no :: .no :: .no :: .no :: .no :: .no :: .no :: .no :: .no :: .no :: .no :: .no :: .no :: .no :: .no :: .no :: .no :: .no :: .no :: .no :: .no :: .no :: .no :: .no :: .no :: .no :: .no :: .no :: .no :: .no :: .no :: .no :: .no :: .no :: .no :: .no :: .no :: .no :: .no :: .no :: .no :: .no :: .no :: .no :: .no :: .no :: .no :: .no :: .no :: .no :: .no :: .no :: .no :: .no :: .no :: .no :: .no :: .no :: .no :: .no :: .no :: []) (by kernel_rfl) (by kernel_rfl) ?_
        refine RL.nil (by kernel_rfl) ?_
        obtain rfl := Option.some.inj H
        refine QN.sel (K' := [(0, .bool false)]) (L' := [⟨nx1, [.slice A2 t1.2.f0.length c2, .slice A3 t1.2.f1.length c3], 26⟩, ⟨nx2, [.slice A5 t2.2.f0.length c5, .slice A6 t2.2.f1.length c6], 26⟩, ⟨nx3, [.slice A8 t3.2.f0.length c8, .slice A9 t3.2.f1.length c9], 26⟩, ⟨nx4, [.slice A11 t4.2.f0.length c11, .slice A12 t4.2.f1.length c12], 26⟩]) [] (by kernel_rfl) (by kernel_rfl) (.cons_cons _ (.cons_cons _ (.cons_cons _ (.cons_cons _ .slnil)))) ?_
        refine QN.norm (X' := []) rfl rfl rfl (by kernel_rfl) ?_
        exact hJ1 _ _ _ _ _ ⟨false, rfl, rfl, rfl, (Imm.le_trans (Imm.le_trans hi31 hi32) hi33), HK1⟩
      ·have hc := (beq_eq_false_iff_ne.1 hb)
       rw [hb]
       rw [if_neg hc] at H; clear hb
       refine RL.simK (K' := [(0, .bool false)]) [] (RFacts.nil _ _ _) 77 (.no :: .no :: .no :: .no :: .no :: .no :: .no :: .no :: .no :: .no :: .no :: .no :: .no :: .no :: .no :: .no :: .no :: .no :: .no :: .no :: .no :: .no :: .no :: .no :: .no :: .no :: .no :: .no :: .no :: .no :: .no :: .no :: .no :: .no :: .no :: .no :: .no :: .no :: .no :: .no :: .no :: .no :: .no :: .no :: .no :: .no :: .no :: .no :: .no :: .no :: .no :: .no :: .no :: .no :: .no :: .no :: .no :: .no :: .no :: .no :: .no :: .no :: .no :: .no :: .no :: .no :: .no :: .no :: .no :: .no :: .no :: .no :: .no :: .no :: .no :: .no :: .no :: []) (by kernel_rfl) (by kernel_rfl) ?_
       refine RL.nil (by kernel_rfl) ?_
       obtain rfl := Option.some.inj H
       refine QN.sel (K' := [(0, .bool false)]) (L' := [⟨nx1, [.slice A2 t1.2.f0.length c2, .slice A3 t1.2.f1.length c3], 26⟩, ⟨nx2, [.slice A5 t2.2.f0.length c5, .slice A6 t2.2.f1.length c6], 26⟩, ⟨nx3, [.slice A8 t3.2.f0.length c8, .slice A9 t3.2.f1.length c9], 26⟩, ⟨nx4, [.slice A11 t4.2.f0.length c11, .slice A12 t4.2.f1.length c12], 26⟩]) [] (by kernel_rfl) (by kernel_rfl) (.cons_cons _ (.cons_cons _ (.cons_cons _ (.cons_cons _ .slnil)))) ?_
       refine QN.norm (X' := []) rfl rfl rfl (by kernel_rfl) ?_
       exact hJ1 _ _ _ _ _ ⟨false, rfl, rfl, rfl, (Imm.le_trans (Imm.le_trans hi31 hi32) hi33), HK1⟩
     ·have hc := (Bool.eq_false_iff.1 hb)
      rw [hb]
      rw [if_neg hc] at H; clear hb
      refine RL.simK (K' := [(0, .bool false)]) [] (RFacts.nil _ _ _) 90 (.no :: .no :: .no :: .no :: .no :: .no :: .no :: .no :: .no :: .no :: .no :: .no :: .no :: .no :: .no :: .no :: .no :: .no :: .no :: .no :: .no :: .no :: .no :: .no :: .no :: .no :: .no :: .no :: .no :: .no :: .no :: .no :: .no :: .no :: .no :: .no :: .no :: .no :: .no :: .no :: .no :: .no :: .no :: .no :: .no :: .no :: .no :: .no :: .no :: .no :: .no :: .no :: .no :: .no :: .no :: .no :: .no :: .no :: .no :: .no :: .no :: .no :: .no :: .no :: .no :: .no :: .no :: .no :: .no :: .no :: .no :: .no :: .no :: .no :: .no :: .no :: .no :: .no :: .no :: .no :: .no :: .no :: .no :: .no :: .no :: .no :: .no :: .no :: .no :: .no :: []) (by kernel_rfl) (by kernel_rfl) ?_
      refine RL.nil (by kernel_rfl) ?_
      obtain rfl := Option.some.inj H
      refine QN.sel (K' := [(0, .bool false)]) (L' := [⟨nx1, [.slice A2 t1.2.f0.length c2, .slice A3 t1.2.f1.length c3], 26⟩, ⟨nx2, [.slice A5 t2.2.f0.length c5, .slice A6 t2.2.f1.length c6], 26⟩, ⟨nx3, [.slice A8 t3.2.f0.length c8, .slice A9 t3.2.f1.length c9], 26⟩, ⟨nx4, [.slice A11 t4.2.f0.length c11, .slice A12 t4.2.f1.length c12], 26⟩]) [] (by kernel_rfl) (by kernel_rfl) (.cons_cons _ (.cons_cons _ (.cons_cons _ (.cons_cons _ .slnil)))) ?_
      refine QN.norm (X' := []) rfl rfl rfl (by kernel_rfl) ?_
      exact hJ1 _ _ _ _ _ ⟨false, rfl, rfl, rfl, (Imm.le_trans (Imm.le_trans hi31 hi32) hi33), HK1⟩
    ·have hc := (Bool.eq_false_iff.1 hb)
     rw [hb]
     rw [if_neg hc] at H; clear hb
     refine RL.simK (K' := [(0, .bool false)]) [] (RFacts.nil _ _ _) 95 (.no :: .no :: .no :: .no :: .no :: .no :: .no :: .no :: .no :: .no :: .no :: .no :: .no :: .no :: .no :: .no :: .no :: .no :: .no :: .no :: .no :: .no :: .no :: .no :: .no :: .no :: .no :: .no :: .no :: .no :: .no :: .no :: .no :: .no :: .no :: .no :: .no :: .no :: .no :: .no :: .no :: .no :: .no :: .no :: .no :: .no :: .no :: .no :: .no :: .no :: .no :: .no :: .no :: .no :: .no :: .no :: .no :: .no :: .no :: .no :: .no :: .no :: .no :: .no :: .no :: .no :: .no :: .no :: .no :: .no :: .no :: .no :: .no :: .no :: .no :: .no :: .no :: .no :: .no :: .no :: .no :: .no :: .no :: .no :: .no :: .no :: .no :: .no :: .no :: .no :: .no :: .no :: .no :: .no :: .no :: []) (by kernel_rfl) (by kernel_rfl) ?_
     refine RL.nil (by kernel_rfl) ?_
     obtain rfl := Option.some.inj H
     refine QN.sel (K' := [(0, .bool false)]) (L' := [⟨nx1, [.slice A2 t1.2.f0.length c2, .slice A3 t1.2.f1.length c3], 26⟩, ⟨nx2, [.slice A5 t2.2.f0.length c5, .slice A6 t2.2.f1.length c6], 26⟩, ⟨nx3, [.slice A8 t3.2.f0.length c8, .slice A9 t3.2.f1.length c9], 26⟩, ⟨nx4, [.slice A11 t4.2.f0.length c11, .slice A12 t4.2.f1.length c12], 26⟩]) [] (by kernel_rfl) (by kernel_rfl) (.cons_cons _ (.cons_cons _ (.cons_cons _ (.cons_cons _ .slnil)))) ?_
     refine QN.norm (X' := []) rfl rfl rfl (by kernel_rfl) ?_
     exact hJ1 _ _ _ _ _ ⟨false, rfl, rfl, rfl, (Imm.le_trans hi31 hi32), HK1⟩
   ·have hc := (Bool.eq_false_iff.1 hb)
    rw [hb]
    rw [if_neg hc] at H; clear hb
    refine RL.simK (K' := [(0, .bool false)]) [] (RFacts.nil _ _ _) 100 (.no :: .no :: .no :: .no :: .no :: .no :: .no :: .no :: .no :: .no :: .no :: .no :: .no :: .no :: .no :: .no :: .no :: .no :: .no :: .no :: .no :: .no :: .no :: .no :: .no :: .no :: .no :: .no :: .no :: .no :: .no :: .no :: .no :: .no :: .no :: .no :: .no :: .no :: .no :: .no :: .no :: .no :: .no :: .no :: .no :: .no :: .no :: .no :: .no :: .no :: .no :: .no :: .no :: .no :: .no :: .no :: .no :: .no :: .no :: .no :: .no :: .no :: .no :: .no :: .no :: .no :: .no :: .no :: .no :: .no :: .no :: .no :: .no :: .no :: .no :: .no :: .no :: .no :: .no :: .no :: .no :: .no :: .no :: .no :: .no :: .no :: .no :: .no :: .no :: .no :: .no :: .no :: .no :: .no :: .no :: .no :: .no :: .no :: .no :: .no :: []) (by kernel_rfl) (by kernel_rfl) ?_
    refine RL.nil (by kernel_rfl) ?_
    obtain rfl := Option.some.inj H
    refine QN.sel (K' := [(0, .bool false)]) (L' := [⟨nx1, [.slice A2 t1.2.f0.length c2, .slice A3 t1.2.f1.length c3], 26⟩, ⟨nx2, [.slice A5 t2.2.f0.length c5, .slice A6 t2.2.f1.length c6], 26⟩, ⟨nx3, [.slice A8 t3.2.f0.length c8, .slice A9 t3.2.f1.length c9], 26⟩, ⟨nx4, [.slice A11 t4.2.f0.length c11, .slice A12 t4.2.f1.length c12], 26⟩]) [] (by kernel_rfl) (by kernel_rfl) (.cons_cons _ (.cons_cons _ (.cons_cons _ (.cons_cons _ .slnil)))) ?_
    refine QN.norm (X' := []) rfl rfl rfl (by kernel_rfl) ?_
    exact hJ1 _ _ _ _ _ ⟨false, rfl, rfl, rfl, hi31, HK1⟩
  ·have hc := (Bool.eq_false_iff.1 hb)
   rw [hb]
   rw [if_neg hc] at H; clear hb
   refine RL.simK (K' := [(0, .bool false)]) [] (RFacts.nil _ _ _) 106 (.no :: .no :: .no :: .no :: .no :: .no :: .no :: .no :: .no :: .no :: .no :: .no :: .no :: .no :: .no :: .no :: .no :: .no :: .no :: .no :: .no :: .no :: .no :: .no :: .no :: .no :: .no :: .no :: .no :: .no :: .no :: .no :: .no :: .no :: .no :: .no :: .no :: .no :: .no :: .no :: .no :: .no :: .no :: .no :: .no :: .no :: .no :: .no :: .no :: .no :: .no :: .no :: .no :: .no :: .no :: .no :: .no :: .no :: .no :: .no :: .no :: .no :: .no :: .no :: .no :: .no :: .no :: .no :: .no :: .no :: .no :: .no :: .no :: .no :: .no :: .no :: .no :: .no :: .no :: .no :: .no :: .no :: .no :: .no :: .no :: .no :: .no :: .no :: .no :: .no :: .no :: .no :: .no :: .no :: .no :: .no :: .no :: .no :: .no :: .no :: .no :: .no :: .no :: .no :: .no :: .no :: []) (by kernel_rfl) (by kernel_rfl) ?_
   refine RL.nil (by kernel_rfl) ?_
   obtain rfl := Option.some.inj H
   refine QN.sel (K' := [(0, .bool false)]) (L' := [⟨nx1, [.slice A2 t1.2.f0.length c2, .slice A3 t1.2.f1.length c3], 26⟩, ⟨nx2, [.slice A5 t2.2.f0.length c5, .slice A6 t2.2.f1.length c6], 26⟩, ⟨nx3, [.slice A8 t3.2.f0.length c8, .slice A9 t3.2.f1.length c9], 26⟩, ⟨nx4, [.slice A11 t4.2.f0.length c11, .slice A12 t4.2.f1.length c12], 26⟩]) [] (by kernel_rfl) (by kernel_rfl) (.cons_cons _ (.cons_cons _ (.cons_cons _ (.cons_cons _ .slnil)))) ?_
   refine QN.norm (X' := []) rfl rfl rfl (by kernel_rfl) ?_
   exact hJ1 _ _ _ _ _ ⟨false, rfl, rfl, rfl, hi31, HK1⟩

end Go.Proofs.Ytdmhbcgmimfjcaa
namespace Go.Proofs.Ytdmhbcgmimfjcaa.hun
open Go Go.Proofs.Ytdmhbcgmimfjcaa Go.Proofs.Ytdmhbcgmimfjcaa.RW
set_option maxRecDepth 1000000
theorem sane (k : Nat) : armillarylaw22_sanity.f (k + 60) = some true := by kernel_rfl
end Go.Proofs.Ytdmhbcgmimfjcaa.hun
namespace Go.Proofs.Ytdmhbcgmimfjcaa
open Go Go.Proofs.Ytdmhbcgmimfjcaa.RW
set_option linter.unusedVariables false
set_option maxRecDepth 100000
set_option maxHeartbeats 8000000

/-! ### armillarylaw22_AssignDuality: function 4, armillary/armillarylaw22.AssignDuality -/
noncomputable def K4_0 : Code := cBody Try.f4
noncomputable def K4_1 : Code := cL K4_0
noncomputable def O4_1 : List Oper := cOps K4_1
noncomputable def K4_3 : Code := cR K4_0
noncomputable def K4_4 : Code := cL K4_3
noncomputable def O4_4 : List Oper := cOps K4_4
noncomputable def K4_6 : Code := cR K4_3
noncomputable def K4_7 : Code := cL K4_6
noncomputable def O4_7 : List Oper := cOps K4_7
noncomputable def K4_9 : Code := cR K4_6
noncomputable def K4_10 : Code := cL K4_9
noncomputable def O4_10 : List Oper := cOps K4_10
noncomputable def K4_12 : Code := cR K4_9
noncomputable def K4_13 : Code := cL K4_12
noncomputable def O4_13 : List Oper := cOps K4_13
noncomputable def K4_15 : Code := cR K4_12
noncomputable def K4_16 : Code := cL K4_15
noncomputable def K4_17 : Code := cL K4_16
noncomputable def O4_17 : List Oper := cOps K4_17
noncomputable def K4_19 : Code := cR K4_16
noncomputable def K4_20 : Code := cL K4_19
noncomputable def K4_21 : Code := cL K4_20
noncomputable def O4_21 : List Oper := cOps K4_21
noncomputable def K4_23 : Code := cR K4_20
noncomputable def K4_24 : Code := cR K4_19
noncomputable def K4_25 : Code := cR K4_15
noncomputable def K4_26 : Code := cL K4_25
noncomputable def O4_26 : List Oper := cOps K4_26
noncomputable def K4_28 : Code := cR K4_25
noncomputable def K4_29 : Code := cL K4_28
noncomputable def K4_30 : Code := cL K4_29
noncomputable def O4_30 : List Oper := cOps K4_30
noncomputable def K4_32 : Code := cR K4_29
noncomputable def K4_33 : Code := cL K4_32
noncomputable def K4_34 : Code := cL K4_33
noncomputable def K4_35 : Code := cL K4_34
noncomputable def K4_36 : Code := cL K4_35
noncomputable def O4_36 : List Oper := cOps K4_36
noncomputable def K4_38 : Code := cR K4_35
noncomputable def K4_39 : Code := cL K4_38
noncomputable def K4_40 : Code := cR K4_38
noncomputable def K4_41 : Code := cR K4_34
noncomputable def K4_42 : Code := cL K4_41
noncomputable def K4_43 : Code := cL K4_42
noncomputable def K4_44 : Code := cL K4_43
noncomputable def K4_45 : Code := cL K4_44
noncomputable def O4_45 : List Oper := cOps K4_45
noncomputable def K4_47 : Code := cR K4_44
noncomputable def K4_48 : Code := cL K4_47
noncomputable def K4_49 : Code := cL K4_48
noncomputable def O4_49 : List Oper := cOps K4_49
noncomputable def K4_51 : Code := cR K4_48
noncomputable def K4_52 : Code := cR K4_47
noncomputable def K4_53 : Code := cR K4_43
noncomputable def O4_53 : List Oper := cOps K4_53
noncomputable def K4_55 : Code := cR K4_41
noncomputable def O4_55 : List Oper := cOps K4_55
noncomputable def K4_57 : Code := cR K4_28
noncomputable def K4_58 : Code := cL K4_57
noncomputable def K4_59 : Code := cL K4_58
noncomputable def O4_59 : List Oper := cOps K4_59
noncomputable def K4_61 : Code := cR K4_58
noncomputable def K4_62 : Code := cL K4_61
noncomputable def K4_63 : Code := cL K4_62
noncomputable def K4_64 : Code := cL K4_63
noncomputable def K4_65 : Code := cL K4_64
noncomputable def O4_65 : List Oper := cOps K4_65
noncomputable def K4_67 : Code := cR K4_64
noncomputable def K4_68 : Code := cL K4_67
noncomputable def K4_69 : Code := cR K4_67
noncomputable def K4_70 : Code := cR K4_63
noncomputable def K4_71 : Code := cL K4_70
noncomputable def K4_72 : Code := cL K4_71
noncomputable def K4_73 : Code := cL K4_72
noncomputable def K4_74 : Code := cL K4_73
noncomputable def O4_74 : List Oper := cOps K4_74
noncomputable def K4_76 : Code := cR K4_73
noncomputable def K4_77 : Code := cL K4_76
noncomputable def K4_78 : Code := cL K4_77
noncomputable def O4_78 : List Oper := cOps K4_78
noncomputable def K4_80 : Code := cR K4_77
noncomputable def K4_81 : Code := cR K4_76
noncomputable def K4_82 : Code := cR K4_72
noncomputable def O4_82 : List Oper := cOps K4_82
noncomputable def K4_84 : Code := cR K4_70
noncomputable def O4_84 : List Oper := cOps K4_84
noncomputable def K4_86 : Code := cR K4_57
noncomputable def K4_87 : Code := cL K4_86
noncomputable def K4_88 : Code := cL K4_87
noncomputable def O4_88 : List Oper := cOps K4_88
noncomputable def K4_90 : Code := cR K4_87
noncomputable def K4_91 : Code := cL K4_90
noncomputable def K4_92 : Code := cL K4_91
noncomputable def K4_93 : Code := cL K4_92
noncomputable def K4_94 : Code := cL K4_93
noncomputable def O4_94 : List Oper := cOps K4_94
noncomputable def K4_96 : Code := cR K4_93
noncomputable def K4_97 : Code := cL K4_96
noncomputable def K4_98 : Code := cR K4_96
noncomputable def K4_99 : Code := cR K4_92
noncomputable def K4_100 : Code := cL K4_99
noncomputable def K4_101 : Code := cL K4_100
noncomputable def K4_102 : Code := cL K4_101
noncomputable def O4_102 : List Oper := cOps K4_102
noncomputable def K4_104 : Code := cR K4_101
noncomputable def K4_105 : Code := cL K4_104
noncomputable def K4_106 : Code := cL K4_105
noncomputable def K4_107 : Code := cL K4_106
noncomputable def K4_108 : Code := cL K4_107
noncomputable def O4_108 : List Oper := cOps K4_108
noncomputable def K4_110 : Code := cR K4_107
noncomputable def K4_111 : Code := cL K4_110
noncomputable def K4_112 : Code := cR K4_110
noncomputable def K4_113 : Code := cR K4_106
noncomputable def K4_114 : Code := cL K4_113
noncomputable def K4_115 : Code := cL K4_114
noncomputable def K4_116 : Code := cL K4_115
noncomputable def O4_116 : List Oper := cOps K4_116
noncomputable def K4_118 : Code := cR K4_115
noncomputable def K4_119 : Code := cL K4_118
noncomputable def K4_120 : Code := cL K4_119
noncomputable def O4_120 : List Oper := cOps K4_120
noncomputable def K4_122 : Code := cR K4_119
noncomputable def K4_123 : Code := cR K4_118
noncomputable def K4_124 : Code := cR K4_113
noncomputable def O4_124 : List Oper := cOps K4_124
noncomputable def K4_126 : Code := cR K4_99
noncomputable def O4_126 : List Oper := cOps K4_126
noncomputable def K4_128 : Code := cR K4_86
noncomputable def K4_129 : Code := cL K4_128
noncomputable def O4_129 : List Oper := cOps K4_129
noncomputable def K4_131 : Code := cR K4_128
def armillarylaw22_AssignDuality.k1  (x4 : Bool) : Option (Bool) := (some x4)
def armillarylaw22_AssignDuality.k2 (k : Nat) (t1 : Bool) (t2 : List (List Int)) (t3 : List Int × S26) (t4 : Int × Bool) (x3 : Int) : (Unit) ⊕ (Bool) → Option (Bool)
 | .inl () => ((if x3 = t4.1 then ((assign_VerifyDuals.f k t2 t3.1 t3.2).bind fun t5 => (if t5 = true then (some t1) else (some false))) else (some false)).bind (armillarylaw22_AssignDuality.k1))
 | .inr r_ => some r_
def armillarylaw22_AssignDuality.k4  : (Unit) ⊕ (Bool) → Option ((Unit) ⊕ (Bool))
 | .inl () => (some (Sum.inl ()))
 | .inr r_ => some (Sum.inr r_)
def armillarylaw22_AssignDuality.l2 (t2 : List (List Int)) (t3 : List Int × S26) (x5 : Int) : Nat → Int → Option ((Unit) ⊕ (Bool))
 | 0, _ => none
 | k + 1, x6 => (if 0 ≤ x5 then (if x5 < (t2.length : Int) then (if x6 < ((t2.getD (x5).toNat []).length : Int) then (if 0 ≤ x5 then (if x5 < (t3.2.f0.length : Int) then (if 0 ≤ x6 then (if x6 < (t3.2.f1.length : Int) then (if 0 ≤ x5 then (if x5 < (t2.length : Int) then (if 0 ≤ x6 then (if x6 < ((t2.getD (x5).toNat []).length : Int) then (if (W .i64 ((t3.2.f0.getD (x5).toNat 0) + (t3.2.f1.getD (x6).toNat 0))) < ((t2.getD (x5).toNat []).getD (x6).toNat 0) then (some (Sum.inr false)) else (armillarylaw22_AssignDuality.l2 t2 t3 x5 k (W .i64 (x6 + 1)))) else none) else none) else none) else none) else none) else none) else none) else none) else (some (Sum.inl ()))) else none) else none)
def armillarylaw22_AssignDuality.l1 (t2 : List (List Int)) (t3 : List Int × S26) : Nat → Int → Option ((Unit) ⊕ (Bool))
 | 0, _ => none
 | k + 1, x5 => (if x5 < (t2.length : Int) then (((armillarylaw22_AssignDuality.l2 t2 t3 x5 k 0).bind (armillarylaw22_AssignDuality.k4)).bind (fun s_ => match s_ with | .inl _ => (armillarylaw22_AssignDuality.l1 t2 t3 k (W .i64 (x5 + 1))) | .inr r_ => some (Sum.inr r_))) else (some (Sum.inl ())))
def armillarylaw22_AssignDuality.k5 (k : Nat) (t1 : Bool) (t2 : List (List Int)) (t3 : List Int × S26) (t4 : Int × Bool) : (Int) ⊕ (Bool) → Option (Bool)
 | .inl x3 => ((armillarylaw22_AssignDuality.l1 t2 t3 k 0).bind (armillarylaw22_AssignDuality.k2 k t1 t2 t3 t4 x3))
 | .inr r_ => some r_
def armillarylaw22_AssignDuality.l3 (t3 : List Int × S26) : Nat → Int → Int → Option ((Int) ⊕ (Bool))
 | 0, _, _ => none
 | k + 1, x7, x8 => (if x8 < (t3.2.f1.length : Int) then ((if 0 ≤ x8 then (if x8 < (t3.2.f1.length : Int) then (if (t3.2.f1.getD (x8).toNat 0) < 0 then (some true) else (if 0 ≤ x8 then (if x8 < (t3.2.f1.length : Int) then (some (decide ((t3.2.f1.getD (x8).toNat 0) > 1099511627776))) else none) else none)) else none) else none).bind (fun x9 => (if x9 = true then (some (Sum.inr false)) else (if 0 ≤ x8 then (if x8 < (t3.2.f1.length : Int) then (armillarylaw22_AssignDuality.l3 t3 k (W .i64 (x7 + (t3.2.f1.getD (x8).toNat 0))) (W .i64 (x8 + 1))) else none) else none)))) else (some (Sum.inl x7)))
def armillarylaw22_AssignDuality.k7 (k : Nat) (t1 : Bool) (t2 : List (List Int)) (t3 : List Int × S26) (t4 : Int × Bool) : (Int) ⊕ (Bool) → Option (Bool)
 | .inl x2 => ((armillarylaw22_AssignDuality.l3 t3 k x2 0).bind (armillarylaw22_AssignDuality.k5 k t1 t2 t3 t4))
 | .inr r_ => some r_
def armillarylaw22_AssignDuality.l4 (t3 : List Int × S26) : Nat → Int → Int → Option ((Int) ⊕ (Bool))
 | 0, _, _ => none
 | k + 1, x10, x11 => (if x11 < (t3.2.f0.length : Int) then ((if 0 ≤ x11 then (if x11 < (t3.2.f0.length : Int) then (if (t3.2.f0.getD (x11).toNat 0) < 0 then (some true) else (if 0 ≤ x11 then (if x11 < (t3.2.f0.length : Int) then (some (decide ((t3.2.f0.getD (x11).toNat 0) > 1099511627776))) else none) else none)) else none) else none).bind (fun x12 => (if x12 = true then (some (Sum.inr false)) else (if 0 ≤ x11 then (if x11 < (t3.2.f0.length : Int) then (armillarylaw22_AssignDuality.l4 t3 k (W .i64 (x10 + (t3.2.f0.getD (x11).toNat 0))) (W .i64 (x11 + 1))) else none) else none)))) else (some (Sum.inl x10)))
def armillarylaw22_AssignDuality.k9 (k : Nat) (t1 : Bool) (t2 : List (List Int)) (t3 : List Int × S26) (t4 : Int × Bool) (x1 : Bool) : Option (Bool) := (if x1 = true then (some false) else ((armillarylaw22_AssignDuality.l4 t3 k 0 0).bind (armillarylaw22_AssignDuality.k7 k t1 t2 t3 t4)))
def armillarylaw22_AssignDuality.f (k : Nat) (a0 : List (List Int)) : Option (Bool) := ((armillarylaw22_sanity.f k ).bind fun t1 => ((armillaryref22_Made.f k a0 12 12).bind fun t2 => ((assign_Solve.f k t2).bind fun t3 => ((assign_Value.f k t2 t3.1).bind fun t4 => ((if t4.2 = true then (if (t3.2.f0.length : Int) ≠ (t2.length : Int) then (some true) else ((armillaryref22_Columns.f t2).bind fun t6 => (some ((t3.2.f1.length : Int) != t6)))) else (some true)).bind (armillarylaw22_AssignDuality.k9 k t1 t2 t3 t4))))))
def armillarylaw22_AssignDuality.Post (I : Imm) (w : World) (r : Bool) (v : Value) (w' : World) : Prop :=
 ∃ (J : Imm), v = .bool r ∧ Got w w' I J []
noncomputable def a4_116n : List Nat := [0, 1, 0, 7, 15, 0, 32, 0, 224, 480, 1023, 0, 0, 6144, 14336, 0, 63488, 129024, 262143]
theorem a4_116 : ancs O4_116 [] = a4_116n := by kernel_rfl
theorem a4_116o : drawOk O4_116 a4_116n 18 = true := by kernel_rfl
noncomputable def u4d1l  : List Ld :=
 []
noncomputable def u4d1g (x5 : Int) (x6 : Int) (g2_ : Nat) (o2_ : Nat) (g3_ : Nat) (o3_ : Nat) (g4_ : Nat) (o4_ : Nat) (g5_ : Nat) (o5_ : Nat) : List (Nat × ((Nat → Wt) → Value)) := [(3, fun u => .pointer (some ⟨g2_, o2_ + (x5).toNat * 1, none⟩)), (8, fun u => .pointer (some ⟨g3_, o3_ + (x6).toNat * 1, none⟩)), (13, fun u => .pointer (some ⟨g4_, o4_ + (x5).toNat * 1, none⟩)), (16, fun u => .pointer (some ⟨g5_, o5_ + (x6).toNat * 1, none⟩))]
noncomputable def u4d1q (t1 : Bool) (t2 : List (List Int)) (A1 : Option Addr) (c1 : Nat) (t3 : List Int × S26) (A2 : Option Addr) (c2 : Nat) (A3 : Option Addr) (c3 : Nat) (A4 : Option Addr) (c4 : Nat) (nx3 : Nat) (t4 : Int × Bool) (x3 : Int) (x5 : Int) (x6 : Int) (g2_ : Nat) (o2_ : Nat) (g3_ : Nat) (o3_ : Nat) (A4_ : Option Addr) (c4_ : Nat) (g4_ : Nat) (o4_ : Nat) (g5_ : Nat) (o5_ : Nat) (u : Nat → Wt) : Option (List Value × List (Nat × Value) × List (Nat × Nat)) := qSim Try.prog [(⟨g2_, o2_ + (x5).toNat * 1, none⟩, .int .i64 (t3.2.f0.getD (x5).toNat 0)), (⟨g3_, o3_ + (x6).toNat * 1, none⟩, .int .i64 (t3.2.f1.getD (x6).toNat 0)), (⟨g4_, o4_ + (x5).toNat * 1, none⟩, .slice A4_ ((t2.getD (x5).toNat []).length) c4_), (⟨g5_, o5_ + (x6).toNat * 1, none⟩, .int .i64 ((t2.getD (x5).toNat []).getD (x6).toNat 0))] [⟨nx3, [.slice A3 t3.2.f0.length c3, .slice A4 t3.2.f1.length c4], 26⟩] O4_116 ⟨148, []⟩ (Ld.vl u4d1l) (u4d1g x5 x6 g2_ o2_ g3_ o3_ g4_ o4_ g5_ o5_) u [.no, .l 0, .no, .no, .r 0, .no, .l 0, .no, .no, .r 1, .no, .no, .no, .no, .r 2, .no, .no, .r 3] 0 (O4_116.take 18) [(114, .bool (decide (x6 < ((t2.getD (x5).toNat []).length : Int)))), (3, .bool t1), (4, .slice A1 t2.length c1), (5, .slice A2 t3.1.length c2), (6, .pointer (some ⟨nx3, 0, none⟩)), (7, .int .i64 t4.1), (9, .int .i64 x3), (12, .int .i64 x5), (13, .int .i64 x6)]
noncomputable def u4d1s (t2 : List (List Int)) (A1 : Option Addr) (c1 : Nat) (t3 : List Int × S26) (A3 : Option Addr) (c3 : Nat) (A4 : Option Addr) (c4 : Nat) (nx3 : Nat) (x5 : Int) (x6 : Int) (g2_ : Nat) (o2_ : Nat) (g3_ : Nat) (o3_ : Nat) (A4_ : Option Addr) (c4_ : Nat) (g4_ : Nat) (o4_ : Nat) (g5_ : Nat) (o5_ : Nat) (u : Nat → Wt) : List Value := [.pointer (some ⟨nx3, 0, none⟩), .slice A3 t3.2.f0.length c3, .int .i64 x5, .pointer (some ⟨g2_, o2_ + (x5).toNat * 1, none⟩), .int .i64 (t3.2.f0.getD (x5).toNat 0), .pointer (some ⟨nx3, 1, none⟩), .slice A4 t3.2.f1.length c4, .int .i64 x6, .pointer (some ⟨g3_, o3_ + (x6).toNat * 1, none⟩), .int .i64 (t3.2.f1.getD (x6).toNat 0), .int .i64 (W .i64 ((t3.2.f0.getD (x5).toNat 0) + (t3.2.f1.getD (x6).toNat 0))), .slice A1 t2.length c1, .int .i64 x5, .pointer (some ⟨g4_, o4_ + (x5).toNat * 1, none⟩), .slice A4_ ((t2.getD (x5).toNat []).length) c4_, .int .i64 x6, .pointer (some ⟨g5_, o5_ + (x6).toNat * 1, none⟩), .int .i64 ((t2.getD (x5).toNat []).getD (x6).toNat 0)]
noncomputable def u4d1f (t1 : Bool) (t2 : List (List Int)) (A1 : Option Addr) (c1 : Nat) (t3 : List Int × S26) (A2 : Option Addr) (c2 : Nat) (A3 : Option Addr) (c3 : Nat) (A4 : Option Addr) (c4 : Nat) (nx3 : Nat) (t4 : Int × Bool) (x3 : Int) (x5 : Int) (x6 : Int) (g2_ : Nat) (o2_ : Nat) (g3_ : Nat) (o3_ : Nat) (A4_ : Option Addr) (c4_ : Nat) (g4_ : Nat) (o4_ : Nat) (g5_ : Nat) (o5_ : Nat) (i : Nat) (u : Nat → Wt) : List (Nat × Value) := foldPut ⟨148, []⟩ [(114, .bool (decide (x6 < ((t2.getD (x5).toNat []).length : Int)))), (3, .bool t1), (4, .slice A1 t2.length c1), (5, .slice A2 t3.1.length c2), (6, .pointer (some ⟨nx3, 0, none⟩)), (7, .int .i64 t4.1), (9, .int .i64 x3), (12, .int .i64 x5), (13, .int .i64 x6)] (O4_116.take i) (((u4d1s t2 A1 c1 t3 A3 c3 A4 c4 nx3 x5 x6 g2_ o2_ g3_ o3_ A4_ c4_ g4_ o4_ g5_ o5_) u).take i)
theorem u4d1v (t1 : Bool) (t2 : List (List Int)) (A1 : Option Addr) (c1 : Nat) (t3 : List Int × S26) (A2 : Option Addr) (c2 : Nat) (A3 : Option Addr) (c3 : Nat) (A4 : Option Addr) (c4 : Nat) (nx3 : Nat) (t4 : Int × Bool) (x3 : Int) (x5 : Int) (x6 : Int) (g2_ : Nat) (o2_ : Nat) (g3_ : Nat) (o3_ : Nat) (A4_ : Option Addr) (c4_ : Nat) (g4_ : Nat) (o4_ : Nat) (g5_ : Nat) (o5_ : Nat) (u : Nat → Wt) : (u4d1q t1 t2 A1 c1 t3 A2 c2 A3 c3 A4 c4 nx3 t4 x3 x5 x6 g2_ o2_ g3_ o3_ A4_ c4_ g4_ o4_ g5_ o5_ u).map (fun x => (x.1, x.2.1)) = some ((u4d1s t2 A1 c1 t3 A3 c3 A4 c4 nx3 x5 x6 g2_ o2_ g3_ o3_ A4_ c4_ g4_ o4_ g5_ o5_) u, (u4d1f t1 t2 A1 c1 t3 A2 c2 A3 c3 A4 c4 nx3 t4 x3 x5 x6 g2_ o2_ g3_ o3_ A4_ c4_ g4_ o4_ g5_ o5_ 18) u) := by kernel_rfl
theorem u4d1e (t1 : Bool) (t2 : List (List Int)) (A1 : Option Addr) (c1 : Nat) (t3 : List Int × S26) (A2 : Option Addr) (c2 : Nat) (A3 : Option Addr) (c3 : Nat) (A4 : Option Addr) (c4 : Nat) (nx3 : Nat) (t4 : Int × Bool) (x3 : Int) (x5 : Int) (x6 : Int) (g2_ : Nat) (o2_ : Nat) (g3_ : Nat) (o3_ : Nat) (A4_ : Option Addr) (c4_ : Nat) (g4_ : Nat) (o4_ : Nat) (g5_ : Nat) (o5_ : Nat) (u : Nat → Wt) : (u4d1q t1 t2 A1 c1 t3 A2 c2 A3 c3 A4 c4 nx3 t4 x3 x5 x6 g2_ o2_ g3_ o3_ A4_ c4_ g4_ o4_ g5_ o5_ u).map (fun x => x.2.2.map (·.1)) = (u4d1q t1 t2 A1 c1 t3 A2 c2 A3 c3 A4 c4 nx3 t4 x3 x5 x6 g2_ o2_ g3_ o3_ A4_ c4_ g4_ o4_ g5_ o5_ u).map (fun x => x.2.2.map (·.2)) := by kernel_rfl
noncomputable def a4_17n : List Nat := [0, 1, 3, 7, 15, 31, 7, 71, 255, 511, 1023, 2047, 4095, 8191, 2047, 18431, 65535, 131071]
theorem a4_17 : ancs O4_17 [] = a4_17n := by kernel_rfl
theorem a4_17o : drawOk O4_17 a4_17n 16 = true := by kernel_rfl
noncomputable def u4d2l  : List Ld :=
 []
noncomputable def u4d2g  : List (Nat × ((Nat → Wt) → Value)) := [(2, fun u => .bool false), (10, fun u => .bool true)]
noncomputable def u4d2q (t1 : Bool) (t2 : List (List Int)) (A1 : Option Addr) (c1 : Nat) (t3 : List Int × S26) (A2 : Option Addr) (c2 : Nat) (A3 : Option Addr) (c3 : Nat) (A4 : Option Addr) (c4 : Nat) (nx3 : Nat) (t4 : Int × Bool) (u : Nat → Wt) : Option (List Value × List (Nat × Value) × List (Nat × Nat)) := qSim Try.prog [] [⟨nx3, [.slice A3 t3.2.f0.length c3, .slice A4 t3.2.f1.length c4], 26⟩] O4_17 ⟨148, []⟩ (Ld.vl u4d2l) u4d2g u [.no, .no, .no, .no, .l 0, .no, .no, .no, .no, .no, .no, .no, .no, .no, .no, .no] 0 (O4_17.take 16) [(8, .bool t4.2), (7, .int .i64 t4.1), (5, .slice A2 t3.1.length c2), (6, .pointer (some ⟨nx3, 0, none⟩)), (4, .slice A1 t2.length c1), (3, .bool t1)]
noncomputable def u4d2s (t2 : List (List Int)) (A1 : Option Addr) (c1 : Nat) (t3 : List Int × S26) (A3 : Option Addr) (c3 : Nat) (nx3 : Nat) (t4 : Int × Bool) (u : Nat → Wt) : List Value := [.bool t4.2, .bool (!t4.2), .bool false, .pointer (some ⟨nx3, 0, none⟩), .slice A3 t3.2.f0.length c3, .int .i64 (t3.2.f0.length : Int), .slice A1 t2.length c1, .int .i64 (t2.length : Int), .bool ((t3.2.f0.length : Int) != (t2.length : Int)), .bool ((t3.2.f0.length : Int) != (t2.length : Int)), .bool true, undef, undef, undef, undef, undef]
noncomputable def u4d2f (t1 : Bool) (t2 : List (List Int)) (A1 : Option Addr) (c1 : Nat) (t3 : List Int × S26) (A2 : Option Addr) (c2 : Nat) (A3 : Option Addr) (c3 : Nat) (nx3 : Nat) (t4 : Int × Bool) (i : Nat) (u : Nat → Wt) : List (Nat × Value) := foldPut ⟨148, []⟩ [(8, .bool t4.2), (7, .int .i64 t4.1), (5, .slice A2 t3.1.length c2), (6, .pointer (some ⟨nx3, 0, none⟩)), (4, .slice A1 t2.length c1), (3, .bool t1)] (O4_17.take i) (((u4d2s t2 A1 c1 t3 A3 c3 nx3 t4) u).take i)
theorem u4d2v (t1 : Bool) (t2 : List (List Int)) (A1 : Option Addr) (c1 : Nat) (t3 : List Int × S26) (A2 : Option Addr) (c2 : Nat) (A3 : Option Addr) (c3 : Nat) (A4 : Option Addr) (c4 : Nat) (nx3 : Nat) (t4 : Int × Bool) (u : Nat → Wt) : (u4d2q t1 t2 A1 c1 t3 A2 c2 A3 c3 A4 c4 nx3 t4 u).map (fun x => (x.1, x.2.1)) = some ((u4d2s t2 A1 c1 t3 A3 c3 nx3 t4) u, (u4d2f t1 t2 A1 c1 t3 A2 c2 A3 c3 nx3 t4 16) u) := by kernel_rfl
theorem u4d2e (t1 : Bool) (t2 : List (List Int)) (A1 : Option Addr) (c1 : Nat) (t3 : List Int × S26) (A2 : Option Addr) (c2 : Nat) (A3 : Option Addr) (c3 : Nat) (A4 : Option Addr) (c4 : Nat) (nx3 : Nat) (t4 : Int × Bool) (u : Nat → Wt) : (u4d2q t1 t2 A1 c1 t3 A2 c2 A3 c3 A4 c4 nx3 t4 u).map (fun x => x.2.2.map (·.1)) = (u4d2q t1 t2 A1 c1 t3 A2 c2 A3 c3 A4 c4 nx3 t4 u).map (fun x => x.2.2.map (·.2)) := by kernel_rfl
noncomputable def u4d3l (t6 : Int) : List Ld :=
 [⟨15, fun x => .int .i64 t6, fun x => [], fun x J => True, fun x J J' h f => trivial⟩]
noncomputable def u4d3g  : List (Nat × ((Nat → Wt) → Value)) := [(2, fun u => .bool false), (10, fun u => .bool false)]
noncomputable def u4d3q (t1 : Bool) (t2 : List (List Int)) (A1 : Option Addr) (c1 : Nat) (t3 : List Int × S26) (A2 : Option Addr) (c2 : Nat) (A3 : Option Addr) (c3 : Nat) (A4 : Option Addr) (c4 : Nat) (nx3 : Nat) (t4 : Int × Bool) (t6 : Int) (u : Nat → Wt) : Option (List Value × List (Nat × Value) × List (Nat × Nat)) := qSim Try.prog [] [⟨nx3, [.slice A3 t3.2.f0.length c3, .slice A4 t3.2.f1.length c4], 26⟩] O4_17 ⟨148, []⟩ (Ld.vl (u4d3l t6)) u4d3g u [.no, .no, .no, .no, .l 0, .no, .no, .no, .no, .no, .no, .no, .l 0, .no, .no, .no] 0 (O4_17.take 16) [(8, .bool t4.2), (7, .int .i64 t4.1), (5, .slice A2 t3.1.length c2), (6, .pointer (some ⟨nx3, 0, none⟩)), (4, .slice A1 t2.length c1), (3, .bool t1)]
noncomputable def u4d3s (t2 : List (List Int)) (A1 : Option Addr) (c1 : Nat) (t3 : List Int × S26) (A3 : Option Addr) (c3 : Nat) (A4 : Option Addr) (c4 : Nat) (nx3 : Nat) (t4 : Int × Bool) (t6 : Int) (u : Nat → Wt) : List Value := [.bool t4.2, .bool (!t4.2), .bool false, .pointer (some ⟨nx3, 0, none⟩), .slice A3 t3.2.f0.length c3, .int .i64 (t3.2.f0.length : Int), .slice A1 t2.length c1, .int .i64 (t2.length : Int), .bool ((t3.2.f0.length : Int) != (t2.length : Int)), .bool ((t3.2.f0.length : Int) != (t2.length : Int)), .bool false, .pointer (some ⟨nx3, 1, none⟩), .slice A4 t3.2.f1.length c4, .int .i64 (t3.2.f1.length : Int), .slice A1 t2.length c1, .int .i64 t6]
noncomputable def u4d3f (t1 : Bool) (t2 : List (List Int)) (A1 : Option Addr) (c1 : Nat) (t3 : List Int × S26) (A2 : Option Addr) (c2 : Nat) (A3 : Option Addr) (c3 : Nat) (A4 : Option Addr) (c4 : Nat) (nx3 : Nat) (t4 : Int × Bool) (t6 : Int) (i : Nat) (u : Nat → Wt) : List (Nat × Value) := foldPut ⟨148, []⟩ [(8, .bool t4.2), (7, .int .i64 t4.1), (5, .slice A2 t3.1.length c2), (6, .pointer (some ⟨nx3, 0, none⟩)), (4, .slice A1 t2.length c1), (3, .bool t1)] (O4_17.take i) (((u4d3s t2 A1 c1 t3 A3 c3 A4 c4 nx3 t4 t6) u).take i)
theorem u4d3v (t1 : Bool) (t2 : List (List Int)) (A1 : Option Addr) (c1 : Nat) (t3 : List Int × S26) (A2 : Option Addr) (c2 : Nat) (A3 : Option Addr) (c3 : Nat) (A4 : Option Addr) (c4 : Nat) (nx3 : Nat) (t4 : Int × Bool) (t6 : Int) (u : Nat → Wt) : (u4d3q t1 t2 A1 c1 t3 A2 c2 A3 c3 A4 c4 nx3 t4 t6 u).map (fun x => (x.1, x.2.1)) = some ((u4d3s t2 A1 c1 t3 A3 c3 A4 c4 nx3 t4 t6) u, (u4d3f t1 t2 A1 c1 t3 A2 c2 A3 c3 A4 c4 nx3 t4 t6 16) u) := by kernel_rfl
theorem u4d3e (t1 : Bool) (t2 : List (List Int)) (A1 : Option Addr) (c1 : Nat) (t3 : List Int × S26) (A2 : Option Addr) (c2 : Nat) (A3 : Option Addr) (c3 : Nat) (A4 : Option Addr) (c4 : Nat) (nx3 : Nat) (t4 : Int × Bool) (t6 : Int) (u : Nat → Wt) : (u4d3q t1 t2 A1 c1 t3 A2 c2 A3 c3 A4 c4 nx3 t4 t6 u).map (fun x => x.2.2.map (·.1)) = (u4d3q t1 t2 A1 c1 t3 A2 c2 A3 c3 A4 c4 nx3 t4 t6 u).map (fun x => x.2.2.map (·.2)) := by kernel_rfl
noncomputable def u4d4l  : List Ld :=
 []
noncomputable def u4d4g  : List (Nat × ((Nat → Wt) → Value)) := [(2, fun u => .bool true)]
noncomputable def u4d4q (t1 : Bool) (t2 : List (List Int)) (A1 : Option Addr) (c1 : Nat) (t3 : List Int × S26) (A2 : Option Addr) (c2 : Nat) (A3 : Option Addr) (c3 : Nat) (A4 : Option Addr) (c4 : Nat) (nx3 : Nat) (t4 : Int × Bool) (u : Nat → Wt) : Option (List Value × List (Nat × Value) × List (Nat × Nat)) := qSim Try.prog [] [⟨nx3, [.slice A3 t3.2.f0.length c3, .slice A4 t3.2.f1.length c4], 26⟩] O4_17 ⟨148, []⟩ (Ld.vl u4d4l) u4d4g u [.no, .no, .no, .no, .no, .no, .no, .no, .no, .no, .no, .no, .no, .no, .no, .no] 0 (O4_17.take 16) [(8, .bool t4.2), (7, .int .i64 t4.1), (5, .slice A2 t3.1.length c2), (6, .pointer (some ⟨nx3, 0, none⟩)), (4, .slice A1 t2.length c1), (3, .bool t1)]
noncomputable def u4d4s (t4 : Int × Bool) (u : Nat → Wt) : List Value := [.bool t4.2, .bool (!t4.2), .bool true, undef, undef, undef, undef, undef, undef, .bool true, .bool true, undef, undef, undef, undef, undef]
noncomputable def u4d4f (t1 : Bool) (t2 : List (List Int)) (A1 : Option Addr) (c1 : Nat) (t3 : List Int × S26) (A2 : Option Addr) (c2 : Nat) (nx3 : Nat) (t4 : Int × Bool) (i : Nat) (u : Nat → Wt) : List (Nat × Value) := foldPut ⟨148, []⟩ [(8, .bool t4.2), (7, .int .i64 t4.1), (5, .slice A2 t3.1.length c2), (6, .pointer (some ⟨nx3, 0, none⟩)), (4, .slice A1 t2.length c1), (3, .bool t1)] (O4_17.take i) (((u4d4s t4) u).take i)
theorem u4d4v (t1 : Bool) (t2 : List (List Int)) (A1 : Option Addr) (c1 : Nat) (t3 : List Int × S26) (A2 : Option Addr) (c2 : Nat) (A3 : Option Addr) (c3 : Nat) (A4 : Option Addr) (c4 : Nat) (nx3 : Nat) (t4 : Int × Bool) (u : Nat → Wt) : (u4d4q t1 t2 A1 c1 t3 A2 c2 A3 c3 A4 c4 nx3 t4 u).map (fun x => (x.1, x.2.1)) = some ((u4d4s t4) u, (u4d4f t1 t2 A1 c1 t3 A2 c2 nx3 t4 16) u) := by kernel_rfl
theorem u4d4e (t1 : Bool) (t2 : List (List Int)) (A1 : Option Addr) (c1 : Nat) (t3 : List Int × S26) (A2 : Option Addr) (c2 : Nat) (A3 : Option Addr) (c3 : Nat) (A4 : Option Addr) (c4 : Nat) (nx3 : Nat) (t4 : Int × Bool) (u : Nat → Wt) : (u4d4q t1 t2 A1 c1 t3 A2 c2 A3 c3 A4 c4 nx3 t4 u).map (fun x => x.2.2.map (·.1)) = (u4d4q t1 t2 A1 c1 t3 A2 c2 A3 c3 A4 c4 nx3 t4 u).map (fun x => x.2.2.map (·.2)) := by kernel_rfl
theorem armillarylaw22_AssignDuality.calls (k : Nat) (I0 : Imm) (a0 : List (List Int)) (Ap0 : Option Addr) (cp0 : Nat) (w : World) (hI : I0.at_ w) (hlp0 : a0.length ≤ cp0) (hrp0 : Rd (Ty.slice (Ty.int .i64)) I0 Ap0 a0) (r : Bool) (h : armillarylaw22_AssignDuality.f k a0 = some r) :
  Calls Try.prog 4 [.slice Ap0 a0.length cp0].toArray w fun e w' => ∃ v, e = .returned v ∧ armillarylaw22_AssignDuality.Post I0 w r v w' := by
 have H : ((armillarylaw22_sanity.f k ).bind fun t1 => ((armillaryref22_Made.f k a0 12 12).bind fun t2 => ((assign_Solve.f k t2).bind fun t3 => ((assign_Value.f k t2 t3.1).bind fun t4 => ((if t4.2 = true then (if (t3.2.f0.length : Int) ≠ (t2.length : Int) then (some true) else ((armillaryref22_Columns.f t2).bind fun t6 => (some ((t3.2.f1.length : Int) != t6)))) else (some true)).bind (armillarylaw22_AssignDuality.k9 k t1 t2 t3 t4)))))) = some r := h
 clear h
 refine calls_body Try.func4 (by kernel_rfl) 148 (by kernel_rfl) (by kernel_rfl) ⟨w, fun _ => False, I0⟩ I0 [] [(0, .slice Ap0 a0.length cp0)] (by kernel_rfl) (Sat.start w _ I0 hI) ?_
 generalize w.heap.size = nx0
 show OK _ K4_0 _ _ _ _ _ _ _ _
 refine OK.seq K4_1 K4_3 (by kernel_rfl) ?_
 refine OK.region 0 O4_1 (by kernel_rfl) ?_
 refine RL.simK (K' := [(0, .slice Ap0 a0.length cp0)]) [] (RFacts.nil _ _ _) 1 [.no] (by kernel_rfl) (by kernel_rfl) ?_
 refine RL.nil (by kernel_rfl) ?_
 refine QN.then_ ?_
 refine OK.seq K4_4 K4_6 (by kernel_rfl) ?_
 refine OK.region 1 O4_4 (by kernel_rfl) ?_
 obtain ⟨t1, hA1, H⟩ := Option.bind_eq_some_iff.mp H
 refine RL.callP 10 [] (some 14) (fun w => armillarylaw22_sanity.Post I0 w t1) (by kernel_rfl) (by kernel_rfl) (fun w hs => armillarylaw22_sanity.calls k I0  w hs.im  t1 hA1) ?_
 rintro w v w' hs ⟨I1, rfl, hg⟩
 have hi1 := hg.le
 refine RL.resume (X' := []) rfl (hs.call hg) ?_
 clear hs hg
 generalize w'.heap.size = nx1
 clear w w'
 refine RL.simK (K' := [(3, .bool t1), (0, .slice Ap0 a0.length cp0)]) [] (RFacts.nil _ _ _) 1 [.no] (by kernel_rfl) (by kernel_rfl) ?_
 refine RL.nil (by kernel_rfl) ?_
 refine QN.then_ ?_
 refine OK.seq K4_7 K4_9 (by kernel_rfl) ?_
 refine OK.region 2 O4_7 (by kernel_rfl) ?_
 refine RL.simK (K' := [(15, .slice Ap0 a0.length cp0), (3, .bool t1)]) [] (RFacts.nil _ _ _) 1 [.no] (by kernel_rfl) (by kernel_rfl) ?_
 obtain ⟨t2, hA2, H⟩ := Option.bind_eq_some_iff.mp H
 refine RL.callP 13 [.slice Ap0 a0.length cp0, .int .i64 12, .int .i64 12] (some 16) (fun w => armillaryref22_Made.Post I1 w t2) (by kernel_rfl) (by kernel_rfl) (fun w hs => armillaryref22_Made.calls k I1 a0 Ap0 cp0 12 12 w hs.im hlp0 (Rd.ext hi1 hrp0) t2 hA2) ?_
 rintro w v w' hs ⟨I2, A1, c1, cs1, rfl, hg, hp1⟩
 have hi2 := hg.le
 refine RL.resume (X' := [orow 24 1 A1 t2.length c1 cs1]) rfl (hs.call hg) ?_
 clear hs hg
 generalize w'.heap.size = nx2
 clear w w'
 refine RL.simK (K' := [(4, .slice A1 t2.length c1), (3, .bool t1)]) [] (RFacts.nil _ _ _) 1 [.no] (by kernel_rfl) (by kernel_rfl) ?_
 refine RL.nil (by kernel_rfl) ?_
 refine QN.then_ ?_
 refine OK.seq K4_10 K4_12 (by kernel_rfl) ?_
 refine OK.region 3 O4_10 (by kernel_rfl) ?_
 refine RL.simK (K' := [(18, .slice A1 t2.length c1), (4, .slice A1 t2.length c1), (3, .bool t1)]) [] (RFacts.nil _ _ _) 1 [.no] (by kernel_rfl) (by kernel_rfl) ?_
 refine RL.freeze (e := 24) (sz := 1) (S := A1) (n := t2.length) (cap := c1) 0 (by kernel_rfl) hp1 rfl (fun I3 hi3 hl1 hr1 => ?_)
 skip
 obtain ⟨t3, hA3, H⟩ := Option.bind_eq_some_iff.mp H
 refine RL.callP 14 [.slice A1 t2.length c1] (some 19) (fun w => assign_Solve.Post I3 w t3) (by kernel_rfl) (by kernel_rfl) (fun w hs => assign_Solve.calls k I3 t2 A1 c1 w hs.im hl1 hr1 t3 hA3) ?_
 rintro w v w' hs ⟨I4, A2, c2, cs2, A3, c3, cs3, A4, c4, cs4, rfl, hg, hp2, hp3, hp4⟩
 have hi4 := hg.le
 refine RL.resume (X' := [orow 3 1 A2 t3.1.length c2 cs2, orow 2 1 A3 t3.2.f0.length c3 cs3, orow 2 1 A4 t3.2.f1.length c4 cs4]) rfl (hs.call hg) ?_
 clear hs hg
 generalize w'.heap.size = nx3
 clear w w'
 refine RL.freeze (e := 2) (sz := 1) (S := A3) (n := t3.2.f0.length) (cap := c3) 1 (by kernel_rfl) hp3 rfl (fun I5 hi5 hl2 hr2 => ?_)
 skip
 refine RL.freeze (e := 2) (sz := 1) (S := A4) (n := t3.2.f1.length) (cap := c4) 1 (by kernel_rfl) (Reps.ext hi5 hp4) rfl (fun I6 hi6 hl3 hr3 => ?_)
 skip
 refine RL.simP (K' := [(5, .slice A2 t3.1.length c2), (6, .pointer (some ⟨nx3, 0, none⟩)), (4, .slice A1 t2.length c1), (3, .bool t1)]) (nx' := nx3 + 1) (L' := [⟨nx3, [.slice A3 t3.2.f0.length c3, .slice A4 t3.2.f1.length c4], 26⟩]) [] (RFacts.nil _ _ _) 6 [.no, .no, .no, .no, .no, .l 0] (by kernel_rfl) (by kernel_rfl) ?_
 refine RL.nil (by kernel_rfl) ?_
 refine QN.then_ ?_
 refine OK.seq K4_13 K4_15 (by kernel_rfl) ?_
 refine OK.region 4 O4_13 (by kernel_rfl) ?_
 refine RL.simK (K' := [(24, .slice A2 t3.1.length c2), (23, .slice A1 t2.length c1), (5, .slice A2 t3.1.length c2), (6, .pointer (some ⟨nx3, 0, none⟩)), (4, .slice A1 t2.length c1), (3, .bool t1)]) [] (RFacts.nil _ _ _) 2 [.no, .no] (by kernel_rfl) (by kernel_rfl) ?_
 obtain ⟨t4, hA4, H⟩ := Option.bind_eq_some_iff.mp H
 refine RL.callP 15 [.slice A1 t2.length c1, .slice A2 t3.1.length c2] (some 25) (fun w v w' => ∃ I', Imm.le I6 I' ∧ assign_Value.Post I' w t4 v w') (by kernel_rfl) (by kernel_rfl) (fun w hs => ?_) ?_
 ·skip
  obtain ⟨JL1, hj1, hn1, hw1, hs⟩ := Sat.freeze (e := 3) (sz := 1) (S := A2) (n := t3.1.length) (cap := c2) (m := 0) hs (by kernel_rfl) (Reps.ext (Imm.le_trans hi5 hi6) hp2) rfl
  exact (assign_Value.calls k JL1 t2 A1 c1 t3.1 A2 c2 _ hs.im hl1 (Rd.ext hj1 (Rd.ext (Imm.le_trans (Imm.le_trans hi4 hi5) hi6) hr1)) hn1 hw1 t4 hA4).mono (fun e w' ⟨v, hv, hp⟩ => ⟨v, hv, JL1, hj1, hp⟩)
 rintro w v w' hs ⟨I', hle, J, rfl, hg⟩
 refine RL.resume (X' := [orow 3 1 A2 t3.1.length c2 cs2]) rfl (hs.call (hg.back hle)) ?_
 clear hs hg hle I' J
 generalize w'.heap.size = nx4
 clear w w'
 refine RL.simK (K' := [(8, .bool t4.2), (7, .int .i64 t4.1), (5, .slice A2 t3.1.length c2), (6, .pointer (some ⟨nx3, 0, none⟩)), (4, .slice A1 t2.length c1), (3, .bool t1)]) [] (RFacts.nil _ _ _) 5 [.no, .no, .no, .no, .no] (by kernel_rfl) (by kernel_rfl) ?_
 refine RL.nil (by kernel_rfl) ?_
 refine QN.then_ ?_
 refine OK.seq K4_16 K4_25 (by kernel_rfl) ?_
 refine OK.seq K4_17 K4_19 (by kernel_rfl) ?_
 refine OK.join (fun K' I' _ L' X' => ∃ (x1 : Bool), K' = [(3, .bool t1), (4, .slice A1 t2.length c1), (5, .slice A2 t3.1.length c2), (6, .pointer (some ⟨nx3, 0, none⟩)), (7, .int .i64 t4.1), (45, .bool x1)] ∧ L' = [⟨nx3, [.slice A3 t3.2.f0.length c3, .slice A4 t3.2.f1.length c4], 26⟩] ∧ X' = [orow 3 1 A2 t3.1.length c2 cs2] ∧ Imm.le I6 I' ∧ armillarylaw22_AssignDuality.k9 k t1 t2 t3 t4 x1 = some r) ?_ ?_
 ·rintro _ I7 nx5 _ _ ⟨x1, rfl, rfl, rfl, hi7, H⟩
  replace H : (if x1 = true then (some false) else ((armillarylaw22_AssignDuality.l4 t3 k 0 0).bind (armillarylaw22_AssignDuality.k7 k t1 t2 t3 t4))) = some r := H
  refine QN.then_ ?_
  refine OK.cond (.tmp 45) K4_20 K4_24 x1 (by kernel_rfl) (by kernel_rfl) (by kernel_rfl) (fun hb => ?_) (fun hb => ?_)
  ·skip
   have hc := hb
   rw [if_pos hc] at H
   clear hb
   refine OK.seq K4_21 K4_23 (by kernel_rfl) ?_
   refine OK.region 6 O4_21 (by kernel_rfl) ?_
   refine RL.simK (K' := [(2, .bool false)]) [] (RFacts.nil _ _ _) 1 [.no] (by kernel_rfl) (by kernel_rfl) ?_
   refine RL.nil (by kernel_rfl) ?_
   refine QN.then_ ?_
   refine OK.ret (by kernel_rfl) ?_
   refine QN.thenR ?_
   obtain rfl := Option.some.inj H
   refine QN.body rfl [] (RFacts.nil _ _ _) (.no) (.bool false) (by kernel_rfl) (by kernel_rfl) (by kernel_rfl) ?_ _ (.inr rfl)
   exact fun w' hs' => ⟨_, rfl, I7, rfl, hs'.got _ (.cons _ .slnil)⟩
  ·skip
   have hc := (Bool.eq_false_iff.1 hb)
   rw [if_neg hc] at H
   clear hb
   refine OK.skip (by kernel_rfl) ?_
   refine QN.then_ ?_
   refine OK.seq K4_26 K4_28 (by kernel_rfl) ?_
   refine OK.region 7 O4_26 (by kernel_rfl) ?_
   refine RL.simK (K' := [(9, .int .i64 0), (3, .bool t1), (4, .slice A1 t2.length c1), (5, .slice A2 t3.1.length c2), (6, .pointer (some ⟨nx3, 0, none⟩)), (7, .int .i64 t4.1)]) [] (RFacts.nil _ _ _) 1 [.no] (by kernel_rfl) (by kernel_rfl) ?_
   refine RL.nil (by kernel_rfl) ?_
   refine QN.then_ ?_
   refine OK.seq K4_29 K4_57 (by kernel_rfl) ?_
   refine OK.seq K4_30 K4_32 (by kernel_rfl) ?_
   refine OK.region 8 O4_30 (by kernel_rfl) ?_
   refine RL.simK (K' := [(10, .int .i64 0), (9, .int .i64 0), (3, .bool t1), (4, .slice A1 t2.length c1), (5, .slice A2 t3.1.length c2), (6, .pointer (some ⟨nx3, 0, none⟩)), (7, .int .i64 t4.1)]) [] (RFacts.nil _ _ _) 1 [.no] (by kernel_rfl) (by kernel_rfl) ?_
   refine RL.nil (by kernel_rfl) ?_
   refine QN.then_ ?_
   refine OK.join (fun K' I' _ L' X' => ∃ (x2 : Int), K' = [(3, .bool t1), (4, .slice A1 t2.length c1), (5, .slice A2 t3.1.length c2), (6, .pointer (some ⟨nx3, 0, none⟩)), (7, .int .i64 t4.1), (9, .int .i64 x2)] ∧ L' = [⟨nx3, [.slice A3 t3.2.f0.length c3, .slice A4 t3.2.f1.length c4], 26⟩] ∧ X' = [orow 3 1 A2 t3.1.length c2 cs2] ∧ Imm.le I7 I' ∧ armillarylaw22_AssignDuality.k7 k t1 t2 t3 t4 (Sum.inl x2) = some r) ?_ ?_
   ·rintro _ I8 nx6 _ _ ⟨x2, rfl, rfl, rfl, hi8, H⟩
    replace H : ((armillarylaw22_AssignDuality.l3 t3 k x2 0).bind (armillarylaw22_AssignDuality.k5 k t1 t2 t3 t4)) = some r := H
    refine QN.then_ ?_
    refine OK.seq K4_58 K4_86 (by kernel_rfl) ?_
    refine OK.seq K4_59 K4_61 (by kernel_rfl) ?_
    refine OK.region 14 O4_59 (by kernel_rfl) ?_
    refine RL.simK (K' := [(11, .int .i64 0), (3, .bool t1), (4, .slice A1 t2.length c1), (5, .slice A2 t3.1.length c2), (6, .pointer (some ⟨nx3, 0, none⟩)), (7, .int .i64 t4.1), (9, .int .i64 x2)]) [] (RFacts.nil _ _ _) 1 [.no] (by kernel_rfl) (by kernel_rfl) ?_
    refine RL.nil (by kernel_rfl) ?_
    refine QN.then_ ?_
    refine OK.join (fun K' I' _ L' X' => ∃ (x3 : Int), K' = [(3, .bool t1), (4, .slice A1 t2.length c1), (5, .slice A2 t3.1.length c2), (6, .pointer (some ⟨nx3, 0, none⟩)), (7, .int .i64 t4.1), (9, .int .i64 x3)] ∧ L' = [⟨nx3, [.slice A3 t3.2.f0.length c3, .slice A4 t3.2.f1.length c4], 26⟩] ∧ X' = [orow 3 1 A2 t3.1.length c2 cs2] ∧ Imm.le I8 I' ∧ armillarylaw22_AssignDuality.k5 k t1 t2 t3 t4 (Sum.inl x3) = some r) ?_ ?_
    ·rintro _ I9 nx7 _ _ ⟨x3, rfl, rfl, rfl, hi9, H⟩
     replace H : ((armillarylaw22_AssignDuality.l1 t2 t3 k 0).bind (armillarylaw22_AssignDuality.k2 k t1 t2 t3 t4 x3)) = some r := H
     refine QN.then_ ?_
     refine OK.seq K4_87 K4_128 (by kernel_rfl) ?_
     refine OK.seq K4_88 K4_90 (by kernel_rfl) ?_
     refine OK.region 20 O4_88 (by kernel_rfl) ?_
     refine RL.simK (K' := [(12, .int .i64 0), (3, .bool t1), (4, .slice A1 t2.length c1), (5, .slice A2 t3.1.length c2), (6, .pointer (some ⟨nx3, 0, none⟩)), (7, .int .i64 t4.1), (9, .int .i64 x3)]) [] (RFacts.nil _ _ _) 1 [.no] (by kernel_rfl) (by kernel_rfl) ?_
     refine RL.nil (by kernel_rfl) ?_
     refine QN.then_ ?_
     refine OK.join (fun K' I' _ L' X' => K' = [(3, .bool t1), (4, .slice A1 t2.length c1), (5, .slice A2 t3.1.length c2), (6, .pointer (some ⟨nx3, 0, none⟩)), (7, .int .i64 t4.1), (9, .int .i64 x3)] ∧ L' = [⟨nx3, [.slice A3 t3.2.f0.length c3, .slice A4 t3.2.f1.length c4], 26⟩] ∧ X' = [orow 3 1 A2 t3.1.length c2 cs2] ∧ Imm.le I9 I' ∧ armillarylaw22_AssignDuality.k2 k t1 t2 t3 t4 x3 (Sum.inl ()) = some r) ?_ ?_
     ·rintro _ I10 nx8 _ _ ⟨rfl, rfl, rfl, hi10, H⟩
      replace H : ((if x3 = t4.1 then ((assign_VerifyDuals.f k t2 t3.1 t3.2).bind fun t5 => (if t5 = true then (some t1) else (some false))) else (some false)).bind (armillarylaw22_AssignDuality.k1)) = some r := H
      refine QN.then_ ?_
      refine OK.seq K4_129 K4_131 (by kernel_rfl) ?_
      refine OK.join (fun K' I' _ L' X' => ∃ (x4 : Bool), K' = [(2, .bool x4)] ∧ L' = [⟨nx3, [.slice A3 t3.2.f0.length c3, .slice A4 t3.2.f1.length c4], 26⟩] ∧ X' = [] ∧ Imm.le I10 I' ∧ armillarylaw22_AssignDuality.k1 x4 = some r) ?_ ?_
      ·rintro _ I11 nx9 _ _ ⟨x4, rfl, rfl, rfl, hi11, H⟩
       replace H : (some x4) = some r := H
       refine QN.then_ ?_
       refine OK.ret (by kernel_rfl) ?_
       obtain rfl := Option.some.inj H
       refine QN.body rfl [] (RFacts.nil _ _ _) (.no) (.bool x4) (by kernel_rfl) (by kernel_rfl) (by kernel_rfl) ?_ _ (.inr rfl)
       exact fun w' hs' => ⟨_, rfl, I11, rfl, hs'.got _ .slnil⟩
      ·intro Q_1 hJ5 hQ5
       obtain ⟨y5, H, HK5⟩ := Option.bind_eq_some_iff.mp H
       refine OK.region 28 O4_129 (by kernel_rfl) ?_
       refine RL.simK (K' := [(139, .bool (x3 == t4.1)), (3, .bool t1), (4, .slice A1 t2.length c1), (5, .slice A2 t3.1.length c2), (6, .pointer (some ⟨nx3, 0, none⟩))]) [] (RFacts.nil _ _ _) 4 [.no, .no, .no, .no] (by kernel_rfl) (by kernel_rfl) ?_
       refine RL.cases (x3 == t4.1) (fun hb => ?_) (fun hb => ?_)
       ·have hc := (beq_iff_eq.1 hb)
        rw [hb]
        rw [if_pos hc] at H; clear hb
        refine RL.simK (K' := [(142, .agg #[.slice A3 t3.2.f0.length c3, .slice A4 t3.2.f1.length c4]), (141, .slice A2 t3.1.length c2), (140, .slice A1 t2.length c1), (139, .bool true), (3, .bool t1)]) [] (RFacts.nil _ _ _) 3 [.no, .no, .l 0] (by kernel_rfl) (by kernel_rfl) ?_
        obtain ⟨t5, hA5, H⟩ := Option.bind_eq_some_iff.mp H
        refine RL.callP 20 [.slice A1 t2.length c1, .slice A2 t3.1.length c2, .agg #[.slice A3 t3.2.f0.length c3, .slice A4 t3.2.f1.length c4]] (some 143) (fun w v w' => ∃ I', Imm.le I10 I' ∧ assign_VerifyDuals.Post I' w t5 v w') (by kernel_rfl) (by kernel_rfl) (fun w hs => ?_) ?_
        ·skip
         obtain ⟨JL2, hj2, hn2, hw2, hs⟩ := Sat.freeze (e := 3) (sz := 1) (S := A2) (n := t3.1.length) (cap := c2) (m := 0) hs (by kernel_rfl) (Reps.ext (Imm.le_trans (Imm.le_trans (Imm.le_trans (Imm.le_trans (Imm.le_trans hi5 hi6) hi7) hi8) hi9) hi10) hp2) rfl
         exact (assign_VerifyDuals.calls k JL2 t2 A1 c1 t3.1 A2 c2 t3.2 A3 c3 A4 c4 _ hs.im hl1 (Rd.ext hj2 (Rd.ext (Imm.le_trans (Imm.le_trans (Imm.le_trans (Imm.le_trans (Imm.le_trans (Imm.le_trans hi4 hi5) hi6) hi7) hi8) hi9) hi10) hr1)) hn2 hw2 hl2 (Rd.ext hj2 (Rd.ext (Imm.le_trans (Imm.le_trans (Imm.le_trans (Imm.le_trans hi6 hi7) hi8) hi9) hi10) hr2)) hl3 (Rd.ext hj2 (Rd.ext (Imm.le_trans (Imm.le_trans (Imm.le_trans hi7 hi8) hi9) hi10) hr3)) t5 hA5).mono (fun e w' ⟨v, hv, hp⟩ => ⟨v, hv, JL2, hj2, hp⟩)
        rintro w v w' hs ⟨I', hle, J, rfl, hg⟩
        refine RL.resume (X' := [orow 3 1 A2 t3.1.length c2 cs2]) rfl (hs.call (hg.back hle)) ?_
        clear hs hg hle I' J
        generalize w'.heap.size = nx10
        clear w w'
        refine RL.simK (K' := [(145, .bool t5), (3, .bool t1)]) [] (RFacts.nil _ _ _) 2 [.no, .no] (by kernel_rfl) (by kernel_rfl) ?_
        refine RL.cases t5 (fun hb => ?_) (fun hb => ?_)
        ·have hc := hb
         rw [hb]
         rw [if_pos hc] at H; clear hb
         refine RL.simK (K' := [(2, .bool t1)]) [] (RFacts.nil _ _ _) 3 [.no, .no, .no] (by kernel_rfl) (by kernel_rfl) ?_
         refine RL.nil (by kernel_rfl) ?_
         obtain rfl := Option.some.inj H
         refine QN.sel (K' := [(2, .bool t1)]) (L' := [⟨nx3, [.slice A3 t3.2.f0.length c3, .slice A4 t3.2.f1.length c4], 26⟩]) [] (by kernel_rfl) (by kernel_rfl) (.cons_cons _ .slnil) ?_
         refine QN.norm (X' := []) rfl rfl rfl (by kernel_rfl) ?_
         exact hJ5 _ _ _ _ _ ⟨t1, rfl, rfl, rfl, (Imm.le_refl _), HK5⟩
        ·have hc := (Bool.eq_false_iff.1 hb)
         rw [hb]
         rw [if_neg hc] at H; clear hb
         refine RL.simK (K' := [(2, .bool false)]) [] (RFacts.nil _ _ _) 3 [.no, .no, .no] (by kernel_rfl) (by kernel_rfl) ?_
         refine RL.nil (by kernel_rfl) ?_
         obtain rfl := Option.some.inj H
         refine QN.sel (K' := [(2, .bool false)]) (L' := [⟨nx3, [.slice A3 t3.2.f0.length c3, .slice A4 t3.2.f1.length c4], 26⟩]) [] (by kernel_rfl) (by kernel_rfl) (.cons_cons _ .slnil) ?_
         refine QN.norm (X' := []) rfl rfl rfl (by kernel_rfl) ?_
         exact hJ5 _ _ _ _ _ ⟨false, rfl, rfl, rfl, (Imm.le_refl _), HK5⟩
       ·have hc := (beq_eq_false_iff_ne.1 hb)
        rw [hb]
        rw [if_neg hc] at H; clear hb
        refine RL.simK (K' := [(2, .bool false)]) [] (RFacts.nil _ _ _) 9 [.no, .no, .no, .no, .no, .no, .no, .no, .no] (by kernel_rfl) (by kernel_rfl) ?_
        refine RL.nil (by kernel_rfl) ?_
        obtain rfl := Option.some.inj H
        refine QN.sel (K' := [(2, .bool false)]) (L' := [⟨nx3, [.slice A3 t3.2.f0.length c3, .slice A4 t3.2.f1.length c4], 26⟩]) [] (by kernel_rfl) (by kernel_rfl) (.cons_cons _ .slnil) ?_
        refine QN.norm (X' := []) rfl rfl rfl (by kernel_rfl) ?_
        exact hJ5 _ _ _ _ _ ⟨false, rfl, rfl, rfl, (Imm.le_refl _), HK5⟩
     ·intro Q_2 hJ4 hQ4
      obtain ⟨y4, H, HK4⟩ := Option.bind_eq_some_iff.mp H
      refine OK.block 4 K4_91 (by kernel_rfl) ?_
      refine OK.sub (K' := [(3, .bool t1), (4, .slice A1 t2.length c1), (5, .slice A2 t3.1.length c2), (6, .pointer (some ⟨nx3, 0, none⟩)), (7, .int .i64 t4.1), (9, .int .i64 x3), (12, .int .i64 0)]) (L' := [⟨nx3, [.slice A3 t3.2.f0.length c3, .slice A4 t3.2.f1.length c4], 26⟩]) (by kernel_rfl) (.cons_cons _ .slnil) (.refl _) ?_
      refine OK.loopInv K4_92 (by kernel_rfl) (fun n_ K' I' _ L' X' => ∃ (x5 : Int), K' = [(3, .bool t1), (4, .slice A1 t2.length c1), (5, .slice A2 t3.1.length c2), (6, .pointer (some ⟨nx3, 0, none⟩)), (7, .int .i64 t4.1), (9, .int .i64 x3), (12, .int .i64 x5)] ∧ L' = [⟨nx3, [.slice A3 t3.2.f0.length c3, .slice A4 t3.2.f1.length c4], 26⟩] ∧ X' = [orow 3 1 A2 t3.1.length c2 cs2] ∧ Imm.le I9 I' ∧ armillarylaw22_AssignDuality.l1 t2 t3 n_ x5 = some y4) k ⟨0, rfl, rfl, rfl, (Imm.le_refl _), H⟩ ?_ ?_
      ·rintro _ _ _ _ _ ⟨x5, rfl, rfl, rfl, _, H⟩
       cases H
      ·rintro kq1 _ I12 nx11 _ _ ⟨x5, rfl, rfl, rfl, hi12, H⟩ Q_l1 hJ6 hQ6
       replace H : (if x5 < (t2.length : Int) then (((armillarylaw22_AssignDuality.l2 t2 t3 x5 kq1 0).bind (armillarylaw22_AssignDuality.k4)).bind (fun s_ => match s_ with | .inl _ => (armillarylaw22_AssignDuality.l1 t2 t3 kq1 (W .i64 (x5 + 1))) | .inr r_ => some (Sum.inr r_))) else (some (Sum.inl ()))) = some y4 := H
       refine OK.seq K4_93 K4_99 (by kernel_rfl) ?_
       refine OK.seq K4_94 K4_96 (by kernel_rfl) ?_
       refine OK.region 21 O4_94 (by kernel_rfl) ?_
       refine RL.simK (K' := [(105, .bool (decide (x5 < (t2.length : Int)))), (3, .bool t1), (4, .slice A1 t2.length c1), (5, .slice A2 t3.1.length c2), (6, .pointer (some ⟨nx3, 0, none⟩)), (7, .int .i64 t4.1), (9, .int .i64 x3), (12, .int .i64 x5)]) [] (RFacts.nil _ _ _) 4 [.no, .no, .no, .no] (by kernel_rfl) (by kernel_rfl) ?_
       refine RL.nil (by kernel_rfl) ?_
       refine QN.then_ ?_
       refine OK.cond (.tmp 105) K4_97 K4_98 (decide (x5 < (t2.length : Int))) (by kernel_rfl) (by kernel_rfl) (by kernel_rfl) (fun hb => ?_) (fun hb => ?_)
       ·skip
        have hc := (of_decide_eq_true hb)
        rw [if_pos hc] at H
        clear hb
        refine OK.skip (by kernel_rfl) ?_
        refine QN.then_ ?_
        refine OK.seq K4_100 K4_126 (by kernel_rfl) ?_
        refine OK.join (fun K' I' _ L' X' => K' = [(3, .bool t1), (4, .slice A1 t2.length c1), (5, .slice A2 t3.1.length c2), (6, .pointer (some ⟨nx3, 0, none⟩)), (7, .int .i64 t4.1), (9, .int .i64 x3), (12, .int .i64 x5)] ∧ L' = [⟨nx3, [.slice A3 t3.2.f0.length c3, .slice A4 t3.2.f1.length c4], 26⟩] ∧ X' = [orow 3 1 A2 t3.1.length c2 cs2] ∧ Imm.le I12 I' ∧ (armillarylaw22_AssignDuality.l1 t2 t3 kq1 (W .i64 (x5 + 1))) = some y4) ?_ ?_
        ·rintro _ I13 nx12 _ _ ⟨rfl, rfl, rfl, hi13, H⟩
         replace H : (armillarylaw22_AssignDuality.l1 t2 t3 kq1 (W .i64 (x5 + 1))) = some y4 := H
         refine QN.then_ ?_
         refine OK.region 22 O4_126 (by kernel_rfl) ?_
         refine RL.simK (K' := [(12, .int .i64 (W .i64 (x5 + 1))), (3, .bool t1), (4, .slice A1 t2.length c1), (5, .slice A2 t3.1.length c2), (6, .pointer (some ⟨nx3, 0, none⟩)), (7, .int .i64 t4.1), (9, .int .i64 x3)]) [] (RFacts.nil _ _ _) 3 [.no, .no, .no] (by kernel_rfl) (by kernel_rfl) ?_
         refine RL.nil (by kernel_rfl) ?_
         refine QN.sub (K' := [(3, .bool t1), (4, .slice A1 t2.length c1), (5, .slice A2 t3.1.length c2), (6, .pointer (some ⟨nx3, 0, none⟩)), (7, .int .i64 t4.1), (9, .int .i64 x3), (12, .int .i64 (W .i64 (x5 + 1)))]) (L' := [⟨nx3, [.slice A3 t3.2.f0.length c3, .slice A4 t3.2.f1.length c4], 26⟩]) (by kernel_rfl) (.cons_cons _ .slnil) (.refl _) ?_
         exact hJ6 _ _ _ _ _ ⟨W .i64 (x5 + 1), rfl, rfl, rfl, (Imm.le_trans hi12 hi13), H⟩
        ·intro Q_3 hJ7 hQ7
         obtain ⟨y6, H, HK6⟩ := Option.bind_eq_some_iff.mp H
         refine OK.block 5 K4_101 (by kernel_rfl) ?_
         refine OK.seq K4_102 K4_104 (by kernel_rfl) ?_
         refine OK.region 23 O4_102 (by kernel_rfl) ?_
         refine RL.simK (K' := [(13, .int .i64 0), (3, .bool t1), (4, .slice A1 t2.length c1), (5, .slice A2 t3.1.length c2), (6, .pointer (some ⟨nx3, 0, none⟩)), (7, .int .i64 t4.1), (9, .int .i64 x3), (12, .int .i64 x5)]) [] (RFacts.nil _ _ _) 1 [.no] (by kernel_rfl) (by kernel_rfl) ?_
         refine RL.nil (by kernel_rfl) ?_
         refine QN.then_ ?_
         refine OK.join (fun K' I' _ L' X' => K' = [(3, .bool t1), (4, .slice A1 t2.length c1), (5, .slice A2 t3.1.length c2), (6, .pointer (some ⟨nx3, 0, none⟩)), (7, .int .i64 t4.1), (9, .int .i64 x3), (12, .int .i64 x5)] ∧ L' = [⟨nx3, [.slice A3 t3.2.f0.length c3, .slice A4 t3.2.f1.length c4], 26⟩] ∧ X' = [orow 3 1 A2 t3.1.length c2 cs2] ∧ Imm.le I12 I' ∧ armillarylaw22_AssignDuality.k4 (Sum.inl ()) = some y6) ?_ ?_
         ·rintro _ I14 nx13 _ _ ⟨rfl, rfl, rfl, hi14, H⟩
          replace H : (some (Sum.inl ())) = some y6 := H
          refine QN.blkN ?_
          obtain rfl := Option.some.inj H
          refine QN.sub (K' := [(3, .bool t1), (4, .slice A1 t2.length c1), (5, .slice A2 t3.1.length c2), (6, .pointer (some ⟨nx3, 0, none⟩)), (7, .int .i64 t4.1), (9, .int .i64 x3), (12, .int .i64 x5)]) (L' := [⟨nx3, [.slice A3 t3.2.f0.length c3, .slice A4 t3.2.f1.length c4], 26⟩]) (by kernel_rfl) (.cons_cons _ .slnil) (.refl _) ?_
          exact hJ7 _ _ _ _ _ ⟨rfl, rfl, rfl, hi14, HK6⟩
         ·intro Q_4 hJ8 hQ8
          obtain ⟨y7, H, HK7⟩ := Option.bind_eq_some_iff.mp H
          refine OK.block 6 K4_105 (by kernel_rfl) ?_
          refine OK.sub (K' := [(3, .bool t1), (4, .slice A1 t2.length c1), (5, .slice A2 t3.1.length c2), (6, .pointer (some ⟨nx3, 0, none⟩)), (7, .int .i64 t4.1), (9, .int .i64 x3), (12, .int .i64 x5), (13, .int .i64 0)]) (L' := [⟨nx3, [.slice A3 t3.2.f0.length c3, .slice A4 t3.2.f1.length c4], 26⟩]) (by kernel_rfl) (.cons_cons _ .slnil) (.refl _) ?_
          refine OK.loopInv K4_106 (by kernel_rfl) (fun n_ K' I' _ L' X' => ∃ (x6 : Int), K' = [(3, .bool t1), (4, .slice A1 t2.length c1), (5, .slice A2 t3.1.length c2), (6, .pointer (some ⟨nx3, 0, none⟩)), (7, .int .i64 t4.1), (9, .int .i64 x3), (12, .int .i64 x5), (13, .int .i64 x6)] ∧ L' = [⟨nx3, [.slice A3 t3.2.f0.length c3, .slice A4 t3.2.f1.length c4], 26⟩] ∧ X' = [orow 3 1 A2 t3.1.length c2 cs2] ∧ Imm.le I12 I' ∧ armillarylaw22_AssignDuality.l2 t2 t3 x5 n_ x6 = some y7) kq1 ⟨0, rfl, rfl, rfl, (Imm.le_refl _), H⟩ ?_ ?_
          ·rintro _ _ _ _ _ ⟨x6, rfl, rfl, rfl, _, H⟩
           cases H
          ·rintro kq2 _ I15 nx14 _ _ ⟨x6, rfl, rfl, rfl, hi15, H⟩ Q_l2 hJ9 hQ9
           replace H : (if 0 ≤ x5 then (if x5 < (t2.length : Int) then (if x6 < ((t2.getD (x5).toNat []).length : Int) then (if 0 ≤ x5 then (if x5 < (t3.2.f0.length : Int) then (if 0 ≤ x6 then (if x6 < (t3.2.f1.length : Int) then (if 0 ≤ x5 then (if x5 < (t2.length : Int) then (if 0 ≤ x6 then (if x6 < ((t2.getD (x5).toNat []).length : Int) then (if (W .i64 ((t3.2.f0.getD (x5).toNat 0) + (t3.2.f1.getD (x6).toNat 0))) < ((t2.getD (x5).toNat []).getD (x6).toNat 0) then (some (Sum.inr false)) else (armillarylaw22_AssignDuality.l2 t2 t3 x5 kq2 (W .i64 (x6 + 1)))) else none) else none) else none) else none) else none) else none) else none) else none) else (some (Sum.inl ()))) else none) else none) = some y7 := H
           refine OK.seq K4_107 K4_113 (by kernel_rfl) ?_
           refine OK.seq K4_108 K4_110 (by kernel_rfl) ?_
           refine OK.region 24 O4_108 (by kernel_rfl) ?_
           refine RL.simK (K' := [(110, .int .i64 x5), (109, .slice A1 t2.length c1), (108, .int .i64 x6), (3, .bool t1), (4, .slice A1 t2.length c1), (5, .slice A2 t3.1.length c2), (6, .pointer (some ⟨nx3, 0, none⟩)), (7, .int .i64 t4.1), (9, .int .i64 x3), (12, .int .i64 x5), (13, .int .i64 x6)]) [] (RFacts.nil _ _ _) 3 [.no, .no, .no] (by kernel_rfl) (by kernel_rfl) ?_
           by_cases hib0 : 0 ≤ x5
           case neg => rw [if_neg hib0] at H; cases H
           rw [if_pos hib0] at H
           by_cases hib1 : x5 < (t2.length : Int)
           case neg => rw [if_neg hib1] at H; cases H
           rw [if_pos hib1] at H
           obtain ⟨g1_, o1_, hA1_, A1_, c1_, hl1_, hr1_, hc1_⟩ := Ty.slice_at (Rd.ext (Imm.le_trans (Imm.le_trans (Imm.le_trans (Imm.le_trans (Imm.le_trans (Imm.le_trans (Imm.le_trans hi4 hi5) hi6) hi7) hi8) hi9) hi12) hi15) hr1) x5 hib0 hib1
           refine RL.idx 1 .i64 x5 hA1_ t2.length c1 (some 111) (by kernel_rfl) (by kernel_rfl) (T := 22) (e := 24) (by kernel_rfl) (by kernel_rfl) hib0 hib1 (K' := [(111, .pointer (some ⟨g1_, o1_ + (x5).toNat * 1, none⟩)), (110, .int .i64 x5), (109, .slice A1 t2.length c1), (108, .int .i64 x6), (3, .bool t1), (4, .slice A1 t2.length c1), (5, .slice A2 t3.1.length c2), (6, .pointer (some ⟨nx3, 0, none⟩)), (7, .int .i64 t4.1), (9, .int .i64 x3), (12, .int .i64 x5), (13, .int .i64 x6)]) (by kernel_rfl) ?_
           refine RL.simK (K' := [(114, .bool (decide (x6 < ((t2.getD (x5).toNat []).length : Int)))), (3, .bool t1), (4, .slice A1 t2.length c1), (5, .slice A2 t3.1.length c2), (6, .pointer (some ⟨nx3, 0, none⟩)), (7, .int .i64 t4.1), (9, .int .i64 x3), (12, .int .i64 x5), (13, .int .i64 x6)]) [(⟨g1_, o1_ + (x5).toNat * 1, none⟩, .slice A1_ ((t2.getD (x5).toNat []).length) c1_)] (RFacts.imm (hc1_ 0 _ rfl) (RFacts.nil _ _ _)) 3 [.r 0, .no, .no] (by kernel_rfl) (by kernel_rfl) ?_
           refine RL.nil (by kernel_rfl) ?_
           refine QN.then_ ?_
           refine OK.cond (.tmp 114) K4_111 K4_112 (decide (x6 < ((t2.getD (x5).toNat []).length : Int))) (by kernel_rfl) (by kernel_rfl) (by kernel_rfl) (fun hb => ?_) (fun hb => ?_)
           ·skip
            have hc := (of_decide_eq_true hb)
            rw [if_pos hc] at H
            clear hb
            refine OK.skip (by kernel_rfl) ?_
            refine QN.then_ ?_
            refine OK.seq K4_114 K4_124 (by kernel_rfl) ?_
            refine OK.block 7 K4_115 (by kernel_rfl) ?_
            refine OK.seq K4_116 K4_118 (by kernel_rfl) ?_
            by_cases hi0_1 : 0 ≤ x5
            case neg => rw [if_neg hi0_1] at H; cases H
            rw [if_pos hi0_1] at H
            by_cases hi1_1 : x5 < (t3.2.f0.length : Int)
            case neg => rw [if_neg hi1_1] at H; cases H
            rw [if_pos hi1_1] at H
            obtain ⟨g2_, o2_, hA2_, hc2_⟩ := Ty.int_at (Rd.ext (Imm.le_trans (Imm.le_trans (Imm.le_trans (Imm.le_trans (Imm.le_trans hi6 hi7) hi8) hi9) hi12) hi15) hr2) x5 hi0_1 hi1_1
            by_cases hi0_2 : 0 ≤ x6
            case neg => rw [if_neg hi0_2] at H; cases H
            rw [if_pos hi0_2] at H
            by_cases hi1_2 : x6 < (t3.2.f1.length : Int)
            case neg => rw [if_neg hi1_2] at H; cases H
            rw [if_pos hi1_2] at H
            obtain ⟨g3_, o3_, hA3_, hc3_⟩ := Ty.int_at (Rd.ext (Imm.le_trans (Imm.le_trans (Imm.le_trans (Imm.le_trans hi7 hi8) hi9) hi12) hi15) hr3) x6 hi0_2 hi1_2
            by_cases hi0_3 : 0 ≤ x5
            case neg => rw [if_neg hi0_3] at H; cases H
            rw [if_pos hi0_3] at H
            by_cases hi1_3 : x5 < (t2.length : Int)
            case neg => rw [if_neg hi1_3] at H; cases H
            rw [if_pos hi1_3] at H
            obtain ⟨g4_, o4_, hA4_, A4_, c4_, hl4_, hr4_, hc4_⟩ := Ty.slice_at (Rd.ext (Imm.le_trans (Imm.le_trans (Imm.le_trans (Imm.le_trans (Imm.le_trans (Imm.le_trans (Imm.le_trans hi4 hi5) hi6) hi7) hi8) hi9) hi12) hi15) hr1) x5 hi0_3 hi1_3
            by_cases hi0_4 : 0 ≤ x6
            case neg => rw [if_neg hi0_4] at H; cases H
            rw [if_pos hi0_4] at H
            by_cases hi1_4 : x6 < ((t2.getD (x5).toNat []).length : Int)
            case neg => rw [if_neg hi1_4] at H; cases H
            rw [if_pos hi1_4] at H
            obtain ⟨g5_, o5_, hA5_, hc5_⟩ := Ty.int_at hr4_ x6 hi0_4 hi1_4
            refine OK.drawnC 26 18 O4_116 a4_116n (by kernel_rfl) (by kernel_rfl) u4d1l (u4d1g x5 x6 g2_ o2_ g3_ o3_ g4_ o4_ g5_ o5_) [(⟨g2_, o2_ + (x5).toNat * 1, none⟩, .int .i64 (t3.2.f0.getD (x5).toNat 0)), (⟨g3_, o3_ + (x6).toNat * 1, none⟩, .int .i64 (t3.2.f1.getD (x6).toNat 0)), (⟨g4_, o4_ + (x5).toNat * 1, none⟩, .slice A4_ ((t2.getD (x5).toNat []).length) c4_), (⟨g5_, o5_ + (x6).toNat * 1, none⟩, .int .i64 ((t2.getD (x5).toNat []).getD (x6).toNat 0))] (RI.cons (hc2_ 0 _ rfl) (RI.cons (hc3_ 0 _ rfl) (RI.cons (hc4_ 0 _ rfl) (RI.cons (hc5_ 0 _ rfl) (RI.nil _))))) [.no, .l 0, .no, .no, .r 0, .no, .l 0, .no, .no, .r 1, .no, .no, .no, .no, .r 2, .no, .no, .r 3] a4_116 a4_116o (by kernel_rfl) (by kernel_rfl) (u4d1s t2 A1 c1 t3 A3 c3 A4 c4 nx3 x5 x6 g2_ o2_ g3_ o3_ A4_ c4_ g4_ o4_ g5_ o5_) (u4d1f t1 t2 A1 c1 t3 A2 c2 A3 c3 A4 c4 nx3 t4 x3 x5 x6 g2_ o2_ g3_ o3_ A4_ c4_ g4_ o4_ g5_ o5_ 18) (u4d1v t1 t2 A1 c1 t3 A2 c2 A3 c3 A4 c4 nx3 t4 x3 x5 x6 g2_ o2_ g3_ o3_ A4_ c4_ g4_ o4_ g5_ o5_) (u4d1e t1 t2 A1 c1 t3 A2 c2 A3 c3 A4 c4 nx3 t4 x3 x5 x6 g2_ o2_ g3_ o3_ A4_ c4_ g4_ o4_ g5_ o5_) [] framesOk.nil ?_ [u4d1f t1 t2 A1 c1 t3 A2 c2 A3 c3 A4 c4 nx3 t4 x3 x5 x6 g2_ o2_ g3_ o3_ A4_ c4_ g4_ o4_ g5_ o5_ 3, u4d1f t1 t2 A1 c1 t3 A2 c2 A3 c3 A4 c4 nx3 t4 x3 x5 x6 g2_ o2_ g3_ o3_ A4_ c4_ g4_ o4_ g5_ o5_ 8, u4d1f t1 t2 A1 c1 t3 A2 c2 A3 c3 A4 c4 nx3 t4 x3 x5 x6 g2_ o2_ g3_ o3_ A4_ c4_ g4_ o4_ g5_ o5_ 13, u4d1f t1 t2 A1 c1 t3 A2 c2 A3 c3 A4 c4 nx3 t4 x3 x5 x6 g2_ o2_ g3_ o3_ A4_ c4_ g4_ o4_ g5_ o5_ 16] (framesOk.cons (fun u => rfl) (framesOk.cons (fun u => rfl) (framesOk.cons (fun u => rfl) (framesOk.cons (fun u => rfl) framesOk.nil)))) ?_ ?_
            ·refine LoudsG.nil
            ·refine Givens.cons (fun u w =>  ?_) (fun _ _ _ => rfl) (Givens.cons (fun u w =>  ?_) (fun _ _ _ => rfl) (Givens.cons (fun u w =>  ?_) (fun _ _ _ => rfl) (Givens.cons (fun u w =>  ?_) (fun _ _ _ => rfl) (Givens.nil))))
             ·exact giv_idx (T := 24) (e := 2) 1 .i64 x5 hA2_ t3.2.f0.length c3 (by kernel_rfl) (by kernel_rfl) (by kernel_rfl) hi0_1 hi1_1 w
             ·exact giv_idx (T := 24) (e := 2) 1 .i64 x6 hA3_ t3.2.f1.length c4 (by kernel_rfl) (by kernel_rfl) (by kernel_rfl) hi0_2 hi1_2 w
             ·exact giv_idx (T := 22) (e := 24) 1 .i64 x5 hA4_ t2.length c1 (by kernel_rfl) (by kernel_rfl) (by kernel_rfl) hi0_3 hi1_3 w
             ·exact giv_idx (T := 24) (e := 2) 1 .i64 x6 hA5_ ((t2.getD (x5).toNat []).length) c4_ (by kernel_rfl) (by kernel_rfl) (by kernel_rfl) hi0_4 hi1_4 w
            intro u I16 nx15 hi16 hF
            clear hF
            refine RL.norm (K' := [(134, .int .i64 ((t2.getD (x5).toNat []).getD (x6).toNat 0)), (133, .pointer (some ⟨g5_, o5_ + (x6).toNat * 1, none⟩)), (132, .int .i64 x6), (131, .slice A4_ ((t2.getD (x5).toNat []).length) c4_), (130, .pointer (some ⟨g4_, o4_ + (x5).toNat * 1, none⟩)), (129, .int .i64 x5), (128, .slice A1 t2.length c1), (127, .int .i64 (W .i64 ((t3.2.f0.getD (x5).toNat 0) + (t3.2.f1.getD (x6).toNat 0)))), (126, .int .i64 (t3.2.f1.getD (x6).toNat 0)), (125, .pointer (some ⟨g3_, o3_ + (x6).toNat * 1, none⟩)), (124, .int .i64 x6), (123, .slice A4 t3.2.f1.length c4), (122, .pointer (some ⟨nx3, 1, none⟩)), (121, .int .i64 (t3.2.f0.getD (x5).toNat 0)), (120, .pointer (some ⟨g2_, o2_ + (x5).toNat * 1, none⟩)), (119, .int .i64 x5), (118, .slice A3 t3.2.f0.length c3), (117, .pointer (some ⟨nx3, 0, none⟩)), (114, .bool (decide (x6 < ((t2.getD (x5).toNat []).length : Int)))), (3, .bool t1), (4, .slice A1 t2.length c1), (5, .slice A2 t3.1.length c2), (6, .pointer (some ⟨nx3, 0, none⟩)), (7, .int .i64 t4.1), (9, .int .i64 x3), (12, .int .i64 x5), (13, .int .i64 x6)]) (X' := [orow 3 1 A2 t3.1.length c2 cs2]) (by kernel_rfl) rfl rfl rfl ?_
            refine RL.simK (K' := [(135, .bool (decide ((W .i64 ((t3.2.f0.getD (x5).toNat 0) + (t3.2.f1.getD (x6).toNat 0))) < ((t2.getD (x5).toNat []).getD (x6).toNat 0)))), (3, .bool t1), (4, .slice A1 t2.length c1), (5, .slice A2 t3.1.length c2), (6, .pointer (some ⟨nx3, 0, none⟩)), (7, .int .i64 t4.1), (9, .int .i64 x3), (12, .int .i64 x5), (13, .int .i64 x6)]) [] (RFacts.nil _ _ _) 1 [.no] (by kernel_rfl) (by kernel_rfl) ?_
            refine RL.nil (by kernel_rfl) ?_
            refine QN.then_ ?_
            refine OK.cond (.tmp 135) K4_119 K4_123 (decide ((W .i64 ((t3.2.f0.getD (x5).toNat 0) + (t3.2.f1.getD (x6).toNat 0))) < ((t2.getD (x5).toNat []).getD (x6).toNat 0))) (by kernel_rfl) (by kernel_rfl) (by kernel_rfl) (fun hb => ?_) (fun hb => ?_)
            ·skip
             have hc := (of_decide_eq_true hb)
             rw [if_pos hc] at H
             clear hb
             refine OK.seq K4_120 K4_122 (by kernel_rfl) ?_
             refine OK.region 27 O4_120 (by kernel_rfl) ?_
             refine RL.simK (K' := [(2, .bool false)]) [] (RFacts.nil _ _ _) 1 [.no] (by kernel_rfl) (by kernel_rfl) ?_
             refine RL.nil (by kernel_rfl) ?_
             refine QN.then_ ?_
             refine OK.ret (by kernel_rfl) ?_
             refine QN.blkR ?_
             refine QN.thenR ?_
             refine QN.outR hQ9 ?_
             refine QN.blkR ?_
             refine QN.outR hQ8 ?_
             refine QN.blkR ?_
             refine QN.outR hQ7 ?_
             refine QN.thenR ?_
             refine QN.outR hQ6 ?_
             refine QN.blkR ?_
             refine QN.outR hQ4 ?_
             refine QN.thenR ?_
             obtain rfl := Option.some.inj H
             replace H : some (Sum.inr false) = some y6 := HK7
             obtain rfl := Option.some.inj H
             replace H : some (Sum.inr false) = some y4 := HK6
             obtain rfl := Option.some.inj H
             replace H : some false = some r := HK4
             obtain rfl := Option.some.inj H
             refine QN.body rfl [] (RFacts.nil _ _ _) (.no) (.bool false) (by kernel_rfl) (by kernel_rfl) (by kernel_rfl) ?_ _ (.inr rfl)
             exact fun w' hs' => ⟨_, rfl, I16, rfl, hs'.got _ (.cons _ .slnil)⟩
            ·skip
             have hc := (of_decide_eq_false hb)
             rw [if_neg hc] at H
             clear hb
             refine OK.skip (by kernel_rfl) ?_
             refine QN.blkN ?_
             refine QN.then_ ?_
             refine OK.region 25 O4_124 (by kernel_rfl) ?_
             refine RL.simK (K' := [(13, .int .i64 (W .i64 (x6 + 1))), (3, .bool t1), (4, .slice A1 t2.length c1), (5, .slice A2 t3.1.length c2), (6, .pointer (some ⟨nx3, 0, none⟩)), (7, .int .i64 t4.1), (9, .int .i64 x3), (12, .int .i64 x5)]) [] (RFacts.nil _ _ _) 3 [.no, .no, .no] (by kernel_rfl) (by kernel_rfl) ?_
             refine RL.nil (by kernel_rfl) ?_
             refine QN.sub (K' := [(3, .bool t1), (4, .slice A1 t2.length c1), (5, .slice A2 t3.1.length c2), (6, .pointer (some ⟨nx3, 0, none⟩)), (7, .int .i64 t4.1), (9, .int .i64 x3), (12, .int .i64 x5), (13, .int .i64 (W .i64 (x6 + 1)))]) (L' := [⟨nx3, [.slice A3 t3.2.f0.length c3, .slice A4 t3.2.f1.length c4], 26⟩]) (by kernel_rfl) (.cons_cons _ .slnil) (.refl _) ?_
             exact hJ9 _ _ _ _ _ ⟨W .i64 (x6 + 1), rfl, rfl, rfl, (Imm.le_trans hi15 hi16), H⟩
           ·skip
            have hc := (of_decide_eq_false hb)
            rw [if_neg hc] at H
            clear hb
            refine OK.exit 6 (by kernel_rfl) ?_
            refine QN.thenE ?_
            refine QN.outE hQ9 ?_
            refine QN.blkE ?_
            obtain rfl := Option.some.inj H
            refine QN.sub (K' := [(3, .bool t1), (4, .slice A1 t2.length c1), (5, .slice A2 t3.1.length c2), (6, .pointer (some ⟨nx3, 0, none⟩)), (7, .int .i64 t4.1), (9, .int .i64 x3), (12, .int .i64 x5)]) (L' := [⟨nx3, [.slice A3 t3.2.f0.length c3, .slice A4 t3.2.f1.length c4], 26⟩]) (by kernel_rfl) (.cons_cons _ .slnil) (.refl _) ?_
            exact hJ8 _ _ _ _ _ ⟨rfl, rfl, rfl, hi15, HK7⟩
       ·skip
        have hc := (of_decide_eq_false hb)
        rw [if_neg hc] at H
        clear hb
        refine OK.exit 4 (by kernel_rfl) ?_
        refine QN.thenE ?_
        refine QN.outE hQ6 ?_
        refine QN.blkE ?_
        obtain rfl := Option.some.inj H
        refine QN.sub (K' := [(3, .bool t1), (4, .slice A1 t2.length c1), (5, .slice A2 t3.1.length c2), (6, .pointer (some ⟨nx3, 0, none⟩)), (7, .int .i64 t4.1), (9, .int .i64 x3)]) (L' := [⟨nx3, [.slice A3 t3.2.f0.length c3, .slice A4 t3.2.f1.length c4], 26⟩]) (by kernel_rfl) (.cons_cons _ .slnil) (.refl _) ?_
        exact hJ4 _ _ _ _ _ ⟨rfl, rfl, rfl, hi12, HK4⟩
    ·intro Q_5 hJ3 hQ3
     obtain ⟨y3, H, HK3⟩ := Option.bind_eq_some_iff.mp H
     refine OK.block 2 K4_62 (by kernel_rfl) ?_
     refine OK.sub (K' := [(3, .bool t1), (4, .slice A1 t2.length c1), (5, .slice A2 t3.1.length c2), (6, .pointer (some ⟨nx3, 0, none⟩)), (7, .int .i64 t4.1), (9, .int .i64 x2), (11, .int .i64 0)]) (L' := [⟨nx3, [.slice A3 t3.2.f0.length c3, .slice A4 t3.2.f1.length c4], 26⟩]) (by kernel_rfl) (.cons_cons _ .slnil) (.refl _) ?_
     refine OK.loopInv K4_63 (by kernel_rfl) (fun n_ K' I' _ L' X' => ∃ (x7 : Int) (x8 : Int), K' = [(3, .bool t1), (4, .slice A1 t2.length c1), (5, .slice A2 t3.1.length c2), (6, .pointer (some ⟨nx3, 0, none⟩)), (7, .int .i64 t4.1), (9, .int .i64 x7), (11, .int .i64 x8)] ∧ L' = [⟨nx3, [.slice A3 t3.2.f0.length c3, .slice A4 t3.2.f1.length c4], 26⟩] ∧ X' = [orow 3 1 A2 t3.1.length c2 cs2] ∧ Imm.le I8 I' ∧ armillarylaw22_AssignDuality.l3 t3 n_ x7 x8 = some y3) k ⟨x2, 0, rfl, rfl, rfl, (Imm.le_refl _), H⟩ ?_ ?_
     ·rintro _ _ _ _ _ ⟨x7, x8, rfl, rfl, rfl, _, H⟩
      cases H
     ·rintro kq3 _ I17 nx16 _ _ ⟨x7, x8, rfl, rfl, rfl, hi17, H⟩ Q_l3 hJ10 hQ10
      replace H : (if x8 < (t3.2.f1.length : Int) then ((if 0 ≤ x8 then (if x8 < (t3.2.f1.length : Int) then (if (t3.2.f1.getD (x8).toNat 0) < 0 then (some true) else (if 0 ≤ x8 then (if x8 < (t3.2.f1.length : Int) then (some (decide ((t3.2.f1.getD (x8).toNat 0) > 1099511627776))) else none) else none)) else none) else none).bind (fun x9 => (if x9 = true then (some (Sum.inr false)) else (if 0 ≤ x8 then (if x8 < (t3.2.f1.length : Int) then (armillarylaw22_AssignDuality.l3 t3 kq3 (W .i64 (x7 + (t3.2.f1.getD (x8).toNat 0))) (W .i64 (x8 + 1))) else none) else none)))) else (some (Sum.inl x7))) = some y3 := H
      refine OK.seq K4_64 K4_70 (by kernel_rfl) ?_
      refine OK.seq K4_65 K4_67 (by kernel_rfl) ?_
      refine OK.region 15 O4_65 (by kernel_rfl) ?_
      refine RL.simK (K' := [(78, .bool (decide (x8 < (t3.2.f1.length : Int)))), (3, .bool t1), (4, .slice A1 t2.length c1), (5, .slice A2 t3.1.length c2), (6, .pointer (some ⟨nx3, 0, none⟩)), (7, .int .i64 t4.1), (9, .int .i64 x7), (11, .int .i64 x8)]) [] (RFacts.nil _ _ _) 5 [.no, .no, .l 0, .no, .no] (by kernel_rfl) (by kernel_rfl) ?_
      refine RL.nil (by kernel_rfl) ?_
      refine QN.then_ ?_
      refine OK.cond (.tmp 78) K4_68 K4_69 (decide (x8 < (t3.2.f1.length : Int))) (by kernel_rfl) (by kernel_rfl) (by kernel_rfl) (fun hb => ?_) (fun hb => ?_)
      ·skip
       have hc := (of_decide_eq_true hb)
       rw [if_pos hc] at H
       clear hb
       refine OK.skip (by kernel_rfl) ?_
       refine QN.then_ ?_
       refine OK.seq K4_71 K4_84 (by kernel_rfl) ?_
       refine OK.block 3 K4_72 (by kernel_rfl) ?_
       refine OK.seq K4_73 K4_82 (by kernel_rfl) ?_
       refine OK.seq K4_74 K4_76 (by kernel_rfl) ?_
       refine OK.join (fun K' I' _ L' X' => ∃ (x9 : Bool), K' = [(3, .bool t1), (4, .slice A1 t2.length c1), (5, .slice A2 t3.1.length c2), (6, .pointer (some ⟨nx3, 0, none⟩)), (7, .int .i64 t4.1), (9, .int .i64 x7), (11, .int .i64 x8), (94, .bool x9)] ∧ L' = [⟨nx3, [.slice A3 t3.2.f0.length c3, .slice A4 t3.2.f1.length c4], 26⟩] ∧ X' = [orow 3 1 A2 t3.1.length c2 cs2] ∧ Imm.le I17 I' ∧ (if x9 = true then (some (Sum.inr false)) else (if 0 ≤ x8 then (if x8 < (t3.2.f1.length : Int) then (armillarylaw22_AssignDuality.l3 t3 kq3 (W .i64 (x7 + (t3.2.f1.getD (x8).toNat 0))) (W .i64 (x8 + 1))) else none) else none)) = some y3) ?_ ?_
       ·rintro _ I18 nx17 _ _ ⟨x9, rfl, rfl, rfl, hi18, H⟩
        replace H : (if x9 = true then (some (Sum.inr false)) else (if 0 ≤ x8 then (if x8 < (t3.2.f1.length : Int) then (armillarylaw22_AssignDuality.l3 t3 kq3 (W .i64 (x7 + (t3.2.f1.getD (x8).toNat 0))) (W .i64 (x8 + 1))) else none) else none)) = some y3 := H
        refine QN.then_ ?_
        refine OK.cond (.tmp 94) K4_77 K4_81 x9 (by kernel_rfl) (by kernel_rfl) (by kernel_rfl) (fun hb => ?_) (fun hb => ?_)
        ·skip
         have hc := hb
         rw [if_pos hc] at H
         clear hb
         refine OK.seq K4_78 K4_80 (by kernel_rfl) ?_
         refine OK.region 18 O4_78 (by kernel_rfl) ?_
         refine RL.simK (K' := [(2, .bool false)]) [] (RFacts.nil _ _ _) 1 [.no] (by kernel_rfl) (by kernel_rfl) ?_
         refine RL.nil (by kernel_rfl) ?_
         refine QN.then_ ?_
         refine OK.ret (by kernel_rfl) ?_
         refine QN.thenR ?_
         refine QN.blkR ?_
         refine QN.thenR ?_
         refine QN.outR hQ10 ?_
         refine QN.blkR ?_
         refine QN.outR hQ3 ?_
         refine QN.thenR ?_
         obtain rfl := Option.some.inj H
         replace H : some false = some r := HK3
         obtain rfl := Option.some.inj H
         refine QN.body rfl [] (RFacts.nil _ _ _) (.no) (.bool false) (by kernel_rfl) (by kernel_rfl) (by kernel_rfl) ?_ _ (.inr rfl)
         exact fun w' hs' => ⟨_, rfl, I18, rfl, hs'.got _ (.cons _ .slnil)⟩
        ·skip
         have hc := (Bool.eq_false_iff.1 hb)
         rw [if_neg hc] at H
         clear hb
         refine OK.skip (by kernel_rfl) ?_
         refine QN.then_ ?_
         refine OK.region 19 O4_82 (by kernel_rfl) ?_
         refine RL.simK (K' := [(98, .int .i64 x8), (97, .slice A4 t3.2.f1.length c4), (95, .int .i64 x7), (3, .bool t1), (4, .slice A1 t2.length c1), (5, .slice A2 t3.1.length c2), (6, .pointer (some ⟨nx3, 0, none⟩)), (7, .int .i64 t4.1), (9, .int .i64 x7), (11, .int .i64 x8)]) [] (RFacts.nil _ _ _) 4 [.no, .no, .l 0, .no] (by kernel_rfl) (by kernel_rfl) ?_
         by_cases hib0 : 0 ≤ x8
         case neg => rw [if_neg hib0] at H; cases H
         rw [if_pos hib0] at H
         by_cases hib1 : x8 < (t3.2.f1.length : Int)
         case neg => rw [if_neg hib1] at H; cases H
         rw [if_pos hib1] at H
         obtain ⟨g6_, o6_, hA6_, hc6_⟩ := Ty.int_at (Rd.ext (Imm.le_trans (Imm.le_trans (Imm.le_trans hi7 hi8) hi17) hi18) hr3) x8 hib0 hib1
         refine RL.idx 1 .i64 x8 hA6_ t3.2.f1.length c4 (some 99) (by kernel_rfl) (by kernel_rfl) (T := 24) (e := 2) (by kernel_rfl) (by kernel_rfl) hib0 hib1 (K' := [(99, .pointer (some ⟨g6_, o6_ + (x8).toNat * 1, none⟩)), (98, .int .i64 x8), (97, .slice A4 t3.2.f1.length c4), (95, .int .i64 x7), (3, .bool t1), (4, .slice A1 t2.length c1), (5, .slice A2 t3.1.length c2), (6, .pointer (some ⟨nx3, 0, none⟩)), (7, .int .i64 t4.1), (9, .int .i64 x7), (11, .int .i64 x8)]) (by kernel_rfl) ?_
         refine RL.simK (K' := [(9, .int .i64 (W .i64 (x7 + (t3.2.f1.getD (x8).toNat 0)))), (3, .bool t1), (4, .slice A1 t2.length c1), (5, .slice A2 t3.1.length c2), (6, .pointer (some ⟨nx3, 0, none⟩)), (7, .int .i64 t4.1), (11, .int .i64 x8)]) [(⟨g6_, o6_ + (x8).toNat * 1, none⟩, .int .i64 (t3.2.f1.getD (x8).toNat 0))] (RFacts.imm (hc6_ 0 _ rfl) (RFacts.nil _ _ _)) 3 [.r 0, .no, .no] (by kernel_rfl) (by kernel_rfl) ?_
         refine RL.nil (by kernel_rfl) ?_
         refine QN.blkN ?_
         refine QN.then_ ?_
         refine OK.region 16 O4_84 (by kernel_rfl) ?_
         refine RL.simK (K' := [(11, .int .i64 (W .i64 (x8 + 1))), (9, .int .i64 (W .i64 (x7 + (t3.2.f1.getD (x8).toNat 0)))), (3, .bool t1), (4, .slice A1 t2.length c1), (5, .slice A2 t3.1.length c2), (6, .pointer (some ⟨nx3, 0, none⟩)), (7, .int .i64 t4.1)]) [] (RFacts.nil _ _ _) 3 [.no, .no, .no] (by kernel_rfl) (by kernel_rfl) ?_
         refine RL.nil (by kernel_rfl) ?_
         refine QN.sub (K' := [(3, .bool t1), (4, .slice A1 t2.length c1), (5, .slice A2 t3.1.length c2), (6, .pointer (some ⟨nx3, 0, none⟩)), (7, .int .i64 t4.1), (9, .int .i64 (W .i64 (x7 + (t3.2.f1.getD (x8).toNat 0)))), (11, .int .i64 (W .i64 (x8 + 1)))]) (L' := [⟨nx3, [.slice A3 t3.2.f0.length c3, .slice A4 t3.2.f1.length c4], 26⟩]) (by kernel_rfl) (.cons_cons _ .slnil) (.refl _) ?_
         exact hJ10 _ _ _ _ _ ⟨W .i64 (x7 + (t3.2.f1.getD (x8).toNat 0)), W .i64 (x8 + 1), rfl, rfl, rfl, (Imm.le_trans hi17 hi18), H⟩
       ·intro Q_6 hJ11 hQ11
        obtain ⟨y8, H, HK8⟩ := Option.bind_eq_some_iff.mp H
        refine OK.region 17 O4_74 (by kernel_rfl) ?_
        refine RL.simK (K' := [(83, .int .i64 x8), (82, .slice A4 t3.2.f1.length c4), (3, .bool t1), (4, .slice A1 t2.length c1), (5, .slice A2 t3.1.length c2), (6, .pointer (some ⟨nx3, 0, none⟩)), (7, .int .i64 t4.1), (9, .int .i64 x7), (11, .int .i64 x8)]) [] (RFacts.nil _ _ _) 3 [.no, .l 0, .no] (by kernel_rfl) (by kernel_rfl) ?_
        by_cases hib0 : 0 ≤ x8
        case neg => rw [if_neg hib0] at H; cases H
        rw [if_pos hib0] at H
        by_cases hib1 : x8 < (t3.2.f1.length : Int)
        case neg => rw [if_neg hib1] at H; cases H
        rw [if_pos hib1] at H
        obtain ⟨g7_, o7_, hA7_, hc7_⟩ := Ty.int_at (Rd.ext (Imm.le_trans (Imm.le_trans hi7 hi8) hi17) hr3) x8 hib0 hib1
        refine RL.idx 1 .i64 x8 hA7_ t3.2.f1.length c4 (some 84) (by kernel_rfl) (by kernel_rfl) (T := 24) (e := 2) (by kernel_rfl) (by kernel_rfl) hib0 hib1 (K' := [(84, .pointer (some ⟨g7_, o7_ + (x8).toNat * 1, none⟩)), (83, .int .i64 x8), (82, .slice A4 t3.2.f1.length c4), (3, .bool t1), (4, .slice A1 t2.length c1), (5, .slice A2 t3.1.length c2), (6, .pointer (some ⟨nx3, 0, none⟩)), (7, .int .i64 t4.1), (9, .int .i64 x7), (11, .int .i64 x8)]) (by kernel_rfl) ?_
        refine RL.simK (K' := [(87, .bool (decide ((t3.2.f1.getD (x8).toNat 0) < 0))), (3, .bool t1), (4, .slice A1 t2.length c1), (5, .slice A2 t3.1.length c2), (6, .pointer (some ⟨nx3, 0, none⟩)), (7, .int .i64 t4.1), (9, .int .i64 x7), (11, .int .i64 x8)]) [(⟨g7_, o7_ + (x8).toNat * 1, none⟩, .int .i64 (t3.2.f1.getD (x8).toNat 0))] (RFacts.imm (hc7_ 0 _ rfl) (RFacts.nil _ _ _)) 3 [.r 0, .no, .no] (by kernel_rfl) (by kernel_rfl) ?_
        refine RL.cases (decide ((t3.2.f1.getD (x8).toNat 0) < 0)) (fun hb => ?_) (fun hb => ?_)
        ·have hc := (of_decide_eq_true hb)
         rw [hb]
         rw [if_pos hc] at H; clear hb
         refine RL.simK (K' := [(94, .bool true), (3, .bool t1), (4, .slice A1 t2.length c1), (5, .slice A2 t3.1.length c2), (6, .pointer (some ⟨nx3, 0, none⟩)), (7, .int .i64 t4.1), (9, .int .i64 x7), (11, .int .i64 x8)]) [] (RFacts.nil _ _ _) 7 [.no, .no, .no, .no, .no, .no, .no] (by kernel_rfl) (by kernel_rfl) ?_
         refine RL.nil (by kernel_rfl) ?_
         obtain rfl := Option.some.inj H
         refine QN.sub (K' := [(3, .bool t1), (4, .slice A1 t2.length c1), (5, .slice A2 t3.1.length c2), (6, .pointer (some ⟨nx3, 0, none⟩)), (7, .int .i64 t4.1), (9, .int .i64 x7), (11, .int .i64 x8), (94, .bool true)]) (L' := [⟨nx3, [.slice A3 t3.2.f0.length c3, .slice A4 t3.2.f1.length c4], 26⟩]) (by kernel_rfl) (.cons_cons _ .slnil) (.refl _) ?_
         exact hJ11 _ _ _ _ _ ⟨true, rfl, rfl, rfl, (Imm.le_refl _), HK8⟩
        ·have hc := (of_decide_eq_false hb)
         rw [hb]
         rw [if_neg hc] at H; clear hb
         refine RL.simK (K' := [(90, .int .i64 x8), (89, .slice A4 t3.2.f1.length c4), (87, .bool false), (3, .bool t1), (4, .slice A1 t2.length c1), (5, .slice A2 t3.1.length c2), (6, .pointer (some ⟨nx3, 0, none⟩)), (7, .int .i64 t4.1), (9, .int .i64 x7), (11, .int .i64 x8)]) [] (RFacts.nil _ _ _) 3 [.no, .l 0, .no] (by kernel_rfl) (by kernel_rfl) ?_
         by_cases hib0 : 0 ≤ x8
         case neg => rw [if_neg hib0] at H; cases H
         rw [if_pos hib0] at H
         by_cases hib1 : x8 < (t3.2.f1.length : Int)
         case neg => rw [if_neg hib1] at H; cases H
         rw [if_pos hib1] at H
         obtain ⟨g8_, o8_, hA8_, hc8_⟩ := Ty.int_at (Rd.ext (Imm.le_trans (Imm.le_trans hi7 hi8) hi17) hr3) x8 hib0 hib1
         refine RL.idx 1 .i64 x8 hA8_ t3.2.f1.length c4 (some 91) (by kernel_rfl) (by kernel_rfl) (T := 24) (e := 2) (by kernel_rfl) (by kernel_rfl) hib0 hib1 (K' := [(91, .pointer (some ⟨g8_, o8_ + (x8).toNat * 1, none⟩)), (90, .int .i64 x8), (89, .slice A4 t3.2.f1.length c4), (87, .bool false), (3, .bool t1), (4, .slice A1 t2.length c1), (5, .slice A2 t3.1.length c2), (6, .pointer (some ⟨nx3, 0, none⟩)), (7, .int .i64 t4.1), (9, .int .i64 x7), (11, .int .i64 x8)]) (by kernel_rfl) ?_
         refine RL.simK (K' := [(94, .bool (decide ((t3.2.f1.getD (x8).toNat 0) > 1099511627776))), (3, .bool t1), (4, .slice A1 t2.length c1), (5, .slice A2 t3.1.length c2), (6, .pointer (some ⟨nx3, 0, none⟩)), (7, .int .i64 t4.1), (9, .int .i64 x7), (11, .int .i64 x8)]) [(⟨g8_, o8_ + (x8).toNat * 1, none⟩, .int .i64 (t3.2.f1.getD (x8).toNat 0))] (RFacts.imm (hc8_ 0 _ rfl) (RFacts.nil _ _ _)) 3 [.r 0, .no, .no] (by kernel_rfl) (by kernel_rfl) ?_
         refine RL.nil (by kernel_rfl) ?_
         obtain rfl := Option.some.inj H
         refine QN.sub (K' := [(3, .bool t1), (4, .slice A1 t2.length c1), (5, .slice A2 t3.1.length c2), (6, .pointer (some ⟨nx3, 0, none⟩)), (7, .int .i64 t4.1), (9, .int .i64 x7), (11, .int .i64 x8), (94, .bool (decide ((t3.2.f1.getD (x8).toNat 0) > 1099511627776)))]) (L' := [⟨nx3, [.slice A3 t3.2.f0.length c3, .slice A4 t3.2.f1.length c4], 26⟩]) (by kernel_rfl) (.cons_cons _ .slnil) (.refl _) ?_
         exact hJ11 _ _ _ _ _ ⟨(decide ((t3.2.f1.getD (x8).toNat 0) > 1099511627776)), rfl, rfl, rfl, (Imm.le_refl _), HK8⟩
      ·skip
       have hc := (of_decide_eq_false hb)
       rw [if_neg hc] at H
       clear hb
       refine OK.exit 2 (by kernel_rfl) ?_
       refine QN.thenE ?_
       refine QN.outE hQ10 ?_
       refine QN.blkE ?_
       obtain rfl := Option.some.inj H
       refine QN.sub (K' := [(3, .bool t1), (4, .slice A1 t2.length c1), (5, .slice A2 t3.1.length c2), (6, .pointer (some ⟨nx3, 0, none⟩)), (7, .int .i64 t4.1), (9, .int .i64 x7)]) (L' := [⟨nx3, [.slice A3 t3.2.f0.length c3, .slice A4 t3.2.f1.length c4], 26⟩]) (by kernel_rfl) (.cons_cons _ .slnil) (.refl _) ?_
       exact hJ3 _ _ _ _ _ ⟨x7, rfl, rfl, rfl, hi17, HK3⟩
   ·intro Q_7 hJ2 hQ2
    obtain ⟨y2, H, HK2⟩ := Option.bind_eq_some_iff.mp H
    refine OK.block 0 K4_33 (by kernel_rfl) ?_
    refine OK.sub (K' := [(3, .bool t1), (4, .slice A1 t2.length c1), (5, .slice A2 t3.1.length c2), (6, .pointer (some ⟨nx3, 0, none⟩)), (7, .int .i64 t4.1), (9, .int .i64 0), (10, .int .i64 0)]) (L' := [⟨nx3, [.slice A3 t3.2.f0.length c3, .slice A4 t3.2.f1.length c4], 26⟩]) (by kernel_rfl) (.cons_cons _ .slnil) (.refl _) ?_
    refine OK.loopInv K4_34 (by kernel_rfl) (fun n_ K' I' _ L' X' => ∃ (x10 : Int) (x11 : Int), K' = [(3, .bool t1), (4, .slice A1 t2.length c1), (5, .slice A2 t3.1.length c2), (6, .pointer (some ⟨nx3, 0, none⟩)), (7, .int .i64 t4.1), (9, .int .i64 x10), (10, .int .i64 x11)] ∧ L' = [⟨nx3, [.slice A3 t3.2.f0.length c3, .slice A4 t3.2.f1.length c4], 26⟩] ∧ X' = [orow 3 1 A2 t3.1.length c2 cs2] ∧ Imm.le I7 I' ∧ armillarylaw22_AssignDuality.l4 t3 n_ x10 x11 = some y2) k ⟨0, 0, rfl, rfl, rfl, (Imm.le_refl _), H⟩ ?_ ?_
    ·rintro _ _ _ _ _ ⟨x10, x11, rfl, rfl, rfl, _, H⟩
     cases H
    ·rintro kq4 _ I19 nx18 _ _ ⟨x10, x11, rfl, rfl, rfl, hi19, H⟩ Q_l4 hJ12 hQ12
     replace H : (if x11 < (t3.2.f0.length : Int) then ((if 0 ≤ x11 then (if x11 < (t3.2.f0.length : Int) then (if (t3.2.f0.getD (x11).toNat 0) < 0 then (some true) else (if 0 ≤ x11 then (if x11 < (t3.2.f0.length : Int) then (some (decide ((t3.2.f0.getD (x11).toNat 0) > 1099511627776))) else none) else none)) else none) else none).bind (fun x12 => (if x12 = true then (some (Sum.inr false)) else (if 0 ≤ x11 then (if x11 < (t3.2.f0.length : Int) then (armillarylaw22_AssignDuality.l4 t3 kq4 (W .i64 (x10 + (t3.2.f0.getD (x11).toNat 0))) (W .i64 (x11 + 1))) else none) else none)))) else (some (Sum.inl x10))) = some y2 := H
     refine OK.seq K4_35 K4_41 (by kernel_rfl) ?_
     refine OK.seq K4_36 K4_38 (by kernel_rfl) ?_
     refine OK.region 9 O4_36 (by kernel_rfl) ?_
     refine RL.simK (K' := [(50, .bool (decide (x11 < (t3.2.f0.length : Int)))), (3, .bool t1), (4, .slice A1 t2.length c1), (5, .slice A2 t3.1.length c2), (6, .pointer (some ⟨nx3, 0, none⟩)), (7, .int .i64 t4.1), (9, .int .i64 x10), (10, .int .i64 x11)]) [] (RFacts.nil _ _ _) 5 [.no, .no, .l 0, .no, .no] (by kernel_rfl) (by kernel_rfl) ?_
     refine RL.nil (by kernel_rfl) ?_
     refine QN.then_ ?_
     refine OK.cond (.tmp 50) K4_39 K4_40 (decide (x11 < (t3.2.f0.length : Int))) (by kernel_rfl) (by kernel_rfl) (by kernel_rfl) (fun hb => ?_) (fun hb => ?_)
     ·skip
      have hc := (of_decide_eq_true hb)
      rw [if_pos hc] at H
      clear hb
      refine OK.skip (by kernel_rfl) ?_
      refine QN.then_ ?_
      refine OK.seq K4_42 K4_55 (by kernel_rfl) ?_
      refine OK.block 1 K4_43 (by kernel_rfl) ?_
      refine OK.seq K4_44 K4_53 (by kernel_rfl) ?_
      refine OK.seq K4_45 K4_47 (by kernel_rfl) ?_
      refine OK.join (fun K' I' _ L' X' => ∃ (x12 : Bool), K' = [(3, .bool t1), (4, .slice A1 t2.length c1), (5, .slice A2 t3.1.length c2), (6, .pointer (some ⟨nx3, 0, none⟩)), (7, .int .i64 t4.1), (9, .int .i64 x10), (10, .int .i64 x11), (66, .bool x12)] ∧ L' = [⟨nx3, [.slice A3 t3.2.f0.length c3, .slice A4 t3.2.f1.length c4], 26⟩] ∧ X' = [orow 3 1 A2 t3.1.length c2 cs2] ∧ Imm.le I19 I' ∧ (if x12 = true then (some (Sum.inr false)) else (if 0 ≤ x11 then (if x11 < (t3.2.f0.length : Int) then (armillarylaw22_AssignDuality.l4 t3 kq4 (W .i64 (x10 + (t3.2.f0.getD (x11).toNat 0))) (W .i64 (x11 + 1))) else none) else none)) = some y2) ?_ ?_
      ·rintro _ I20 nx19 _ _ ⟨x12, rfl, rfl, rfl, hi20, H⟩
       replace H : (if x12 = true then (some (Sum.inr false)) else (if 0 ≤ x11 then (if x11 < (t3.2.f0.length : Int) then (armillarylaw22_AssignDuality.l4 t3 kq4 (W .i64 (x10 + (t3.2.f0.getD (x11).toNat 0))) (W .i64 (x11 + 1))) else none) else none)) = some y2 := H
       refine QN.then_ ?_
       refine OK.cond (.tmp 66) K4_48 K4_52 x12 (by kernel_rfl) (by kernel_rfl) (by kernel_rfl) (fun hb => ?_) (fun hb => ?_)
       ·skip
        have hc := hb
        rw [if_pos hc] at H
        clear hb
        refine OK.seq K4_49 K4_51 (by kernel_rfl) ?_
        refine OK.region 12 O4_49 (by kernel_rfl) ?_
        refine RL.simK (K' := [(2, .bool false)]) [] (RFacts.nil _ _ _) 1 [.no] (by kernel_rfl) (by kernel_rfl) ?_
        refine RL.nil (by kernel_rfl) ?_
        refine QN.then_ ?_
        refine OK.ret (by kernel_rfl) ?_
        refine QN.thenR ?_
        refine QN.blkR ?_
        refine QN.thenR ?_
        refine QN.outR hQ12 ?_
        refine QN.blkR ?_
        refine QN.outR hQ2 ?_
        refine QN.thenR ?_
        obtain rfl := Option.some.inj H
        replace H : some false = some r := HK2
        obtain rfl := Option.some.inj H
        refine QN.body rfl [] (RFacts.nil _ _ _) (.no) (.bool false) (by kernel_rfl) (by kernel_rfl) (by kernel_rfl) ?_ _ (.inr rfl)
        exact fun w' hs' => ⟨_, rfl, I20, rfl, hs'.got _ (.cons _ .slnil)⟩
       ·skip
        have hc := (Bool.eq_false_iff.1 hb)
        rw [if_neg hc] at H
        clear hb
        refine OK.skip (by kernel_rfl) ?_
        refine QN.then_ ?_
        refine OK.region 13 O4_53 (by kernel_rfl) ?_
        refine RL.simK (K' := [(70, .int .i64 x11), (69, .slice A3 t3.2.f0.length c3), (67, .int .i64 x10), (3, .bool t1), (4, .slice A1 t2.length c1), (5, .slice A2 t3.1.length c2), (6, .pointer (some ⟨nx3, 0, none⟩)), (7, .int .i64 t4.1), (9, .int .i64 x10), (10, .int .i64 x11)]) [] (RFacts.nil _ _ _) 4 [.no, .no, .l 0, .no] (by kernel_rfl) (by kernel_rfl) ?_
        by_cases hib0 : 0 ≤ x11
        case neg => rw [if_neg hib0] at H; cases H
        rw [if_pos hib0] at H
        by_cases hib1 : x11 < (t3.2.f0.length : Int)
        case neg => rw [if_neg hib1] at H; cases H
        rw [if_pos hib1] at H
        obtain ⟨g9_, o9_, hA9_, hc9_⟩ := Ty.int_at (Rd.ext (Imm.le_trans (Imm.le_trans (Imm.le_trans hi6 hi7) hi19) hi20) hr2) x11 hib0 hib1
        refine RL.idx 1 .i64 x11 hA9_ t3.2.f0.length c3 (some 71) (by kernel_rfl) (by kernel_rfl) (T := 24) (e := 2) (by kernel_rfl) (by kernel_rfl) hib0 hib1 (K' := [(71, .pointer (some ⟨g9_, o9_ + (x11).toNat * 1, none⟩)), (70, .int .i64 x11), (69, .slice A3 t3.2.f0.length c3), (67, .int .i64 x10), (3, .bool t1), (4, .slice A1 t2.length c1), (5, .slice A2 t3.1.length c2), (6, .pointer (some ⟨nx3, 0, none⟩)), (7, .int .i64 t4.1), (9, .int .i64 x10), (10, .int .i64 x11)]) (by kernel_rfl) ?_
        refine RL.simK (K' := [(9, .int .i64 (W .i64 (x10 + (t3.2.f0.getD (x11).toNat 0)))), (3, .bool t1), (4, .slice A1 t2.length c1), (5, .slice A2 t3.1.length c2), (6, .pointer (some ⟨nx3, 0, none⟩)), (7, .int .i64 t4.1), (10, .int .i64 x11)]) [(⟨g9_, o9_ + (x11).toNat * 1, none⟩, .int .i64 (t3.2.f0.getD (x11).toNat 0))] (RFacts.imm (hc9_ 0 _ rfl) (RFacts.nil _ _ _)) 3 [.r 0, .no, .no] (by kernel_rfl) (by kernel_rfl) ?_
        refine RL.nil (by kernel_rfl) ?_
        refine QN.blkN ?_
        refine QN.then_ ?_
        refine OK.region 10 O4_55 (by kernel_rfl) ?_
        refine RL.simK (K' := [(10, .int .i64 (W .i64 (x11 + 1))), (9, .int .i64 (W .i64 (x10 + (t3.2.f0.getD (x11).toNat 0)))), (3, .bool t1), (4, .slice A1 t2.length c1), (5, .slice A2 t3.1.length c2), (6, .pointer (some ⟨nx3, 0, none⟩)), (7, .int .i64 t4.1)]) [] (RFacts.nil _ _ _) 3 [.no, .no, .no] (by kernel_rfl) (by kernel_rfl) ?_
        refine RL.nil (by kernel_rfl) ?_
        refine QN.sub (K' := [(3, .bool t1), (4, .slice A1 t2.length c1), (5, .slice A2 t3.1.length c2), (6, .pointer (some ⟨nx3, 0, none⟩)), (7, .int .i64 t4.1), (9, .int .i64 (W .i64 (x10 + (t3.2.f0.getD (x11).toNat 0)))), (10, .int .i64 (W .i64 (x11 + 1)))]) (L' := [⟨nx3, [.slice A3 t3.2.f0.length c3, .slice A4 t3.2.f1.length c4], 26⟩]) (by kernel_rfl) (.cons_cons _ .slnil) (.refl _) ?_
        exact hJ12 _ _ _ _ _ ⟨W .i64 (x10 + (t3.2.f0.getD (x11).toNat 0)), W .i64 (x11 + 1), rfl, rfl, rfl, (Imm.le_trans hi19 hi20), H⟩
      ·intro Q_8 hJ13 hQ13
       obtain ⟨y9, H, HK9⟩ := Option.bind_eq_some_iff.mp H
       refine OK.region 11 O4_45 (by kernel_rfl) ?_
       refine RL.simK (K' := [(55, .int .i64 x11), (54, .slice A3 t3.2.f0.length c3), (3, .bool t1), (4, .slice A1 t2.length c1), (5, .slice A2 t3.1.length c2), (6, .pointer (some ⟨nx3, 0, none⟩)), (7, .int .i64 t4.1), (9, .int .i64 x10), (10, .int .i64 x11)]) [] (RFacts.nil _ _ _) 3 [.no, .l 0, .no] (by kernel_rfl) (by kernel_rfl) ?_
       by_cases hib0 : 0 ≤ x11
       case neg => rw [if_neg hib0] at H; cases H
       rw [if_pos hib0] at H
       by_cases hib1 : x11 < (t3.2.f0.length : Int)
       case neg => rw [if_neg hib1] at H; cases H
       rw [if_pos hib1] at H
       obtain ⟨g10_, o10_, hA10_, hc10_⟩ := Ty.int_at (Rd.ext (Imm.le_trans (Imm.le_trans hi6 hi7) hi19) hr2) x11 hib0 hib1
       refine RL.idx 1 .i64 x11 hA10_ t3.2.f0.length c3 (some 56) (by kernel_rfl) (by kernel_rfl) (T := 24) (e := 2) (by kernel_rfl) (by kernel_rfl) hib0 hib1 (K' := [(56, .pointer (some ⟨g10_, o10_ + (x11).toNat * 1, none⟩)), (55, .int .i64 x11), (54, .slice A3 t3.2.f0.length c3), (3, .bool t1), (4, .slice A1 t2.length c1), (5, .slice A2 t3.1.length c2), (6, .pointer (some ⟨nx3, 0, none⟩)), (7, .int .i64 t4.1), (9, .int .i64 x10), (10, .int .i64 x11)]) (by kernel_rfl) ?_
       refine RL.simK (K' := [(59, .bool (decide ((t3.2.f0.getD (x11).toNat 0) < 0))), (3, .bool t1), (4, .slice A1 t2.length c1), (5, .slice A2 t3.1.length c2), (6, .pointer (some ⟨nx3, 0, none⟩)), (7, .int .i64 t4.1), (9, .int .i64 x10), (10, .int .i64 x11)]) [(⟨g10_, o10_ + (x11).toNat * 1, none⟩, .int .i64 (t3.2.f0.getD (x11).toNat 0))] (RFacts.imm (hc10_ 0 _ rfl) (RFacts.nil _ _ _)) 3 [.r 0, .no, .no] (by kernel_rfl) (by kernel_rfl) ?_
       refine RL.cases (decide ((t3.2.f0.getD (x11).toNat 0) < 0)) (fun hb => ?_) (fun hb => ?_)
       ·have hc := (of_decide_eq_true hb)
        rw [hb]
        rw [if_pos hc] at H; clear hb
        refine RL.simK (K' := [(66, .bool true), (3, .bool t1), (4, .slice A1 t2.length c1), (5, .slice A2 t3.1.length c2), (6, .pointer (some ⟨nx3, 0, none⟩)), (7, .int .i64 t4.1), (9, .int .i64 x10), (10, .int .i64 x11)]) [] (RFacts.nil _ _ _) 7 [.no, .no, .no, .no, .no, .no, .no] (by kernel_rfl) (by kernel_rfl) ?_
        refine RL.nil (by kernel_rfl) ?_
        obtain rfl := Option.some.inj H
        refine QN.sub (K' := [(3, .bool t1), (4, .slice A1 t2.length c1), (5, .slice A2 t3.1.length c2), (6, .pointer (some ⟨nx3, 0, none⟩)), (7, .int .i64 t4.1), (9, .int .i64 x10), (10, .int .i64 x11), (66, .bool true)]) (L' := [⟨nx3, [.slice A3 t3.2.f0.length c3, .slice A4 t3.2.f1.length c4], 26⟩]) (by kernel_rfl) (.cons_cons _ .slnil) (.refl _) ?_
        exact hJ13 _ _ _ _ _ ⟨true, rfl, rfl, rfl, (Imm.le_refl _), HK9⟩
       ·have hc := (of_decide_eq_false hb)
        rw [hb]
        rw [if_neg hc] at H; clear hb
        refine RL.simK (K' := [(62, .int .i64 x11), (61, .slice A3 t3.2.f0.length c3), (59, .bool false), (3, .bool t1), (4, .slice A1 t2.length c1), (5, .slice A2 t3.1.length c2), (6, .pointer (some ⟨nx3, 0, none⟩)), (7, .int .i64 t4.1), (9, .int .i64 x10), (10, .int .i64 x11)]) [] (RFacts.nil _ _ _) 3 [.no, .l 0, .no] (by kernel_rfl) (by kernel_rfl) ?_
        by_cases hib0 : 0 ≤ x11
        case neg => rw [if_neg hib0] at H; cases H
        rw [if_pos hib0] at H
        by_cases hib1 : x11 < (t3.2.f0.length : Int)
        case neg => rw [if_neg hib1] at H; cases H
        rw [if_pos hib1] at H
        obtain ⟨g11_, o11_, hA11_, hc11_⟩ := Ty.int_at (Rd.ext (Imm.le_trans (Imm.le_trans hi6 hi7) hi19) hr2) x11 hib0 hib1
        refine RL.idx 1 .i64 x11 hA11_ t3.2.f0.length c3 (some 63) (by kernel_rfl) (by kernel_rfl) (T := 24) (e := 2) (by kernel_rfl) (by kernel_rfl) hib0 hib1 (K' := [(63, .pointer (some ⟨g11_, o11_ + (x11).toNat * 1, none⟩)), (62, .int .i64 x11), (61, .slice A3 t3.2.f0.length c3), (59, .bool false), (3, .bool t1), (4, .slice A1 t2.length c1), (5, .slice A2 t3.1.length c2), (6, .pointer (some ⟨nx3, 0, none⟩)), (7, .int .i64 t4.1), (9, .int .i64 x10), (10, .int .i64 x11)]) (by kernel_rfl) ?_
        refine RL.simK (K' := [(66, .bool (decide ((t3.2.f0.getD (x11).toNat 0) > 1099511627776))), (3, .bool t1), (4, .slice A1 t2.length c1), (5, .slice A2 t3.1.length c2), (6, .pointer (some ⟨nx3, 0, none⟩)), (7, .int .i64 t4.1), (9, .int .i64 x10), (10, .int .i64 x11)]) [(⟨g11_, o11_ + (x11).toNat * 1, none⟩, .int .i64 (t3.2.f0.getD (x11).toNat 0))] (RFacts.imm (hc11_ 0 _ rfl) (RFacts.nil _ _ _)) 3 [.r 0, .no, .no] (by kernel_rfl) (by kernel_rfl) ?_
        refine RL.nil (by kernel_rfl) ?_
        obtain rfl := Option.some.inj H
        refine QN.sub (K' := [(3, .bool t1), (4, .slice A1 t2.length c1), (5, .slice A2 t3.1.length c2), (6, .pointer (some ⟨nx3, 0, none⟩)), (7, .int .i64 t4.1), (9, .int .i64 x10), (10, .int .i64 x11), (66, .bool (decide ((t3.2.f0.getD (x11).toNat 0) > 1099511627776)))]) (L' := [⟨nx3, [.slice A3 t3.2.f0.length c3, .slice A4 t3.2.f1.length c4], 26⟩]) (by kernel_rfl) (.cons_cons _ .slnil) (.refl _) ?_
        exact hJ13 _ _ _ _ _ ⟨(decide ((t3.2.f0.getD (x11).toNat 0) > 1099511627776)), rfl, rfl, rfl, (Imm.le_refl _), HK9⟩
     ·skip
      have hc := (of_decide_eq_false hb)
      rw [if_neg hc] at H
      clear hb
      refine OK.exit 0 (by kernel_rfl) ?_
      refine QN.thenE ?_
      refine QN.outE hQ12 ?_
      refine QN.blkE ?_
      obtain rfl := Option.some.inj H
      refine QN.sub (K' := [(3, .bool t1), (4, .slice A1 t2.length c1), (5, .slice A2 t3.1.length c2), (6, .pointer (some ⟨nx3, 0, none⟩)), (7, .int .i64 t4.1), (9, .int .i64 x10)]) (L' := [⟨nx3, [.slice A3 t3.2.f0.length c3, .slice A4 t3.2.f1.length c4], 26⟩]) (by kernel_rfl) (.cons_cons _ .slnil) (.refl _) ?_
      exact hJ2 _ _ _ _ _ ⟨x10, rfl, rfl, rfl, hi19, HK2⟩
 ·intro Q_9 hJ1 hQ1
  obtain ⟨y1, H, HK1⟩ := Option.bind_eq_some_iff.mp H
  refine OK.cases t4.2 (fun hb1 => ?_) (fun hb1 => ?_)
  ·have hc1 := hb1
   rw [if_pos hc1] at H
   refine OK.cases ((t3.2.f0.length : Int) != (t2.length : Int)) (fun hb2 => ?_) (fun hb2 => ?_)
   ·have hc2 := (bne_iff_ne.1 hb2)
    rw [if_pos hc2] at H
    refine OK.drawnC 5 16 O4_17 a4_17n (by kernel_rfl) (by kernel_rfl) u4d2l u4d2g [] (RI.nil _) [.no, .no, .no, .no, .l 0, .no, .no, .no, .no, .no, .no, .no, .no, .no, .no, .no] a4_17 a4_17o (by kernel_rfl) (by kernel_rfl) (u4d2s t2 A1 c1 t3 A3 c3 nx3 t4) (u4d2f t1 t2 A1 c1 t3 A2 c2 A3 c3 nx3 t4 16) (u4d2v t1 t2 A1 c1 t3 A2 c2 A3 c3 A4 c4 nx3 t4) (u4d2e t1 t2 A1 c1 t3 A2 c2 A3 c3 A4 c4 nx3 t4) [] framesOk.nil ?_ [u4d2f t1 t2 A1 c1 t3 A2 c2 A3 c3 nx3 t4 2, u4d2f t1 t2 A1 c1 t3 A2 c2 A3 c3 nx3 t4 10] (framesOk.cons (fun u => rfl) (framesOk.cons (fun u => rfl) framesOk.nil)) ?_ ?_
    ·refine LoudsG.nil
    ·refine Givens.cons (fun u w =>  ?_) (fun _ _ _ => rfl) (Givens.cons (fun u w =>  ?_) (fun _ _ _ => rfl) (Givens.nil))
     ·exact giv_run (v := .bool (!t4.2)) (by kernel_rfl) (by rw [hb1]; try rfl) w
     ·exact giv_run (v := .bool ((t3.2.f0.length : Int) != (t2.length : Int))) (by kernel_rfl) (by rw [hb2]; try rfl) w
    intro u I21 nx20 hi21 hF
    clear hF
    refine RL.norm (K' := [(43, undef), (42, undef), (41, undef), (40, undef), (39, undef), (38, .bool true), (37, .bool ((t3.2.f0.length : Int) != (t2.length : Int))), (36, .bool ((t3.2.f0.length : Int) != (t2.length : Int))), (35, .int .i64 (t2.length : Int)), (34, .slice A1 t2.length c1), (33, .int .i64 (t3.2.f0.length : Int)), (32, .slice A3 t3.2.f0.length c3), (31, .pointer (some ⟨nx3, 0, none⟩)), (30, .bool false), (29, .bool (!t4.2)), (28, .bool t4.2), (8, .bool t4.2), (7, .int .i64 t4.1), (5, .slice A2 t3.1.length c2), (6, .pointer (some ⟨nx3, 0, none⟩)), (4, .slice A1 t2.length c1), (3, .bool t1)]) (X' := [orow 3 1 A2 t3.1.length c2 cs2]) (by kernel_rfl) rfl rfl rfl ?_
    refine RL.simK (K' := [(45, .bool true), (7, .int .i64 t4.1), (5, .slice A2 t3.1.length c2), (6, .pointer (some ⟨nx3, 0, none⟩)), (4, .slice A1 t2.length c1), (3, .bool t1)]) [] (RFacts.nil _ _ _) 2 [.no, .no] (by kernel_rfl) (by kernel_rfl) ?_
    refine RL.nil (by kernel_rfl) ?_
    obtain rfl := Option.some.inj H
    refine QN.sub (K' := [(3, .bool t1), (4, .slice A1 t2.length c1), (5, .slice A2 t3.1.length c2), (6, .pointer (some ⟨nx3, 0, none⟩)), (7, .int .i64 t4.1), (45, .bool true)]) (L' := [⟨nx3, [.slice A3 t3.2.f0.length c3, .slice A4 t3.2.f1.length c4], 26⟩]) (by kernel_rfl) (.cons_cons _ .slnil) (.refl _) ?_
    exact hJ1 _ _ _ _ _ ⟨true, rfl, rfl, rfl, hi21, HK1⟩
   ·have hc2 := (not_not_intro (bne_eq_false_iff_eq.1 hb2))
    rw [if_neg hc2] at H
    obtain ⟨t6, hA6, H⟩ := Option.bind_eq_some_iff.mp H
    refine OK.drawnC 5 16 O4_17 a4_17n (by kernel_rfl) (by kernel_rfl) (u4d3l t6) u4d3g [] (RI.nil _) [.no, .no, .no, .no, .l 0, .no, .no, .no, .no, .no, .no, .no, .l 0, .no, .no, .no] a4_17 a4_17o (by kernel_rfl) (by kernel_rfl) (u4d3s t2 A1 c1 t3 A3 c3 A4 c4 nx3 t4 t6) (u4d3f t1 t2 A1 c1 t3 A2 c2 A3 c3 A4 c4 nx3 t4 t6 16) (u4d3v t1 t2 A1 c1 t3 A2 c2 A3 c3 A4 c4 nx3 t4 t6) (u4d3e t1 t2 A1 c1 t3 A2 c2 A3 c3 A4 c4 nx3 t4 t6) [u4d3f t1 t2 A1 c1 t3 A2 c2 A3 c3 A4 c4 nx3 t4 t6 15] (framesOk.cons (fun u => rfl) framesOk.nil) ?_ [u4d3f t1 t2 A1 c1 t3 A2 c2 A3 c3 A4 c4 nx3 t4 t6 2, u4d3f t1 t2 A1 c1 t3 A2 c2 A3 c3 A4 c4 nx3 t4 t6 10] (framesOk.cons (fun u => rfl) (framesOk.cons (fun u => rfl) framesOk.nil)) ?_ ?_
    ·refine LoudsG.cons ?_ (LoudsG.nil)
     ·intro D u J w hp hJ hs hF
      refine Does.call 21 [.slice A1 t2.length c1] (by kernel_rfl) ((armillaryref22_Columns.calls J t2 A1 c1 w hs.im hl1 (Rd.ext (Imm.le_trans (Imm.le_trans (Imm.le_trans hi4 hi5) hi6) hJ) hr1) t6 hA6).mono ?_)
      rintro e w' ⟨v, rfl, J2, rfl, hg⟩
      exact ⟨_, rfl, fun _ => (none, 0, []), J2, rfl, hg, trivial⟩
    ·refine Givens.cons (fun u w =>  ?_) (fun _ _ _ => rfl) (Givens.cons (fun u w =>  ?_) (fun _ _ _ => rfl) (Givens.nil))
     ·exact giv_run (v := .bool (!t4.2)) (by kernel_rfl) (by rw [hb1]; try rfl) w
     ·exact giv_run (v := .bool ((t3.2.f0.length : Int) != (t2.length : Int))) (by kernel_rfl) (by rw [hb2]; try rfl) w
    intro u I22 nx21 hi22 hF
    clear hF
    refine RL.norm (K' := [(43, .int .i64 t6), (42, .slice A1 t2.length c1), (41, .int .i64 (t3.2.f1.length : Int)), (40, .slice A4 t3.2.f1.length c4), (39, .pointer (some ⟨nx3, 1, none⟩)), (38, .bool false), (37, .bool ((t3.2.f0.length : Int) != (t2.length : Int))), (36, .bool ((t3.2.f0.length : Int) != (t2.length : Int))), (35, .int .i64 (t2.length : Int)), (34, .slice A1 t2.length c1), (33, .int .i64 (t3.2.f0.length : Int)), (32, .slice A3 t3.2.f0.length c3), (31, .pointer (some ⟨nx3, 0, none⟩)), (30, .bool false), (29, .bool (!t4.2)), (28, .bool t4.2), (8, .bool t4.2), (7, .int .i64 t4.1), (5, .slice A2 t3.1.length c2), (6, .pointer (some ⟨nx3, 0, none⟩)), (4, .slice A1 t2.length c1), (3, .bool t1)]) (X' := [orow 3 1 A2 t3.1.length c2 cs2]) (by kernel_rfl) rfl rfl rfl ?_
    refine RL.simK (K' := [(45, .bool ((t3.2.f1.length : Int) != t6)), (7, .int .i64 t4.1), (5, .slice A2 t3.1.length c2), (6, .pointer (some ⟨nx3, 0, none⟩)), (4, .slice A1 t2.length c1), (3, .bool t1)]) [] (RFacts.nil _ _ _) 2 [.no, .no] (by kernel_rfl) (by kernel_rfl) ?_
    refine RL.nil (by kernel_rfl) ?_
    obtain rfl := Option.some.inj H
    refine QN.sub (K' := [(3, .bool t1), (4, .slice A1 t2.length c1), (5, .slice A2 t3.1.length c2), (6, .pointer (some ⟨nx3, 0, none⟩)), (7, .int .i64 t4.1), (45, .bool ((t3.2.f1.length : Int) != t6))]) (L' := [⟨nx3, [.slice A3 t3.2.f0.length c3, .slice A4 t3.2.f1.length c4], 26⟩]) (by kernel_rfl) (.cons_cons _ .slnil) (.refl _) ?_
    exact hJ1 _ _ _ _ _ ⟨((t3.2.f1.length : Int) != t6), rfl, rfl, rfl, hi22, HK1⟩
  ·have hc1 := (Bool.eq_false_iff.1 hb1)
   rw [if_neg hc1] at H
   refine OK.drawnC 5 16 O4_17 a4_17n (by kernel_rfl) (by kernel_rfl) u4d4l u4d4g [] (RI.nil _) [.no, .no, .no, .no, .no, .no, .no, .no, .no, .no, .no, .no, .no, .no, .no, .no] a4_17 a4_17o (by kernel_rfl) (by kernel_rfl) (u4d4s t4) (u4d4f t1 t2 A1 c1 t3 A2 c2 nx3 t4 16) (u4d4v t1 t2 A1 c1 t3 A2 c2 A3 c3 A4 c4 nx3 t4) (u4d4e t1 t2 A1 c1 t3 A2 c2 A3 c3 A4 c4 nx3 t4) [] framesOk.nil ?_ [u4d4f t1 t2 A1 c1 t3 A2 c2 nx3 t4 2] (framesOk.cons (fun u => rfl) framesOk.nil) ?_ ?_
   ·refine LoudsG.nil
   ·refine Givens.cons (fun u w =>  ?_) (fun _ _ _ => rfl) (Givens.nil)
    ·exact giv_run (v := .bool (!t4.2)) (by kernel_rfl) (by rw [hb1]; try rfl) w
   intro u I23 nx22 hi23 hF
   clear hF
   refine RL.norm (K' := [(43, undef), (42, undef), (41, undef), (40, undef), (39, undef), (38, .bool true), (37, .bool true), (36, undef), (35, undef), (34, undef), (33, undef), (32, undef), (31, undef), (30, .bool true), (29, .bool (!t4.2)), (28, .bool t4.2), (8, .bool t4.2), (7, .int .i64 t4.1), (5, .slice A2 t3.1.length c2), (6, .pointer (some ⟨nx3, 0, none⟩)), (4, .slice A1 t2.length c1), (3, .bool t1)]) (X' := [orow 3 1 A2 t3.1.length c2 cs2]) (by kernel_rfl) rfl rfl rfl ?_
   refine RL.simK (K' := [(45, .bool true), (7, .int .i64 t4.1), (5, .slice A2 t3.1.length c2), (6, .pointer (some ⟨nx3, 0, none⟩)), (4, .slice A1 t2.length c1), (3, .bool t1)]) [] (RFacts.nil _ _ _) 2 [.no, .no] (by kernel_rfl) (by kernel_rfl) ?_
   refine RL.nil (by kernel_rfl) ?_
   obtain rfl := Option.some.inj H
   refine QN.sub (K' := [(3, .bool t1), (4, .slice A1 t2.length c1), (5, .slice A2 t3.1.length c2), (6, .pointer (some ⟨nx3, 0, none⟩)), (7, .int .i64 t4.1), (45, .bool true)]) (L' := [⟨nx3, [.slice A3 t3.2.f0.length c3, .slice A4 t3.2.f1.length c4], 26⟩]) (by kernel_rfl) (.cons_cons _ .slnil) (.refl _) ?_
   exact hJ1 _ _ _ _ _ ⟨true, rfl, rfl, rfl, hi23, HK1⟩

end Go.Proofs.Ytdmhbcgmimfjcaa
