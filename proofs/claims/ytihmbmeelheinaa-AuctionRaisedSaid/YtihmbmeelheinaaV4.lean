/- Words of the walk, the functions' walks and plain laws, joined; no conditions beyond those that the theorems name. -/
import Derived.Test.YtihmbmeelheinaaV2
import Derived.Test.YtihmbmeelheinaaV3
namespace Go.Proofs.Ytihmbmeelheinaa
open Go Go.Proofs.Ytihmbmeelheinaa.RW
set_option linter.unusedVariables false
set_option maxRecDepth 100000
set_option maxHeartbeats 8000000

/-! ### assign_hungarians0: function 48, armillary/assign.hungarian -/
noncomputable def K48s0_0 : Code := cBody Try.f48
def assign_hungarians0.k1  : List Int × List Int × List Int → Option (S89)
 | (x2, x3, x4) => (some (⟨x2, x3, x4⟩ : S89))
def assign_hungarians0.l1 (b0 : List Int) : Nat → (List Int) → (List Int) → (List Int) → Int → Option (List Int × List Int × List Int)
 | 0, _, _, _, _ => none
 | k + 1, x5, x6, x7, x8 => (if x8 < 12 then ((assign_solution_augments0.f k x8 (⟨x5, x6, x7⟩ : S89) b0).bind fun t1 => (assign_hungarians0.l1 b0 k t1.f0 t1.f1 t1.f2 (W .i64 (x8 + 1)))) else (some (x5, x6, x7)))
def assign_hungarians0.k2 (k : Nat) (b0 : List Int) (x1 : List Int) : Option (S89) := ((assign_hungarians0.l1 b0 k x1 (List.replicate 12 0) (List.replicate 12 0) 0).bind (assign_hungarians0.k1))
def assign_hungarians0.l2 : Nat → (List Int) → Int → Option (List Int)
 | 0, _, _ => none
 | k + 1, x9, x10 => (if x10 < 12 then (if 0 ≤ x10 then (if x10 < (12 : Int) then (assign_hungarians0.l2 k (x9.set ((x10).toNat) (-1)) (W .i64 (x10 + 1))) else none) else none) else (some x9))
def assign_hungarians0.f (k : Nat) (b0 : List Int) : Option (S89) := ((assign_hungarians0.l2 k (List.replicate 12 0) 0).bind (assign_hungarians0.k2 k b0))
def assign_hungarians0.Post (S : Nat → Prop) (gb0 : Nat) (b0 : List Int) (I : Imm) (w : World) (r : S89) (v : Value) (w' : World) : Prop :=
 ∃ (J : Imm), v = .agg (((arrV (Value.int .i64) 0 12 r.f0) ++ ((arrV (Value.int .i64) 0 12 r.f1) ++ (arrV (Value.int .i64) 0 12 r.f2)))).toArray ∧ Sat ⟨w, S, I⟩ J w'.heap.size [⟨gb0, arrV (Value.int .i64) 0 144 b0, 85⟩] [] w' ∧ 12 ≤ r.f0.length ∧ 12 ≤ r.f1.length ∧ 12 ≤ r.f2.length
theorem assign_hungarians0.calls (k : Nat) (I0 : Imm) (gb0 : Nat) (b0 : List Int) (w : World) (hs : Sat ⟨w, SM [⟨gb0, arrV (Value.int .i64) 0 144 b0, 85⟩] [], I0⟩ I0 w.heap.size [⟨gb0, arrV (Value.int .i64) 0 144 b0, 85⟩] [] w) (hzb0 : 144 ≤ b0.length) (r : S89) (h : assign_hungarians0.f k b0 = some r) :
  Calls Try.prog 48 [pt gb0 0].toArray w fun e w' => ∃ v, e = .returned v ∧ assign_hungarians0.Post (SM [⟨gb0, arrV (Value.int .i64) 0 144 b0, 85⟩] []) gb0 b0 I0 w r v w' := by
 have H : ((assign_hungarians0.l2 k (List.replicate 12 0) 0).bind (assign_hungarians0.k2 k b0)) = some r := h
 clear h
 refine calls_bodyL Try.func48 (by kernel_rfl) 21 (by kernel_rfl) (by kernel_rfl) ⟨w, SM [⟨gb0, arrV (Value.int .i64) 0 144 b0, 85⟩] [], I0⟩ I0 [⟨gb0, arrV (Value.int .i64) 0 144 b0, 85⟩] [] [(0, pt gb0 0)] (by kernel_rfl) hs ?_
 generalize w.heap.size = nx0
 show OK _ K48s0_0 _ _ _ _ _ _ _ _
 refine OK.sr ?_
 refine RL.spt 1 [(2, pt nx0 0), (0, pt gb0 0)] (nx0 + 1) [⟨gb0, arrV (Value.int .i64) 0 144 b0, 85⟩, ⟨nx0, ((arrV (Value.int .i64) 0 12 (List.replicate 12 0)) ++ ((arrV (Value.int .i64) 0 12 (List.replicate 12 0)) ++ (arrV (Value.int .i64) 0 12 (List.replicate 12 0)))), 89⟩] ?_
 refine OK.sr ?_
 refine RL.spt 1 [(3, pt (nx0 + 1) 0), (2, pt nx0 0), (0, pt gb0 0)] (nx0 + 2) [⟨gb0, arrV (Value.int .i64) 0 144 b0, 85⟩, ⟨nx0, ((arrV (Value.int .i64) 0 12 (List.replicate 12 0)) ++ ((arrV (Value.int .i64) 0 12 (List.replicate 12 0)) ++ (arrV (Value.int .i64) 0 12 (List.replicate 12 0)))), 89⟩, ⟨nx0 + 1, ((arrV (Value.int .i64) 0 12 (List.replicate 12 0)) ++ ((arrV (Value.int .i64) 0 12 (List.replicate 12 0)) ++ (arrV (Value.int .i64) 0 12 (List.replicate 12 0)))), 89⟩] ?_
 refine OK.sq ?_
 refine OK.sr ?_
 refine RL.st 1 [(6, i6 0), (3, pt (nx0 + 1) 0), (2, pt nx0 0), (0, pt gb0 0)] ?_
 refine OK.join (fun K' I' _ L' X' => ∃ (x1 : List Int), K' = [(0, pt gb0 0), (2, pt nx0 0), (3, pt (nx0 + 1) 0)] ∧ L' = [⟨gb0, arrV (Value.int .i64) 0 144 b0, 85⟩, ⟨nx0, ((arrV (Value.int .i64) 0 12 (List.replicate 12 0)) ++ ((arrV (Value.int .i64) 0 12 (List.replicate 12 0)) ++ (arrV (Value.int .i64) 0 12 (List.replicate 12 0)))), 89⟩, ⟨nx0 + 1, ((arrV (Value.int .i64) 0 12 x1) ++ ((arrV (Value.int .i64) 0 12 (List.replicate 12 0)) ++ (arrV (Value.int .i64) 0 12 (List.replicate 12 0)))), 89⟩] ∧ X' = [] ∧ Imm.le I0 I' ∧ 12 ≤ x1.length ∧ assign_hungarians0.k2 k b0 x1 = some r) ?_ ?_
 ·rintro _ I1 nx1 _ _ ⟨x1, rfl, rfl, rfl, hi1, hz1, H⟩
  rw [assign_hungarians0.k2] at H
  refine QN.then_ ?_
  refine OK.sq ?_
  refine OK.sr ?_
  refine RL.st 1 [(13, i6 0), (0, pt gb0 0), (2, pt nx0 0), (3, pt (nx0 + 1) 0)] ?_
  refine OK.join (fun K' I' _ L' X' => ∃ (x2 : List Int) (x3 : List Int) (x4 : List Int), K' = [(2, pt nx0 0), (3, pt (nx0 + 1) 0)] ∧ L' = [⟨gb0, arrV (Value.int .i64) 0 144 b0, 85⟩, ⟨nx0, ((arrV (Value.int .i64) 0 12 (List.replicate 12 0)) ++ ((arrV (Value.int .i64) 0 12 (List.replicate 12 0)) ++ (arrV (Value.int .i64) 0 12 (List.replicate 12 0)))), 89⟩, ⟨nx0 + 1, ((arrV (Value.int .i64) 0 12 x2) ++ ((arrV (Value.int .i64) 0 12 x3) ++ (arrV (Value.int .i64) 0 12 x4))), 89⟩] ∧ X' = [] ∧ Imm.le I1 I' ∧ 12 ≤ x2.length ∧ 12 ≤ x3.length ∧ 12 ≤ x4.length ∧ assign_hungarians0.k1 (x2, x3, x4) = some r) ?_ ?_
  ·rintro _ I2 nx2 _ _ ⟨x2, x3, x4, rfl, rfl, rfl, hi2, hz2, hz3, hz4, H⟩
   rw [assign_hungarians0.k1] at H
   refine QN.then_ ?_
   refine OK.sr ?_
   refine RL.simP (K' := [(2, pt nx0 0)]) (nx' := nx2) (L' := [⟨gb0, arrV (Value.int .i64) 0 144 b0, 85⟩, ⟨nx0, ((arrV (Value.int .i64) 0 12 x2) ++ ((arrV (Value.int .i64) 0 12 x3) ++ (arrV (Value.int .i64) 0 12 x4))), 89⟩, ⟨nx0 + 1, ((arrV (Value.int .i64) 0 12 x2) ++ ((arrV (Value.int .i64) 0 12 x3) ++ (arrV (Value.int .i64) 0 12 x4))), 89⟩]) [] (RFacts.nil _ _ _) 2 [.l 2, .l 1] (by kernel_rfl) (by kernel_rfl) ?_
   refine RL.nt ?_
   refine OK.re ?_
   obtain rfl := Option.some.inj H
   refine QN.body rfl [] (RFacts.nil _ _ _) (.l 1) (.agg (((arrV (Value.int .i64) 0 12 x2) ++ ((arrV (Value.int .i64) 0 12 x3) ++ (arrV (Value.int .i64) 0 12 x4)))).toArray) (by kernel_rfl) (by kernel_rfl) (by kernel_rfl) ?_ _ (.inr rfl)
   exact fun w' hs' => ⟨_, rfl, I2, rfl, ((hs'.fin.selB [0] (by kernel_rfl)).sel [] (by kernel_rfl)), hz2, hz3, hz4⟩
  ·intro Q_1 hJ2 hQ2
   obtain ⟨y2, H, HK2⟩ := bnd H
   refine OK.bk 2 ?_
   refine OK.sub (K' := [(0, pt gb0 0), (2, pt nx0 0), (3, pt (nx0 + 1) 0), (13, i6 0)]) (L' := [⟨gb0, arrV (Value.int .i64) 0 144 b0, 85⟩, ⟨nx0, ((arrV (Value.int .i64) 0 12 (List.replicate 12 0)) ++ ((arrV (Value.int .i64) 0 12 (List.replicate 12 0)) ++ (arrV (Value.int .i64) 0 12 (List.replicate 12 0)))), 89⟩, ⟨nx0 + 1, ((arrV (Value.int .i64) 0 12 x1) ++ ((arrV (Value.int .i64) 0 12 (List.replicate 12 0)) ++ (arrV (Value.int .i64) 0 12 (List.replicate 12 0)))), 89⟩]) (by kernel_rfl) (.cons_cons _ (.cons_cons _ (.cons_cons _ .slnil))) (.refl _) ?_
   refine OK.lp (fun n_ K' I' _ L' X' => ∃ (x5 : List Int) (x6 : List Int) (x7 : List Int) (x8 : Int), K' = [(0, pt gb0 0), (2, pt nx0 0), (3, pt (nx0 + 1) 0), (13, i6 x8)] ∧ L' = [⟨gb0, arrV (Value.int .i64) 0 144 b0, 85⟩, ⟨nx0, ((arrV (Value.int .i64) 0 12 (List.replicate 12 0)) ++ ((arrV (Value.int .i64) 0 12 (List.replicate 12 0)) ++ (arrV (Value.int .i64) 0 12 (List.replicate 12 0)))), 89⟩, ⟨nx0 + 1, ((arrV (Value.int .i64) 0 12 x5) ++ ((arrV (Value.int .i64) 0 12 x6) ++ (arrV (Value.int .i64) 0 12 x7))), 89⟩] ∧ X' = [] ∧ Imm.le I1 I' ∧ 12 ≤ x5.length ∧ 12 ≤ x6.length ∧ 12 ≤ x7.length ∧ assign_hungarians0.l1 b0 n_ x5 x6 x7 x8 = some y2) k ⟨x1, (List.replicate 12 0), (List.replicate 12 0), 0, rfl, rfl, rfl, (Imm.le_refl _), hz1, (Nat.le_of_eq List.length_replicate.symm), (Nat.le_of_eq List.length_replicate.symm), H⟩ ?_ ?_
   ·rintro _ _ _ _ _ ⟨x5, x6, x7, x8, rfl, rfl, rfl, _, hz5, hz6, hz7, H⟩
    cases H
   ·rintro kq1 _ I3 nx3 _ _ ⟨x5, x6, x7, x8, rfl, rfl, rfl, hi3, hz5, hz6, hz7, H⟩ Q_l1 hJ3 hQ3
    rw [assign_hungarians0.l1] at H
    refine OK.sr ?_
    refine RL.st 1 [(14, .bool (decide (x8 < 12))), (0, pt gb0 0), (2, pt nx0 0), (3, pt (nx0 + 1) 0), (13, i6 x8)] ?_
    refine OK.sq ?_
    refine OK.cd (decide (x8 < 12)) (fun hb => ?_) (fun hb => ?_)
    ·skip
     have hc := (of_decide_eq_true hb)
     rw [if_pos hc] at H
     clear hb
     refine OK.skt ?_
     refine OK.sq ?_
     refine OK.bk 3 ?_
     refine OK.sr ?_
     refine RL.st 2 [(5, i6 x8), (0, pt gb0 0), (2, pt nx0 0), (3, pt (nx0 + 1) 0), (13, i6 x8)] ?_
     refine OK.rg ?_
     refine RL.s 2 [(17, i6 x8), (16, pt gb0 0), (0, pt gb0 0), (2, pt nx0 0), (3, pt (nx0 + 1) 0), (13, i6 x8)] ?_
     refine RL.arrange (L' := [⟨nx0 + 1, ((arrV (Value.int .i64) 0 12 x5) ++ ((arrV (Value.int .i64) 0 12 x6) ++ (arrV (Value.int .i64) 0 12 x7))), 89⟩, ⟨gb0, arrV (Value.int .i64) 0 144 b0, 85⟩, ⟨nx0, ((arrV (Value.int .i64) 0 12 (List.replicate 12 0)) ++ ((arrV (Value.int .i64) 0 12 (List.replicate 12 0)) ++ (arrV (Value.int .i64) 0 12 (List.replicate 12 0)))), 89⟩]) (X' := []) [2, 0, 1] [] (by kernel_rfl) (by kernel_rfl) (by kernel_rfl) (by kernel_rfl) ?_
     obtain ⟨t1, hA1, H⟩ := bnd H
     refine RL.callM (L1 := [⟨nx0 + 1, ((arrV (Value.int .i64) 0 12 x5) ++ ((arrV (Value.int .i64) 0 12 x6) ++ (arrV (Value.int .i64) 0 12 x7))), 89⟩, ⟨gb0, arrV (Value.int .i64) 0 144 b0, 85⟩]) (L2 := [⟨nx0, ((arrV (Value.int .i64) 0 12 (List.replicate 12 0)) ++ ((arrV (Value.int .i64) 0 12 (List.replicate 12 0)) ++ (arrV (Value.int .i64) 0 12 (List.replicate 12 0)))), 89⟩]) (X1 := []) (X2 := []) rfl rfl 55 [pt (nx0 + 1) 0, pt gb0 0, i6 x8] (some 18) (fun w => assign_solution_augments0.Post (SM [⟨nx0 + 1, ((arrV (Value.int .i64) 0 12 x5) ++ ((arrV (Value.int .i64) 0 12 x6) ++ (arrV (Value.int .i64) 0 12 x7))), 89⟩, ⟨gb0, arrV (Value.int .i64) 0 144 b0, 85⟩] []) (nx0 + 1) gb0 x8 (⟨x5, x6, x7⟩ : S89) b0 I3 w t1) (by kernel_rfl) (by kernel_rfl) (fun w hs => assign_solution_augments0.calls kq1 I3 (nx0 + 1) gb0 x8 (⟨x5, x6, x7⟩ : S89) b0 w hs hz5 hz6 hz7 hzb0 t1 hA1) ?_
     rintro w v w' hs ⟨I4, rfl, hg, hz8, hz9, hz10⟩
     have hi4 : Imm.le I3 I4 := hg.le
     refine RL.resume (L' := [⟨nx0 + 1, ((arrV (Value.int .i64) 0 12 t1.f0) ++ ((arrV (Value.int .i64) 0 12 t1.f1) ++ (arrV (Value.int .i64) 0 12 t1.f2))), 89⟩, ⟨gb0, arrV (Value.int .i64) 0 144 b0, 85⟩, ⟨nx0, ((arrV (Value.int .i64) 0 12 (List.replicate 12 0)) ++ ((arrV (Value.int .i64) 0 12 (List.replicate 12 0)) ++ (arrV (Value.int .i64) 0 12 (List.replicate 12 0)))), 89⟩]) (X' := []) rfl (hs.outof hg) ?_
     clear hs hg
     generalize w'.heap.size = nx4
     clear w w'
     refine RL.nil (by kernel_rfl) ?_
     refine QN.sub (K' := [(0, pt gb0 0), (2, pt nx0 0), (3, pt (nx0 + 1) 0), (13, i6 x8)]) (L' := [⟨nx0 + 1, ((arrV (Value.int .i64) 0 12 t1.f0) ++ ((arrV (Value.int .i64) 0 12 t1.f1) ++ (arrV (Value.int .i64) 0 12 t1.f2))), 89⟩, ⟨gb0, arrV (Value.int .i64) 0 144 b0, 85⟩, ⟨nx0, ((arrV (Value.int .i64) 0 12 (List.replicate 12 0)) ++ ((arrV (Value.int .i64) 0 12 (List.replicate 12 0)) ++ (arrV (Value.int .i64) 0 12 (List.replicate 12 0)))), 89⟩]) (by kernel_rfl) (.cons_cons _ (.cons_cons _ (.cons_cons _ .slnil))) (.refl _) ?_
     refine QN.blkN ?_
     refine QN.then_ ?_
     refine OK.rg ?_
     refine RL.s 2 [(13, i6 (W .i64 (x8 + 1))), (0, pt gb0 0), (2, pt nx0 0), (3, pt (nx0 + 1) 0)] ?_
     refine RL.nil (by kernel_rfl) ?_
     refine QN.arrange (L' := [⟨gb0, arrV (Value.int .i64) 0 144 b0, 85⟩, ⟨nx0, ((arrV (Value.int .i64) 0 12 (List.replicate 12 0)) ++ ((arrV (Value.int .i64) 0 12 (List.replicate 12 0)) ++ (arrV (Value.int .i64) 0 12 (List.replicate 12 0)))), 89⟩, ⟨nx0 + 1, ((arrV (Value.int .i64) 0 12 t1.f0) ++ ((arrV (Value.int .i64) 0 12 t1.f1) ++ (arrV (Value.int .i64) 0 12 t1.f2))), 89⟩]) (X' := []) [1, 2, 0] [] (by kernel_rfl) (by kernel_rfl) (by kernel_rfl) (by kernel_rfl) ?_
     exact QN.sb (hJ3 _ _ _ _ _ ⟨t1.f0, t1.f1, t1.f2, W .i64 (x8 + 1), rfl, rfl, rfl, (Imm.le_trans hi3 hi4), hz8, hz9, hz10, H⟩) (.cons_cons _ (.cons_cons _ (.cons_cons _ .slnil))) (.refl _)
    ·skip
     have hc := (of_decide_eq_false hb)
     rw [if_neg hc] at H
     clear hb
     refine OK.ex 2 ?_
     refine QN.thenE ?_
     refine QN.outE hQ3 ?_
     refine QN.blkE ?_
     obtain rfl := Option.some.inj H
     exact QN.sb (hJ2 _ _ _ _ _ ⟨x5, x6, x7, rfl, rfl, rfl, hi3, hz5, hz6, hz7, HK2⟩) (.cons_cons _ (.cons_cons _ (.cons_cons _ .slnil))) (.refl _)
 ·intro Q_2 hJ1 hQ1
  obtain ⟨y1, H, HK1⟩ := bnd H
  refine OK.bk 0 ?_
  refine OK.sub (K' := [(0, pt gb0 0), (2, pt nx0 0), (3, pt (nx0 + 1) 0), (6, i6 0)]) (L' := [⟨gb0, arrV (Value.int .i64) 0 144 b0, 85⟩, ⟨nx0, ((arrV (Value.int .i64) 0 12 (List.replicate 12 0)) ++ ((arrV (Value.int .i64) 0 12 (List.replicate 12 0)) ++ (arrV (Value.int .i64) 0 12 (List.replicate 12 0)))), 89⟩, ⟨nx0 + 1, ((arrV (Value.int .i64) 0 12 (List.replicate 12 0)) ++ ((arrV (Value.int .i64) 0 12 (List.replicate 12 0)) ++ (arrV (Value.int .i64) 0 12 (List.replicate 12 0)))), 89⟩]) (by kernel_rfl) (.cons_cons _ (.cons_cons _ (.cons_cons _ .slnil))) (.refl _) ?_
  refine OK.lp (fun n_ K' I' _ L' X' => ∃ (x9 : List Int) (x10 : Int), K' = [(0, pt gb0 0), (2, pt nx0 0), (3, pt (nx0 + 1) 0), (6, i6 x10)] ∧ L' = [⟨gb0, arrV (Value.int .i64) 0 144 b0, 85⟩, ⟨nx0, ((arrV (Value.int .i64) 0 12 (List.replicate 12 0)) ++ ((arrV (Value.int .i64) 0 12 (List.replicate 12 0)) ++ (arrV (Value.int .i64) 0 12 (List.replicate 12 0)))), 89⟩, ⟨nx0 + 1, ((arrV (Value.int .i64) 0 12 x9) ++ ((arrV (Value.int .i64) 0 12 (List.replicate 12 0)) ++ (arrV (Value.int .i64) 0 12 (List.replicate 12 0)))), 89⟩] ∧ X' = [] ∧ Imm.le I0 I' ∧ 12 ≤ x9.length ∧ assign_hungarians0.l2 n_ x9 x10 = some y1) k ⟨(List.replicate 12 0), 0, rfl, rfl, rfl, (Imm.le_refl _), (Nat.le_of_eq List.length_replicate.symm), H⟩ ?_ ?_
  ·rintro _ _ _ _ _ ⟨x9, x10, rfl, rfl, rfl, _, hz11, H⟩
   cases H
  ·rintro kq2 _ I5 nx5 _ _ ⟨x9, x10, rfl, rfl, rfl, hi5, hz11, H⟩ Q_l2 hJ4 hQ4
   rw [assign_hungarians0.l2] at H
   refine OK.sr ?_
   refine RL.st 1 [(7, .bool (decide (x10 < 12))), (0, pt gb0 0), (2, pt nx0 0), (3, pt (nx0 + 1) 0), (6, i6 x10)] ?_
   refine OK.sq ?_
   refine OK.cd (decide (x10 < 12)) (fun hb => ?_) (fun hb => ?_)
   ·skip
    have hc := (of_decide_eq_true hb)
    rw [if_pos hc] at H
    clear hb
    refine OK.skt ?_
    refine OK.sq ?_
    refine OK.bk 1 ?_
    refine OK.sr ?_
    refine RL.st 2 [(4, i6 x10), (0, pt gb0 0), (2, pt nx0 0), (3, pt (nx0 + 1) 0), (6, i6 x10)] ?_
    refine OK.rg ?_
    refine RL.s 2 [(10, pt (nx0 + 1) 0), (9, i6 x10), (0, pt gb0 0), (2, pt nx0 0), (3, pt (nx0 + 1) 0), (6, i6 x10)] ?_
    obtain ⟨hib0, H⟩ := ifs H
    obtain ⟨hib1, H⟩ := ifs H
    have ha01 := hib0; have ha11 := hib1
    refine RL.idxArr (T := 87) (e := 3) 1 .i64 x10 (nx0 + 1) (0) 12 (some 11) (by kernel_rfl) (by kernel_rfl) (by kernel_rfl) (by kernel_rfl) hib0 hib1 (K' := [(11, pt (nx0 + 1) (0 + (x10).toNat * 1)), (10, pt (nx0 + 1) 0), (9, i6 x10), (0, pt gb0 0), (2, pt nx0 0), (3, pt (nx0 + 1) 0), (6, i6 x10)]) (by kernel_rfl) ?_
    refine RL.stA (g := nx0 + 1) (ty := 89) (cs := ((arrV (Value.int .i64) 0 12 x9) ++ ((arrV (Value.int .i64) 0 12 (List.replicate 12 0)) ++ (arrV (Value.int .i64) 0 12 (List.replicate 12 0))))) (Value.int .i64) 0 12 x9 (-1) [] ((arrV (Value.int .i64) 0 12 (List.replicate 12 0)) ++ (arrV (Value.int .i64) 0 12 (List.replicate 12 0))) 0 ((x10).toNat) 2 (by kernel_rfl) (by kernel_rfl) (by kernel_rfl) (by omega) hz11 (0 + (x10).toNat * 1) (by omega) 3 (by kernel_rfl) (by kernel_rfl) (by kernel_rfl) (by rfl) (fun _ h => by cases h) (fun _ h => by cases h) (cs' := ((arrV (Value.int .i64) 0 12 (x9.set ((x10).toNat) (-1))) ++ ((arrV (Value.int .i64) 0 12 (List.replicate 12 0)) ++ (arrV (Value.int .i64) 0 12 (List.replicate 12 0))))) (by kernel_rfl) ?_
    refine RL.nil (by kernel_rfl) ?_
    refine QN.sub (K' := [(0, pt gb0 0), (2, pt nx0 0), (3, pt (nx0 + 1) 0), (6, i6 x10)]) (L' := [⟨gb0, arrV (Value.int .i64) 0 144 b0, 85⟩, ⟨nx0, ((arrV (Value.int .i64) 0 12 (List.replicate 12 0)) ++ ((arrV (Value.int .i64) 0 12 (List.replicate 12 0)) ++ (arrV (Value.int .i64) 0 12 (List.replicate 12 0)))), 89⟩, ⟨nx0 + 1, ((arrV (Value.int .i64) 0 12 (x9.set ((x10).toNat) (-1))) ++ ((arrV (Value.int .i64) 0 12 (List.replicate 12 0)) ++ (arrV (Value.int .i64) 0 12 (List.replicate 12 0)))), 89⟩]) (by kernel_rfl) (.cons_cons _ (.cons_cons _ (.cons_cons _ .slnil))) (.refl _) ?_
    refine QN.blkN ?_
    refine QN.then_ ?_
    refine OK.rg ?_
    refine RL.s 2 [(6, i6 (W .i64 (x10 + 1))), (0, pt gb0 0), (2, pt nx0 0), (3, pt (nx0 + 1) 0)] ?_
    refine RL.nil (by kernel_rfl) ?_
    exact QN.sb (hJ4 _ _ _ _ _ ⟨(x9.set ((x10).toNat) (-1)), W .i64 (x10 + 1), rfl, rfl, rfl, hi5, (le_set hz11), H⟩) (.cons_cons _ (.cons_cons _ (.cons_cons _ .slnil))) (.refl _)
   ·skip
    have hc := (of_decide_eq_false hb)
    rw [if_neg hc] at H
    clear hb
    refine OK.ex 0 ?_
    refine QN.thenE ?_
    refine QN.outE hQ4 ?_
    refine QN.blkE ?_
    obtain rfl := Option.some.inj H
    exact QN.sb (hJ1 _ _ _ _ _ ⟨x9, rfl, rfl, rfl, hi5, hz11, HK1⟩) (.cons_cons _ (.cons_cons _ (.cons_cons _ .slnil))) (.refl _)

end Go.Proofs.Ytihmbmeelheinaa
namespace Go.Proofs.Ytihmbmeelheinaa
open Go Go.Proofs.Ytihmbmeelheinaa.RW
set_option linter.unusedVariables false
set_option maxRecDepth 100000
set_option maxHeartbeats 8000000

/-! ### assign_solution_values0: function 49, (*armillary/assign.solution).value -/
noncomputable def K49s0_0 : Code := cBody Try.f49
def assign_solution_values0.k1  (x1 : Int) : Option (Int) := (some x1)
def assign_solution_values0.l1 (b0 : S89) (b1 : List Int) : Nat → Int → Int → Option (Int)
 | 0, _, _ => none
 | k + 1, x2, x3 => (if x3 < 12 then (if 0 ≤ x3 then (if x3 < (12 : Int) then (if 0 ≤ (b0.f0.getD ((x3).toNat) 0) then (if (b0.f0.getD ((x3).toNat) 0) < (12 : Int) then (if 0 ≤ x3 then (if x3 < (12 : Int) then (assign_solution_values0.l1 b0 b1 k (W .i64 (x2 + (b1.getD (((b0.f0.getD ((x3).toNat) 0)).toNat * 12 + (x3).toNat) 0))) (W .i64 (x3 + 1))) else none) else none) else none) else none) else none) else none) else (some x2))
def assign_solution_values0.f (k : Nat) (b0 : S89) (b1 : List Int) : Option (Int) := ((assign_solution_values0.l1 b0 b1 k 0 0).bind (assign_solution_values0.k1))
def assign_solution_values0.Post (S : Nat → Prop) (gb0 : Nat) (gb1 : Nat) (b0 : S89) (b1 : List Int) (I : Imm) (w : World) (r : Int) (v : Value) (w' : World) : Prop :=
 ∃ (J : Imm), v = .int .i64 r ∧ Sat ⟨w, S, I⟩ J w'.heap.size [⟨gb0, ((arrV (Value.int .i64) 0 12 b0.f0) ++ ((arrV (Value.int .i64) 0 12 b0.f1) ++ (arrV (Value.int .i64) 0 12 b0.f2))), 89⟩, ⟨gb1, arrV (Value.int .i64) 0 144 b1, 85⟩] [] w'
theorem assign_solution_values0.calls (k : Nat) (I0 : Imm) (gb0 : Nat) (gb1 : Nat) (b0 : S89) (b1 : List Int) (w : World) (hs : Sat ⟨w, SM [⟨gb0, ((arrV (Value.int .i64) 0 12 b0.f0) ++ ((arrV (Value.int .i64) 0 12 b0.f1) ++ (arrV (Value.int .i64) 0 12 b0.f2))), 89⟩, ⟨gb1, arrV (Value.int .i64) 0 144 b1, 85⟩] [], I0⟩ I0 w.heap.size [⟨gb0, ((arrV (Value.int .i64) 0 12 b0.f0) ++ ((arrV (Value.int .i64) 0 12 b0.f1) ++ (arrV (Value.int .i64) 0 12 b0.f2))), 89⟩, ⟨gb1, arrV (Value.int .i64) 0 144 b1, 85⟩] [] w) (hzb0_0 : 12 ≤ b0.f0.length) (hzb0_1 : 12 ≤ b0.f1.length) (hzb0_2 : 12 ≤ b0.f2.length) (hzb1 : 144 ≤ b1.length) (r : Int) (h : assign_solution_values0.f k b0 b1 = some r) :
  Calls Try.prog 49 [pt gb0 0, pt gb1 0].toArray w fun e w' => ∃ v, e = .returned v ∧ assign_solution_values0.Post (SM [⟨gb0, ((arrV (Value.int .i64) 0 12 b0.f0) ++ ((arrV (Value.int .i64) 0 12 b0.f1) ++ (arrV (Value.int .i64) 0 12 b0.f2))), 89⟩, ⟨gb1, arrV (Value.int .i64) 0 144 b1, 85⟩] []) gb0 gb1 b0 b1 I0 w r v w' := by
 have H : ((assign_solution_values0.l1 b0 b1 k 0 0).bind (assign_solution_values0.k1)) = some r := h
 clear h
 refine calls_bodyL Try.func49 (by kernel_rfl) 27 (by kernel_rfl) (by kernel_rfl) ⟨w, SM [⟨gb0, ((arrV (Value.int .i64) 0 12 b0.f0) ++ ((arrV (Value.int .i64) 0 12 b0.f1) ++ (arrV (Value.int .i64) 0 12 b0.f2))), 89⟩, ⟨gb1, arrV (Value.int .i64) 0 144 b1, 85⟩] [], I0⟩ I0 [⟨gb0, ((arrV (Value.int .i64) 0 12 b0.f0) ++ ((arrV (Value.int .i64) 0 12 b0.f1) ++ (arrV (Value.int .i64) 0 12 b0.f2))), 89⟩, ⟨gb1, arrV (Value.int .i64) 0 144 b1, 85⟩] [] [(0, pt gb0 0), (1, pt gb1 0)] (by kernel_rfl) hs ?_
 generalize w.heap.size = nx0
 show OK _ K49s0_0 _ _ _ _ _ _ _ _
 refine OK.sr ?_
 refine RL.st 1 [(0, pt gb0 0), (1, pt gb1 0)] ?_
 refine OK.sr ?_
 refine RL.st 1 [(5, i6 0), (0, pt gb0 0), (1, pt gb1 0)] ?_
 refine OK.sq ?_
 refine OK.sr ?_
 refine RL.simK (K' := [(12, i6 0), (11, .agg (arrV (Value.int .i64) 0 12 b0.f0).toArray), (5, i6 0), (1, pt gb1 0)]) [] (RFacts.nil _ _ _) 5 [.no, .no, .no, .l 0, .no] (by kernel_rfl) (by kernel_rfl) ?_
 refine RL.nt ?_
 refine OK.join (fun K' I' _ L' X' => ∃ (x1 : Int), K' = [(5, i6 x1)] ∧ L' = [⟨gb0, ((arrV (Value.int .i64) 0 12 b0.f0) ++ ((arrV (Value.int .i64) 0 12 b0.f1) ++ (arrV (Value.int .i64) 0 12 b0.f2))), 89⟩, ⟨gb1, arrV (Value.int .i64) 0 144 b1, 85⟩] ∧ X' = [] ∧ Imm.le I0 I' ∧ assign_solution_values0.k1 x1 = some r) ?_ ?_
 ·rintro _ I1 nx1 _ _ ⟨x1, rfl, rfl, rfl, hi1, H⟩
  rw [assign_solution_values0.k1] at H
  refine QN.then_ ?_
  refine OK.sr ?_
  refine RL.st 2 [(4, i6 x1)] ?_
  refine OK.re ?_
  obtain rfl := Option.some.inj H
  refine QN.body rfl [] (RFacts.nil _ _ _) (.no) (i6 x1) (by kernel_rfl) (by kernel_rfl) (by kernel_rfl) ?_ _ (.inr rfl)
  exact fun w' hs' => ⟨_, rfl, I1, rfl, ((hs'.fin.selB [0, 1] (by kernel_rfl)).sel [] (by kernel_rfl))⟩
 ·intro Q_1 hJ1 hQ1
  obtain ⟨y1, H, HK1⟩ := bnd H
  refine OK.bk 0 ?_
  refine OK.sub (K' := [(1, pt gb1 0), (5, i6 0), (11, .agg (arrV (Value.int .i64) 0 12 b0.f0).toArray), (12, i6 0)]) (L' := [⟨gb0, ((arrV (Value.int .i64) 0 12 b0.f0) ++ ((arrV (Value.int .i64) 0 12 b0.f1) ++ (arrV (Value.int .i64) 0 12 b0.f2))), 89⟩, ⟨gb1, arrV (Value.int .i64) 0 144 b1, 85⟩]) (by kernel_rfl) (.cons_cons _ (.cons_cons _ .slnil)) (.refl _) ?_
  refine OK.lp (fun n_ K' I' _ L' X' => ∃ (x2 : Int) (x3 : Int), K' = [(1, pt gb1 0), (5, i6 x2), (11, .agg (arrV (Value.int .i64) 0 12 b0.f0).toArray), (12, i6 x3)] ∧ L' = [⟨gb0, ((arrV (Value.int .i64) 0 12 b0.f0) ++ ((arrV (Value.int .i64) 0 12 b0.f1) ++ (arrV (Value.int .i64) 0 12 b0.f2))), 89⟩, ⟨gb1, arrV (Value.int .i64) 0 144 b1, 85⟩] ∧ X' = [] ∧ Imm.le I0 I' ∧ assign_solution_values0.l1 b0 b1 n_ x2 x3 = some y1) k ⟨0, 0, rfl, rfl, rfl, (Imm.le_refl _), H⟩ ?_ ?_
  ·rintro _ _ _ _ _ ⟨x2, x3, rfl, rfl, rfl, _, H⟩
   cases H
  ·rintro kq1 _ I2 nx2 _ _ ⟨x2, x3, rfl, rfl, rfl, hi2, H⟩ Q_l1 hJ2 hQ2
   rw [assign_solution_values0.l1] at H
   refine OK.sr ?_
   refine RL.st 1 [(13, .bool (decide (x3 < 12))), (1, pt gb1 0), (5, i6 x2), (11, .agg (arrV (Value.int .i64) 0 12 b0.f0).toArray), (12, i6 x3)] ?_
   refine OK.sq ?_
   refine OK.cd (decide (x3 < 12)) (fun hb => ?_) (fun hb => ?_)
   ·skip
    have hc := (of_decide_eq_true hb)
    rw [if_pos hc] at H
    clear hb
    refine OK.skt ?_
    refine OK.sq ?_
    refine OK.bk 1 ?_
    refine OK.sr ?_
    refine RL.s 1 [(14, i6 x3), (1, pt gb1 0), (5, i6 x2), (11, .agg (arrV (Value.int .i64) 0 12 b0.f0).toArray), (12, i6 x3)] ?_
    obtain ⟨hib0, H⟩ := ifs H
    obtain ⟨hib1, H⟩ := ifs H
    refine RL.idxAgg (T := 87) (e := 3) (cs := (arrV (Value.int .i64) 0 12 b0.f0).toArray) (Value.int .i64) 0 12 12 b0.f0 .i64 x3 (some 15) (by kernel_rfl) (by kernel_rfl) (by kernel_rfl) (by kernel_rfl) rfl (by kernel_rfl) (by kernel_rfl) hib0 hib1 (K' := [(15, i6 (b0.f0.getD ((x3).toNat) 0)), (14, i6 x3), (1, pt gb1 0), (5, i6 x2), (11, .agg (arrV (Value.int .i64) 0 12 b0.f0).toArray), (12, i6 x3)]) (by kernel_rfl) ?_
    refine RL.st 2 [(7, i6 (b0.f0.getD ((x3).toNat) 0)), (6, i6 x3), (1, pt gb1 0), (5, i6 x2), (11, .agg (arrV (Value.int .i64) 0 12 b0.f0).toArray), (12, i6 x3)] ?_
    refine OK.rg ?_
    refine RL.s 5 [(20, pt gb1 0), (19, i6 x3), (18, i6 (b0.f0.getD ((x3).toNat) 0)), (16, i6 x2), (1, pt gb1 0), (5, i6 x2), (11, .agg (arrV (Value.int .i64) 0 12 b0.f0).toArray), (12, i6 x3)] ?_
    obtain ⟨hib0, H⟩ := ifs H
    obtain ⟨hib1, H⟩ := ifs H
    have ha01 := hib0; have ha11 := hib1
    refine RL.idxArr (T := 85) (e := 83) 12 .i64 (b0.f0.getD ((x3).toNat) 0) gb1 (0) 12 (some 21) (by kernel_rfl) (by kernel_rfl) (by kernel_rfl) (by kernel_rfl) hib0 hib1 (K' := [(21, pt gb1 (0 + ((b0.f0.getD ((x3).toNat) 0)).toNat * 12)), (20, pt gb1 0), (19, i6 x3), (18, i6 (b0.f0.getD ((x3).toNat) 0)), (16, i6 x2), (1, pt gb1 0), (5, i6 x2), (11, .agg (arrV (Value.int .i64) 0 12 b0.f0).toArray), (12, i6 x3)]) (by kernel_rfl) ?_
    obtain ⟨hib0, H⟩ := ifs H
    obtain ⟨hib1, H⟩ := ifs H
    have ha02 := hib0; have ha12 := hib1
    refine RL.idxArr (T := 83) (e := 2) 1 .i64 x3 gb1 (0 + ((b0.f0.getD ((x3).toNat) 0)).toNat * 12) 12 (some 22) (by kernel_rfl) (by kernel_rfl) (by kernel_rfl) (by kernel_rfl) hib0 hib1 (K' := [(22, pt gb1 (0 + ((b0.f0.getD ((x3).toNat) 0)).toNat * 12 + (x3).toNat * 1)), (21, pt gb1 (0 + ((b0.f0.getD ((x3).toNat) 0)).toNat * 12)), (20, pt gb1 0), (19, i6 x3), (18, i6 (b0.f0.getD ((x3).toNat) 0)), (16, i6 x2), (1, pt gb1 0), (5, i6 x2), (11, .agg (arrV (Value.int .i64) 0 12 b0.f0).toArray), (12, i6 x3)]) (by kernel_rfl) ?_
    refine RL.ldA (g := gb1) (ty := 85) (cs := arrV (Value.int .i64) 0 144 b1) (Value.int .i64) 0 144 b1 [] [] 0 (((b0.f0.getD ((x3).toNat) 0)).toNat * 12 + (x3).toNat) 1 (by kernel_rfl) (by kernel_rfl) (by kernel_rfl) (by omega) (0 + ((b0.f0.getD ((x3).toNat) 0)).toNat * 12 + (x3).toNat * 1) (by omega) (some 23) (by kernel_rfl) (by kernel_rfl) (by kernel_rfl) (K' := [(23, i6 (b1.getD (((b0.f0.getD ((x3).toNat) 0)).toNat * 12 + (x3).toNat) 0)), (22, pt gb1 (0 + ((b0.f0.getD ((x3).toNat) 0)).toNat * 12 + (x3).toNat * 1)), (21, pt gb1 (0 + ((b0.f0.getD ((x3).toNat) 0)).toNat * 12)), (20, pt gb1 0), (19, i6 x3), (18, i6 (b0.f0.getD ((x3).toNat) 0)), (16, i6 x2), (1, pt gb1 0), (5, i6 x2), (11, .agg (arrV (Value.int .i64) 0 12 b0.f0).toArray), (12, i6 x3)]) (by kernel_rfl) ?_
    refine RL.s 2 [(5, i6 (W .i64 (x2 + (b1.getD (((b0.f0.getD ((x3).toNat) 0)).toNat * 12 + (x3).toNat) 0)))), (1, pt gb1 0), (11, .agg (arrV (Value.int .i64) 0 12 b0.f0).toArray), (12, i6 x3)] ?_
    refine RL.nil (by kernel_rfl) ?_
    refine QN.blkN ?_
    refine QN.then_ ?_
    refine OK.rg ?_
    refine RL.s 2 [(12, i6 (W .i64 (x3 + 1))), (5, i6 (W .i64 (x2 + (b1.getD (((b0.f0.getD ((x3).toNat) 0)).toNat * 12 + (x3).toNat) 0)))), (1, pt gb1 0), (11, .agg (arrV (Value.int .i64) 0 12 b0.f0).toArray)] ?_
    refine RL.nil (by kernel_rfl) ?_
    exact QN.sb (hJ2 _ _ _ _ _ ⟨W .i64 (x2 + (b1.getD (((b0.f0.getD ((x3).toNat) 0)).toNat * 12 + (x3).toNat) 0)), W .i64 (x3 + 1), rfl, rfl, rfl, hi2, H⟩) (.cons_cons _ (.cons_cons _ .slnil)) (.refl _)
   ·skip
    have hc := (of_decide_eq_false hb)
    rw [if_neg hc] at H
    clear hb
    refine OK.ex 0 ?_
    refine QN.thenE ?_
    refine QN.outE hQ2 ?_
    refine QN.blkE ?_
    obtain rfl := Option.some.inj H
    exact QN.sb (hJ1 _ _ _ _ _ ⟨x2, rfl, rfl, rfl, hi2, HK1⟩) (.cons_cons _ (.cons_cons _ .slnil)) (.refl _)

end Go.Proofs.Ytihmbmeelheinaa
namespace Go.Proofs.Ytihmbmeelheinaa
open Go Go.Proofs.Ytihmbmeelheinaa.RW
set_option linter.unusedVariables false
set_option maxRecDepth 100000
set_option maxHeartbeats 8000000

/-! ### assign_best: function 50, armillary/assign.best -/
noncomputable def K50_0 : Code := cBody Try.f50
def assign_best.f (k : Nat) (a0 : List (List Int)) (a1 : Int) (a2 : List Bool) : Option (Int) := ((assign_pad.f k a0 a1 a2).bind fun t1 => ((assign_hungarians0.f k t1).bind fun t2 => ((assign_solution_values0.f k t2 t1).bind fun t3 => (some t3))))
def assign_best.Post (I : Imm) (w : World) (r : Int) (v : Value) (w' : World) : Prop :=
 ∃ (J : Imm), v = .int .i64 r ∧ Got w w' I J []
theorem assign_best.calls (k : Nat) (I0 : Imm) (a0 : List (List Int)) (Ap0 : Option Addr) (cp0 : Nat) (a1 : Int) (a2 : List Bool) (Ap2 : Option Addr) (cp2 : Nat) (w : World) (hI : I0.at_ w) (hlp0 : a0.length ≤ cp0) (hrp0 : Rd (Ty.slice (Ty.int .i64)) I0 Ap0 a0) (hlp2 : a2.length ≤ cp2) (hrp2 : Rd Ty.bool I0 Ap2 a2) (r : Int) (h : assign_best.f k a0 a1 a2 = some r) :
  Calls Try.prog 50 [.slice Ap0 a0.length cp0, i6 a1, .slice Ap2 a2.length cp2].toArray w fun e w' => ∃ v, e = .returned v ∧ assign_best.Post I0 w r v w' := by
 have H : ((assign_pad.f k a0 a1 a2).bind fun t1 => ((assign_hungarians0.f k t1).bind fun t2 => ((assign_solution_values0.f k t2 t1).bind fun t3 => (some t3)))) = some r := h
 clear h
 refine calls_body Try.func50 (by kernel_rfl) 15 (by kernel_rfl) (by kernel_rfl) ⟨w, fun _ => False, I0⟩ I0 [] [(0, .slice Ap0 a0.length cp0), (1, i6 a1), (2, .slice Ap2 a2.length cp2)] (by kernel_rfl) (Sat.start w _ I0 hI) ?_
 generalize w.heap.size = nx0
 show OK _ K50_0 _ _ _ _ _ _ _ _
 refine OK.sr ?_
 refine RL.st 1 [(0, .slice Ap0 a0.length cp0), (1, i6 a1), (2, .slice Ap2 a2.length cp2)] ?_
 refine OK.sr ?_
 refine RL.s 3 [(11, .slice Ap2 a2.length cp2), (10, i6 a1), (9, .slice Ap0 a0.length cp0)] ?_
 obtain ⟨t1, hA1, H⟩ := bnd H
 refine RL.callP 47 [.slice Ap0 a0.length cp0, i6 a1, .slice Ap2 a2.length cp2] (some 12) (fun w => assign_pad.Post I0 w t1) (by kernel_rfl) (by kernel_rfl) (fun w hs => assign_pad.calls k I0 a0 Ap0 cp0 a1 a2 Ap2 cp2 w hs.im hlp0 hrp0 hlp2 hrp2 t1 hA1) ?_
 rintro w v w' hs ⟨I1, rfl, hg, hz1⟩
 have hi1 := hg.le
 refine RL.resume (X' := []) rfl (hs.call hg) ?_
 clear hs hg
 generalize w'.heap.size = nx1
 clear w w'
 refine RL.simP (K' := [(7, pt nx1 0)]) (nx' := nx1 + 1) (L' := [⟨nx1, arrV (Value.int .i64) 0 144 t1, 85⟩]) [] (RFacts.nil _ _ _) 2 [.no, .l 0] (by kernel_rfl) (by kernel_rfl) ?_
 refine RL.nt ?_
 refine OK.sr ?_
 obtain ⟨t2, hA2, H⟩ := bnd H
 refine RL.callM (L1 := [⟨nx1, arrV (Value.int .i64) 0 144 t1, 85⟩]) (L2 := []) (X1 := []) (X2 := []) rfl rfl 48 [pt nx1 0] (some 13) (fun w => assign_hungarians0.Post (SM [⟨nx1, arrV (Value.int .i64) 0 144 t1, 85⟩] []) nx1 t1 I1 w t2) (by kernel_rfl) (by kernel_rfl) (fun w hs => assign_hungarians0.calls k I1 nx1 t1 w hs hz1 t2 hA2) ?_
 rintro w v w' hs ⟨I2, rfl, hg, hz2, hz3, hz4⟩
 have hi2 : Imm.le I1 I2 := hg.le
 refine RL.resume (L' := [⟨nx1, arrV (Value.int .i64) 0 144 t1, 85⟩]) (X' := []) rfl (hs.outof hg) ?_
 clear hs hg
 generalize w'.heap.size = nx2
 clear w w'
 refine RL.simP (K' := [(8, pt nx2 0), (7, pt nx1 0)]) (nx' := nx2 + 1) (L' := [⟨nx1, arrV (Value.int .i64) 0 144 t1, 85⟩, ⟨nx2, ((arrV (Value.int .i64) 0 12 t2.f0) ++ ((arrV (Value.int .i64) 0 12 t2.f1) ++ (arrV (Value.int .i64) 0 12 t2.f2))), 89⟩]) [] (RFacts.nil _ _ _) 2 [.no, .l 1] (by kernel_rfl) (by kernel_rfl) ?_
 refine RL.nt ?_
 refine OK.sr ?_
 refine RL.arrange (L' := [⟨nx2, ((arrV (Value.int .i64) 0 12 t2.f0) ++ ((arrV (Value.int .i64) 0 12 t2.f1) ++ (arrV (Value.int .i64) 0 12 t2.f2))), 89⟩, ⟨nx1, arrV (Value.int .i64) 0 144 t1, 85⟩]) (X' := []) [1, 0] [] (by kernel_rfl) (by kernel_rfl) (by kernel_rfl) (by kernel_rfl) ?_
 obtain ⟨t3, hA3, H⟩ := bnd H
 refine RL.callM (L1 := [⟨nx2, ((arrV (Value.int .i64) 0 12 t2.f0) ++ ((arrV (Value.int .i64) 0 12 t2.f1) ++ (arrV (Value.int .i64) 0 12 t2.f2))), 89⟩, ⟨nx1, arrV (Value.int .i64) 0 144 t1, 85⟩]) (L2 := []) (X1 := []) (X2 := []) rfl rfl 49 [pt nx2 0, pt nx1 0] (some 14) (fun w => assign_solution_values0.Post (SM [⟨nx2, ((arrV (Value.int .i64) 0 12 t2.f0) ++ ((arrV (Value.int .i64) 0 12 t2.f1) ++ (arrV (Value.int .i64) 0 12 t2.f2))), 89⟩, ⟨nx1, arrV (Value.int .i64) 0 144 t1, 85⟩] []) nx2 nx1 t2 t1 I2 w t3) (by kernel_rfl) (by kernel_rfl) (fun w hs => assign_solution_values0.calls k I2 nx2 nx1 t2 t1 w hs hz2 hz3 hz4 hz1 t3 hA3) ?_
 rintro w v w' hs ⟨I3, rfl, hg⟩
 have hi3 : Imm.le I2 I3 := hg.le
 refine RL.resume (L' := [⟨nx2, ((arrV (Value.int .i64) 0 12 t2.f0) ++ ((arrV (Value.int .i64) 0 12 t2.f1) ++ (arrV (Value.int .i64) 0 12 t2.f2))), 89⟩, ⟨nx1, arrV (Value.int .i64) 0 144 t1, 85⟩]) (X' := []) rfl (hs.outof hg) ?_
 clear hs hg
 generalize w'.heap.size = nx3
 clear w w'
 refine RL.st 1 [(6, i6 t3)] ?_
 refine OK.re ?_
 obtain rfl := Option.some.inj H
 refine QN.body rfl [] (RFacts.nil _ _ _) (.no) (i6 t3) (by kernel_rfl) (by kernel_rfl) (by kernel_rfl) ?_ _ (.inr rfl)
 exact fun w' hs' => ⟨_, rfl, I3, rfl, hs'.got _ .slnil⟩

end Go.Proofs.Ytihmbmeelheinaa
namespace Go.Proofs.Ytihmbmeelheinaa
open Go Go.Proofs.Ytihmbmeelheinaa.RW
set_option linter.unusedVariables false
set_option maxRecDepth 100000
set_option maxHeartbeats 8000000

/-! ### slices_Min_int64_int64: function 56, slices.Min[[]int64,int64] -/
noncomputable def K56_0 : Code := cBody Try.f56
def slices_Min_int64_int64.k1  (x1 : Int) : Option (Int) := (some x1)
def slices_Min_int64_int64.l1 (a0 : List Int) : Nat → Int → Int → Option (Int)
 | 0, _, _ => none
 | k + 1, x2, x3 => (if x3 < (a0.length : Int) then (if 0 ≤ x3 then (if x3 < (a0.length : Int) then (slices_Min_int64_int64.l1 a0 k (iMin x2 (a0.getD (x3).toNat 0)) (W .i64 (x3 + 1))) else none) else none) else (some x2))
def slices_Min_int64_int64.f (k : Nat) (a0 : List Int) : Option (Int) := (if (a0.length : Int) < 1 then none else (if 0 < (a0.length : Int) then ((slices_Min_int64_int64.l1 a0 k (a0.getD (0 : Int).toNat 0) 1).bind (slices_Min_int64_int64.k1)) else none))
def slices_Min_int64_int64.Post (I : Imm) (w : World) (r : Int) (v : Value) (w' : World) : Prop :=
 ∃ (J : Imm), v = .int .i64 r ∧ Got w w' I J []
theorem slices_Min_int64_int64.calls (k : Nat) (I0 : Imm) (a0 : List Int) (Ap0 : Option Addr) (cp0 : Nat) (w : World) (hI : I0.at_ w) (hlp0 : a0.length ≤ cp0) (hrp0 : Rd (Ty.int .i64) I0 Ap0 a0) (r : Int) (h : slices_Min_int64_int64.f k a0 = some r) :
  Calls Try.prog 56 [.slice Ap0 a0.length cp0].toArray w fun e w' => ∃ v, e = .returned v ∧ slices_Min_int64_int64.Post I0 w r v w' := by
 have H : (if (a0.length : Int) < 1 then none else (if 0 < (a0.length : Int) then ((slices_Min_int64_int64.l1 a0 k (a0.getD (0 : Int).toNat 0) 1).bind (slices_Min_int64_int64.k1)) else none)) = some r := h
 clear h
 refine calls_body Try.func56 (by kernel_rfl) 25 (by kernel_rfl) (by kernel_rfl) ⟨w, fun _ => False, I0⟩ I0 [] [(0, .slice Ap0 a0.length cp0)] (by kernel_rfl) (Sat.start w _ I0 hI) ?_
 generalize w.heap.size = nx0
 show OK _ K56_0 _ _ _ _ _ _ _ _
 refine OK.sr ?_
 refine RL.st 1 [(0, .slice Ap0 a0.length cp0)] ?_
 refine OK.sq ?_
 refine OK.sr ?_
 refine RL.st 3 [(7, .bool (decide ((a0.length : Int) < 1))), (0, .slice Ap0 a0.length cp0)] ?_
 refine OK.cd (decide ((a0.length : Int) < 1)) (fun hb => ?_) (fun hb => ?_)
 ·skip
  have hc := (of_decide_eq_true hb)
  rw [if_pos hc] at H
  clear hb
  refine OK.rg ?_
  cases H
 ·skip
  have hc := (of_decide_eq_false hb)
  rw [if_neg hc] at H
  clear hb
  refine OK.skt ?_
  refine OK.sr ?_
  refine RL.s 1 [(9, .slice Ap0 a0.length cp0), (0, .slice Ap0 a0.length cp0)] ?_
  have hib0 : (0 : Int) ≤ 0 := by decide
  obtain ⟨hib1, H⟩ := ifs H
  obtain ⟨g1_, o1_, hA1_, hc1_⟩ := Ty.int_at hrp0 0 hib0 hib1
  refine RL.idx 1 .i64 0 hA1_ a0.length cp0 (some 10) (by kernel_rfl) (by kernel_rfl) (T := 27) (e := 2) (by kernel_rfl) (by kernel_rfl) hib0 hib1 (K' := [(10, pt g1_ (o1_ + (0 : Int).toNat * 1)), (9, .slice Ap0 a0.length cp0), (0, .slice Ap0 a0.length cp0)]) (by kernel_rfl) ?_
  refine RL.simK (K' := [(3, i6 (a0.getD (0 : Int).toNat 0)), (0, .slice Ap0 a0.length cp0)]) [(⟨g1_, o1_ + (0 : Int).toNat * 1, none⟩, i6 (a0.getD (0 : Int).toNat 0))] (RFacts.imm (hc1_ 0 _ rfl) (RFacts.nil _ _ _)) 2 [.r 0, .no] (by kernel_rfl) (by kernel_rfl) ?_
  refine RL.nt ?_
  refine OK.sq ?_
  refine OK.sr ?_
  refine RL.st 1 [(4, i6 1), (3, i6 (a0.getD (0 : Int).toNat 0)), (0, .slice Ap0 a0.length cp0)] ?_
  refine OK.join (fun K' I' _ L' X' => ∃ (x1 : Int), K' = [(3, i6 x1)] ∧ L' = [] ∧ X' = [] ∧ Imm.le I0 I' ∧ slices_Min_int64_int64.k1 x1 = some r) ?_ ?_
  ·rintro _ I1 nx1 _ _ ⟨x1, rfl, rfl, rfl, hi1, H⟩
   rw [slices_Min_int64_int64.k1] at H
   refine QN.then_ ?_
   refine OK.sr ?_
   refine RL.st 2 [(2, i6 x1)] ?_
   refine OK.re ?_
   obtain rfl := Option.some.inj H
   refine QN.body rfl [] (RFacts.nil _ _ _) (.no) (i6 x1) (by kernel_rfl) (by kernel_rfl) (by kernel_rfl) ?_ _ (.inr rfl)
   exact fun w' hs' => ⟨_, rfl, I1, rfl, hs'.got _ .slnil⟩
  ·intro Q_1 hJ1 hQ1
   obtain ⟨y1, H, HK1⟩ := bnd H
   refine OK.bk 0 ?_
   refine OK.sub (K' := [(0, .slice Ap0 a0.length cp0), (3, i6 (a0.getD (0 : Int).toNat 0)), (4, i6 1)]) (L' := []) (by kernel_rfl) .slnil (.refl _) ?_
   refine OK.lp (fun n_ K' I' _ L' X' => ∃ (x2 : Int) (x3 : Int), K' = [(0, .slice Ap0 a0.length cp0), (3, i6 x2), (4, i6 x3)] ∧ L' = [] ∧ X' = [] ∧ Imm.le I0 I' ∧ slices_Min_int64_int64.l1 a0 n_ x2 x3 = some y1) k ⟨(a0.getD (0 : Int).toNat 0), 1, rfl, rfl, rfl, (Imm.le_refl _), H⟩ ?_ ?_
   ·rintro _ _ _ _ _ ⟨x2, x3, rfl, rfl, rfl, _, H⟩
    cases H
   ·rintro kq1 _ I2 nx2 _ _ ⟨x2, x3, rfl, rfl, rfl, hi2, H⟩ Q_l1 hJ2 hQ2
    rw [slices_Min_int64_int64.l1] at H
    refine OK.sq ?_
    refine OK.sr ?_
    refine RL.st 4 [(15, .bool (decide (x3 < (a0.length : Int)))), (0, .slice Ap0 a0.length cp0), (3, i6 x2), (4, i6 x3)] ?_
    refine OK.cd (decide (x3 < (a0.length : Int))) (fun hb => ?_) (fun hb => ?_)
    ·skip
     have hc := (of_decide_eq_true hb)
     rw [if_pos hc] at H
     clear hb
     refine OK.skt ?_
     refine OK.sq ?_
     refine OK.bk 1 ?_
     refine OK.rg ?_
     refine RL.s 3 [(20, i6 x3), (19, .slice Ap0 a0.length cp0), (18, i6 x2), (0, .slice Ap0 a0.length cp0), (3, i6 x2), (4, i6 x3)] ?_
     obtain ⟨hib0, H⟩ := ifs H
     obtain ⟨hib1, H⟩ := ifs H
     obtain ⟨g2_, o2_, hA2_, hc2_⟩ := Ty.int_at (Rd.ext hi2 hrp0) x3 hib0 hib1
     refine RL.idx 1 .i64 x3 hA2_ a0.length cp0 (some 21) (by kernel_rfl) (by kernel_rfl) (T := 27) (e := 2) (by kernel_rfl) (by kernel_rfl) hib0 hib1 (K' := [(21, pt g2_ (o2_ + (x3).toNat * 1)), (20, i6 x3), (19, .slice Ap0 a0.length cp0), (18, i6 x2), (0, .slice Ap0 a0.length cp0), (3, i6 x2), (4, i6 x3)]) (by kernel_rfl) ?_
     refine RL.simK (K' := [(3, i6 (iMin x2 (a0.getD (x3).toNat 0))), (0, .slice Ap0 a0.length cp0), (4, i6 x3)]) [(⟨g2_, o2_ + (x3).toNat * 1, none⟩, i6 (a0.getD (x3).toNat 0))] (RFacts.imm (hc2_ 0 _ rfl) (RFacts.nil _ _ _)) 3 [.r 0, .no, .no] (by kernel_rfl) (by kernel_rfl) ?_
     refine RL.nil (by kernel_rfl) ?_
     refine QN.blkN ?_
     refine QN.then_ ?_
     refine OK.rg ?_
     refine RL.s 3 [(4, i6 (W .i64 (x3 + 1))), (3, i6 (iMin x2 (a0.getD (x3).toNat 0))), (0, .slice Ap0 a0.length cp0)] ?_
     refine RL.nil (by kernel_rfl) ?_
     exact QN.sb (hJ2 _ _ _ _ _ ⟨iMin x2 (a0.getD (x3).toNat 0), W .i64 (x3 + 1), rfl, rfl, rfl, hi2, H⟩) .slnil (.refl _)
    ·skip
     have hc := (of_decide_eq_false hb)
     rw [if_neg hc] at H
     clear hb
     refine OK.ex 0 ?_
     refine QN.thenE ?_
     refine QN.outE hQ2 ?_
     refine QN.blkE ?_
     obtain rfl := Option.some.inj H
     exact QN.sb (hJ1 _ _ _ _ _ ⟨x2, rfl, rfl, rfl, hi2, HK1⟩) .slnil (.refl _)

end Go.Proofs.Ytihmbmeelheinaa
namespace Go.Proofs.Ytihmbmeelheinaa
open Go Go.Proofs.Ytihmbmeelheinaa.RW
set_option linter.unusedVariables false
set_option maxRecDepth 100000
set_option maxHeartbeats 8000000

/-! ### assign_dualss0: function 51, armillary/assign.duals -/
noncomputable def K51s0_0 : Code := cBody Try.f51
noncomputable def O51s0_7 : List Oper := cOps (cL (cR (cR K51s0_0)))
noncomputable def O51s0_27 : List Oper := cOps (cR (cL (cL (cR (cR (cL (cL (cR (cL (cR (cR (cR K51s0_0))))))))))))
noncomputable def O51s0_49 : List Oper := cOps (cR (cL (cL (cR (cR (cL (cL (cR (cL (cR (cR (cR (cR K51s0_0)))))))))))))
def assign_dualss0.k1 (x1 : List Int) (x2 : List Int) : Option (S62) := (some (⟨x1, x2⟩ : S62))
def assign_dualss0.l1 (b0 : S89) (t1 : Int) (t2 : Int) : Nat → (List Int) → Int → Option (List Int)
 | 0, _, _ => none
 | k + 1, x3, x4 => (if x4 < ((List.replicate (t2).toNat (0 : Int)).length : Int) then (if 0 ≤ x4 then (if x4 < (12 : Int) then (if 0 ≤ x4 then (if x4 < (x3.length : Int) then (assign_dualss0.l1 b0 t1 t2 k (x3.set (x4).toNat (W .i64 ((b0.f2.getD ((x4).toNat) 0) - t1))) (W .i64 (x4 + 1))) else none) else none) else none) else none) else (some x3))
def assign_dualss0.k2 (k : Nat) (b0 : S89) (t1 : Int) (t2 : Int) (x1 : List Int) : Option (S62) := ((assign_dualss0.l1 b0 t1 t2 k (List.replicate (t2).toNat (0 : Int)) 0).bind (assign_dualss0.k1 x1))
def assign_dualss0.l2 (a0 : List (List Int)) (b0 : S89) (t1 : Int) : Nat → (List Int) → Int → Option (List Int)
 | 0, _, _ => none
 | k + 1, x5, x6 => (if x6 < ((List.replicate ((a0.length : Int)).toNat (0 : Int)).length : Int) then (if 0 ≤ x6 then (if x6 < (12 : Int) then (if 0 ≤ x6 then (if x6 < (x5.length : Int) then (assign_dualss0.l2 a0 b0 t1 k (x5.set (x6).toNat (W .i64 ((b0.f1.getD ((x6).toNat) 0) + t1))) (W .i64 (x6 + 1))) else none) else none) else none) else none) else (some x5))
def assign_dualss0.f (k : Nat) (a0 : List (List Int)) (b0 : S89) : Option (S62) := ((slices_Min_int64_int64.f k (b0.f2.take 12)).bind fun t1 => (if 0 ≤ (a0.length : Int) then (if (a0.length : Int) ≤ 35184372088832 then ((assign_columns.f a0).bind fun t2 => (if 0 ≤ t2 then (if t2 ≤ 35184372088832 then ((assign_dualss0.l2 a0 b0 t1 k (List.replicate ((a0.length : Int)).toNat (0 : Int)) 0).bind (assign_dualss0.k2 k b0 t1 t2)) else none) else none)) else none) else none))
def assign_dualss0.Post (S : Nat → Prop) (gb0 : Nat) (a0 : List (List Int)) (Aa0 : Option Addr) (ca0 : Nat) (b0 : S89) (I : Imm) (w : World) (r : S62) (v : Value) (w' : World) : Prop :=
 ∃ (J : Imm) (Ar0_0 : Option Addr) (cr0_0 : Nat) (csr0_0 : List Value) (Ar0_1 : Option Addr) (cr0_1 : Nat) (csr0_1 : List Value), v = .agg #[.slice Ar0_0 r.f0.length cr0_0, .slice Ar0_1 r.f1.length cr0_1] ∧ Sat ⟨w, S, I⟩ J w'.heap.size [⟨gb0, ((arrV (Value.int .i64) 0 12 b0.f0) ++ ((arrV (Value.int .i64) 0 12 b0.f1) ++ (arrV (Value.int .i64) 0 12 b0.f2))), 89⟩] [orow 2 1 Ar0_0 r.f0.length cr0_0 csr0_0, orow 2 1 Ar0_1 r.f1.length cr0_1 csr0_1] w' ∧ Reps (Ty.int .i64) J r.f0 csr0_0 ∧ Reps (Ty.int .i64) J r.f1 csr0_1
noncomputable def a51s0_7n : List Nat := [0, 1, 3, 0, 8, 24, 63, 0, 255]
theorem a51s0_7 : ancs O51s0_7 [] = a51s0_7n := by kernel_rfl
theorem a51s0_7o : drawOk O51s0_7 a51s0_7n 8 = true := by kernel_rfl
noncomputable def u51d1l (a0 : List (List Int)) (t2 : Int) : List Ld :=
 [⟨2, fun x => .slice ((x 0).1) ((List.replicate ((a0.length : Int)).toNat (0 : Int)).length) ((x 0).2.1), fun x => [orow 2 1 (x 0).1 (List.replicate ((a0.length : Int)).toNat (0 : Int)).length (x 0).2.1 (x 0).2.2], fun x J => Reps (Ty.int .i64) J (List.replicate ((a0.length : Int)).toNat (0 : Int)) (x 0).2.2 ∧ True, fun x J J' h f => ⟨Reps.ext h f.1, trivial⟩⟩,
  ⟨4, fun x => i6 t2, fun x => [], fun x J => True, fun x J J' h f => trivial⟩,
  ⟨5, fun x => .slice ((x 0).1) ((List.replicate (t2).toNat (0 : Int)).length) ((x 0).2.1), fun x => [orow 2 1 (x 0).1 (List.replicate (t2).toNat (0 : Int)).length (x 0).2.1 (x 0).2.2], fun x J => Reps (Ty.int .i64) J (List.replicate (t2).toNat (0 : Int)) (x 0).2.2 ∧ True, fun x J J' h f => ⟨Reps.ext h f.1, trivial⟩⟩,
  ⟨7, fun x => pt ((x 0).2.1) 0, fun x => [RW.kblk (x 0).2.1 62 [.slice none 0 0, .slice none 0 0]], fun x J => True, fun x J J' h f => trivial⟩]
noncomputable def u51d1g  : List (Nat × ((Nat → Wt) → Value)) := []
noncomputable def u51d1q (nx0 : Nat) (gb0 : Nat) (a0 : List (List Int)) (Aa0 : Option Addr) (ca0 : Nat) (b0 : S89) (t1 : Int) (t2 : Int) (u : Nat → Wt) : Option (List Value × List (Nat × Value) × List (Nat × Nat)) := qSim Try.prog [] [⟨gb0, ((arrV (Value.int .i64) 0 12 b0.f0) ++ ((arrV (Value.int .i64) 0 12 b0.f1) ++ (arrV (Value.int .i64) 0 12 b0.f2))), 89⟩, ⟨nx0, [.slice none 0 0, .slice none 0 0], 62⟩] O51s0_7 ⟨60, []⟩ (Ld.vl (u51d1l a0 t2)) u51d1g u [.no, .no, .no, .no, .no, .no, .no, .no] 0 (O51s0_7.take 8) [(5, i6 t1), (4, pt nx0 0), (0, .slice Aa0 a0.length ca0), (1, pt gb0 0)]
noncomputable def u51d1s (a0 : List (List Int)) (Aa0 : Option Addr) (ca0 : Nat) (t2 : Int) (u : Nat → Wt) : List Value := [.slice Aa0 a0.length ca0, i6 (a0.length : Int), .slice ((u 2 0).1) ((List.replicate ((a0.length : Int)).toNat (0 : Int)).length) ((u 2 0).2.1), .slice Aa0 a0.length ca0, i6 t2, .slice ((u 5 0).1) ((List.replicate (t2).toNat (0 : Int)).length) ((u 5 0).2.1), .agg #[.slice ((u 2 0).1) ((List.replicate ((a0.length : Int)).toNat (0 : Int)).length) ((u 2 0).2.1), .slice ((u 5 0).1) ((List.replicate (t2).toNat (0 : Int)).length) ((u 5 0).2.1)], pt ((u 7 0).2.1) 0]
noncomputable def u51d1f (nx0 : Nat) (gb0 : Nat) (a0 : List (List Int)) (Aa0 : Option Addr) (ca0 : Nat) (t1 : Int) (t2 : Int) (i : Nat) (u : Nat → Wt) : List (Nat × Value) := foldPut ⟨60, []⟩ [(5, i6 t1), (4, pt nx0 0), (0, .slice Aa0 a0.length ca0), (1, pt gb0 0)] (O51s0_7.take i) (((u51d1s a0 Aa0 ca0 t2) u).take i)
theorem u51d1v (nx0 : Nat) (gb0 : Nat) (a0 : List (List Int)) (Aa0 : Option Addr) (ca0 : Nat) (b0 : S89) (t1 : Int) (t2 : Int) (u : Nat → Wt) : (u51d1q nx0 gb0 a0 Aa0 ca0 b0 t1 t2 u).map (fun x => (x.1, x.2.1)) = some ((u51d1s a0 Aa0 ca0 t2) u, (u51d1f nx0 gb0 a0 Aa0 ca0 t1 t2 8) u) := by kernel_rfl
theorem u51d1e (nx0 : Nat) (gb0 : Nat) (a0 : List (List Int)) (Aa0 : Option Addr) (ca0 : Nat) (b0 : S89) (t1 : Int) (t2 : Int) (u : Nat → Wt) : (u51d1q nx0 gb0 a0 Aa0 ca0 b0 t1 t2 u).map (fun x => x.2.2.map (·.1)) = (u51d1q nx0 gb0 a0 Aa0 ca0 b0 t1 t2 u).map (fun x => x.2.2.map (·.2)) := by kernel_rfl
noncomputable def a51s0_49n : List Nat := [0, 1, 0, 0, 0, 8, 40, 120, 248, 0, 1016, 2047, 4095]
theorem a51s0_49 : ancs O51s0_49 [] = a51s0_49n := by kernel_rfl
theorem a51s0_49o : drawOk O51s0_49 a51s0_49n 11 = true := by kernel_rfl
noncomputable def u51d2l  : List Ld :=
 []
noncomputable def u51d2g (gb0 : Nat) (x4 : Int) : List (Nat × ((Nat → Wt) → Value)) := [(7, fun u => pt gb0 (24 + (x4).toNat * 1))]
noncomputable def u51d2q (nx0 : Nat) (gb0 : Nat) (b0 : S89) (t1 : Int) (t2 : Int) (c3 : Nat) (x1 : List Int) (A4 : Option Addr) (c4 : Nat) (x3 : List Int) (A6 : Option Addr) (c6 : Nat) (x4 : Int) (u : Nat → Wt) : Option (List Value × List (Nat × Value) × List (Nat × Nat)) := qSim Try.prog [(⟨gb0, 24 + (x4).toNat * 1, none⟩, i6 (b0.f2.getD ((x4).toNat) 0))] [⟨gb0, ((arrV (Value.int .i64) 0 12 b0.f0) ++ ((arrV (Value.int .i64) 0 12 b0.f1) ++ (arrV (Value.int .i64) 0 12 b0.f2))), 89⟩, ⟨nx0, [.slice none 0 0, .slice none 0 0], 62⟩, ⟨c3, [.slice A4 x1.length c4, .slice A6 x3.length c6], 62⟩] O51s0_49 ⟨60, []⟩ (Ld.vl u51d2l) (u51d2g gb0 x4) u [.no, .l 2, .no, .no, .no, .no, .no, .no, .r 0, .no, .no] 0 (O51s0_49.take 11) [(8, i6 x4), (1, pt gb0 0), (4, pt nx0 0), (5, i6 t1), (6, pt c3 0), (42, i6 ((List.replicate (t2).toNat (0 : Int)).length : Int)), (43, i6 x4)]
noncomputable def u51d2s (gb0 : Nat) (b0 : S89) (t1 : Int) (c3 : Nat) (x3 : List Int) (A6 : Option Addr) (c6 : Nat) (x4 : Int) (u : Nat → Wt) : List Value := [pt c3 1, .slice A6 x3.length c6, i6 x4, pt gb0 0, i6 x4, pt gb0 0, pt gb0 24, pt gb0 (24 + (x4).toNat * 1), i6 (b0.f2.getD ((x4).toNat) 0), i6 t1, i6 (W .i64 ((b0.f2.getD ((x4).toNat) 0) - t1))]
noncomputable def u51d2f (nx0 : Nat) (gb0 : Nat) (b0 : S89) (t1 : Int) (t2 : Int) (c3 : Nat) (x3 : List Int) (A6 : Option Addr) (c6 : Nat) (x4 : Int) (i : Nat) (u : Nat → Wt) : List (Nat × Value) := foldPut ⟨60, []⟩ [(8, i6 x4), (1, pt gb0 0), (4, pt nx0 0), (5, i6 t1), (6, pt c3 0), (42, i6 ((List.replicate (t2).toNat (0 : Int)).length : Int)), (43, i6 x4)] (O51s0_49.take i) (((u51d2s gb0 b0 t1 c3 x3 A6 c6 x4) u).take i)
theorem u51d2v (nx0 : Nat) (gb0 : Nat) (b0 : S89) (t1 : Int) (t2 : Int) (c3 : Nat) (x1 : List Int) (A4 : Option Addr) (c4 : Nat) (x3 : List Int) (A6 : Option Addr) (c6 : Nat) (x4 : Int) (u : Nat → Wt) : (u51d2q nx0 gb0 b0 t1 t2 c3 x1 A4 c4 x3 A6 c6 x4 u).map (fun x => (x.1, x.2.1)) = some ((u51d2s gb0 b0 t1 c3 x3 A6 c6 x4) u, (u51d2f nx0 gb0 b0 t1 t2 c3 x3 A6 c6 x4 11) u) := by kernel_rfl
theorem u51d2e (nx0 : Nat) (gb0 : Nat) (b0 : S89) (t1 : Int) (t2 : Int) (c3 : Nat) (x1 : List Int) (A4 : Option Addr) (c4 : Nat) (x3 : List Int) (A6 : Option Addr) (c6 : Nat) (x4 : Int) (u : Nat → Wt) : (u51d2q nx0 gb0 b0 t1 t2 c3 x1 A4 c4 x3 A6 c6 x4 u).map (fun x => x.2.2.map (·.1)) = (u51d2q nx0 gb0 b0 t1 t2 c3 x1 A4 c4 x3 A6 c6 x4 u).map (fun x => x.2.2.map (·.2)) := by kernel_rfl
noncomputable def a51s0_27n : List Nat := [0, 1, 0, 0, 0, 8, 40, 120, 248, 0, 1016, 2047, 4095]
theorem a51s0_27 : ancs O51s0_27 [] = a51s0_27n := by kernel_rfl
theorem a51s0_27o : drawOk O51s0_27 a51s0_27n 11 = true := by kernel_rfl
noncomputable def u51d3l  : List Ld :=
 []
noncomputable def u51d3g (gb0 : Nat) (x6 : Int) : List (Nat × ((Nat → Wt) → Value)) := [(7, fun u => pt gb0 (12 + (x6).toNat * 1))]
noncomputable def u51d3q (nx0 : Nat) (gb0 : Nat) (a0 : List (List Int)) (b0 : S89) (t1 : Int) (t2 : Int) (A2 : Option Addr) (c2 : Nat) (c3 : Nat) (x5 : List Int) (A7 : Option Addr) (c7 : Nat) (x6 : Int) (u : Nat → Wt) : Option (List Value × List (Nat × Value) × List (Nat × Nat)) := qSim Try.prog [(⟨gb0, 12 + (x6).toNat * 1, none⟩, i6 (b0.f1.getD ((x6).toNat) 0))] [⟨gb0, ((arrV (Value.int .i64) 0 12 b0.f0) ++ ((arrV (Value.int .i64) 0 12 b0.f1) ++ (arrV (Value.int .i64) 0 12 b0.f2))), 89⟩, ⟨nx0, [.slice none 0 0, .slice none 0 0], 62⟩, ⟨c3, [.slice A7 x5.length c7, .slice A2 ((List.replicate (t2).toNat (0 : Int)).length) c2], 62⟩] O51s0_27 ⟨60, []⟩ (Ld.vl u51d3l) (u51d3g gb0 x6) u [.no, .l 2, .no, .no, .no, .no, .no, .no, .r 0, .no, .no] 0 (O51s0_27.take 11) [(7, i6 x6), (1, pt gb0 0), (4, pt nx0 0), (5, i6 t1), (6, pt c3 0), (23, i6 ((List.replicate ((a0.length : Int)).toNat (0 : Int)).length : Int)), (24, i6 x6)]
noncomputable def u51d3s (gb0 : Nat) (b0 : S89) (t1 : Int) (c3 : Nat) (x5 : List Int) (A7 : Option Addr) (c7 : Nat) (x6 : Int) (u : Nat → Wt) : List Value := [pt c3 0, .slice A7 x5.length c7, i6 x6, pt gb0 0, i6 x6, pt gb0 0, pt gb0 12, pt gb0 (12 + (x6).toNat * 1), i6 (b0.f1.getD ((x6).toNat) 0), i6 t1, i6 (W .i64 ((b0.f1.getD ((x6).toNat) 0) + t1))]
noncomputable def u51d3f (nx0 : Nat) (gb0 : Nat) (a0 : List (List Int)) (b0 : S89) (t1 : Int) (c3 : Nat) (x5 : List Int) (A7 : Option Addr) (c7 : Nat) (x6 : Int) (i : Nat) (u : Nat → Wt) : List (Nat × Value) := foldPut ⟨60, []⟩ [(7, i6 x6), (1, pt gb0 0), (4, pt nx0 0), (5, i6 t1), (6, pt c3 0), (23, i6 ((List.replicate ((a0.length : Int)).toNat (0 : Int)).length : Int)), (24, i6 x6)] (O51s0_27.take i) (((u51d3s gb0 b0 t1 c3 x5 A7 c7 x6) u).take i)
theorem u51d3v (nx0 : Nat) (gb0 : Nat) (a0 : List (List Int)) (b0 : S89) (t1 : Int) (t2 : Int) (A2 : Option Addr) (c2 : Nat) (c3 : Nat) (x5 : List Int) (A7 : Option Addr) (c7 : Nat) (x6 : Int) (u : Nat → Wt) : (u51d3q nx0 gb0 a0 b0 t1 t2 A2 c2 c3 x5 A7 c7 x6 u).map (fun x => (x.1, x.2.1)) = some ((u51d3s gb0 b0 t1 c3 x5 A7 c7 x6) u, (u51d3f nx0 gb0 a0 b0 t1 c3 x5 A7 c7 x6 11) u) := by kernel_rfl
theorem u51d3e (nx0 : Nat) (gb0 : Nat) (a0 : List (List Int)) (b0 : S89) (t1 : Int) (t2 : Int) (A2 : Option Addr) (c2 : Nat) (c3 : Nat) (x5 : List Int) (A7 : Option Addr) (c7 : Nat) (x6 : Int) (u : Nat → Wt) : (u51d3q nx0 gb0 a0 b0 t1 t2 A2 c2 c3 x5 A7 c7 x6 u).map (fun x => x.2.2.map (·.1)) = (u51d3q nx0 gb0 a0 b0 t1 t2 A2 c2 c3 x5 A7 c7 x6 u).map (fun x => x.2.2.map (·.2)) := by kernel_rfl
theorem assign_dualss0.calls (k : Nat) (I0 : Imm) (gb0 : Nat) (a0 : List (List Int)) (Aa0 : Option Addr) (ca0 : Nat) (b0 : S89) (w : World) (hs : Sat ⟨w, SM [⟨gb0, ((arrV (Value.int .i64) 0 12 b0.f0) ++ ((arrV (Value.int .i64) 0 12 b0.f1) ++ (arrV (Value.int .i64) 0 12 b0.f2))), 89⟩] [], I0⟩ I0 w.heap.size [⟨gb0, ((arrV (Value.int .i64) 0 12 b0.f0) ++ ((arrV (Value.int .i64) 0 12 b0.f1) ++ (arrV (Value.int .i64) 0 12 b0.f2))), 89⟩] [] w) (hla0 : a0.length ≤ ca0) (hra0 : Rd (Ty.slice (Ty.int .i64)) I0 Aa0 a0) (hzb0_0 : 12 ≤ b0.f0.length) (hzb0_1 : 12 ≤ b0.f1.length) (hzb0_2 : 12 ≤ b0.f2.length) (r : S62) (h : assign_dualss0.f k a0 b0 = some r) :
  Calls Try.prog 51 [.slice Aa0 a0.length ca0, pt gb0 0].toArray w fun e w' => ∃ v, e = .returned v ∧ assign_dualss0.Post (SM [⟨gb0, ((arrV (Value.int .i64) 0 12 b0.f0) ++ ((arrV (Value.int .i64) 0 12 b0.f1) ++ (arrV (Value.int .i64) 0 12 b0.f2))), 89⟩] []) gb0 a0 Aa0 ca0 b0 I0 w r v w' := by
 have H : ((slices_Min_int64_int64.f k (b0.f2.take 12)).bind fun t1 => (if 0 ≤ (a0.length : Int) then (if (a0.length : Int) ≤ 35184372088832 then ((assign_columns.f a0).bind fun t2 => (if 0 ≤ t2 then (if t2 ≤ 35184372088832 then ((assign_dualss0.l2 a0 b0 t1 k (List.replicate ((a0.length : Int)).toNat (0 : Int)) 0).bind (assign_dualss0.k2 k b0 t1 t2)) else none) else none)) else none) else none)) = some r := h
 clear h
 refine calls_bodyL Try.func51 (by kernel_rfl) 60 (by kernel_rfl) (by kernel_rfl) ⟨w, SM [⟨gb0, ((arrV (Value.int .i64) 0 12 b0.f0) ++ ((arrV (Value.int .i64) 0 12 b0.f1) ++ (arrV (Value.int .i64) 0 12 b0.f2))), 89⟩] [], I0⟩ I0 [⟨gb0, ((arrV (Value.int .i64) 0 12 b0.f0) ++ ((arrV (Value.int .i64) 0 12 b0.f1) ++ (arrV (Value.int .i64) 0 12 b0.f2))), 89⟩] [] [(0, .slice Aa0 a0.length ca0), (1, pt gb0 0)] (by kernel_rfl) hs ?_
 generalize w.heap.size = nx0
 show OK _ K51s0_0 _ _ _ _ _ _ _ _
 refine OK.sr ?_
 refine RL.spt 1 [(4, pt nx0 0), (0, .slice Aa0 a0.length ca0), (1, pt gb0 0)] (nx0 + 1) [⟨gb0, ((arrV (Value.int .i64) 0 12 b0.f0) ++ ((arrV (Value.int .i64) 0 12 b0.f1) ++ (arrV (Value.int .i64) 0 12 b0.f2))), 89⟩, ⟨nx0, [.slice none 0 0, .slice none 0 0], 62⟩] ?_
 refine OK.sr ?_
 refine RL.s 3 [(11, pt gb0 24), (4, pt nx0 0), (0, .slice Aa0 a0.length ca0), (1, pt gb0 0)] ?_
 refine RL.s 1 [(12, .slice (some ⟨gb0, 24, none⟩) 12 12), (11, pt gb0 24), (4, pt nx0 0), (0, .slice Aa0 a0.length ca0), (1, pt gb0 0)] ?_
 have hv1 := take_len (n := 12) hzb0_2
 refine RL.norm (K' := [(12, .slice (some ⟨gb0, 24, none⟩) ((b0.f2.take 12).length) 12), (11, pt gb0 24), (4, pt nx0 0), (0, .slice Aa0 a0.length ca0), (1, pt gb0 0)]) (by rw [hv1]) rfl rfl rfl ?_
 obtain ⟨t1, hA1, H⟩ := bnd H
 refine RL.callP 56 [.slice (some ⟨gb0, 24, none⟩) ((b0.f2.take 12).length) 12] (some 13) (fun w v w' => ∃ I', Imm.le I0 I' ∧ slices_Min_int64_int64.Post I' w t1 v w') (by kernel_rfl) (by kernel_rfl) (fun w hs => ?_) ?_
 ·skip
  obtain ⟨JL1, hj1, hw10, hs⟩ := Sat.lendB (i := 0) (b := ⟨gb0, ((arrV (Value.int .i64) 0 12 b0.f0) ++ ((arrV (Value.int .i64) 0 12 b0.f1) ++ (arrV (Value.int .i64) 0 12 b0.f2))), 89⟩) hs (by kernel_rfl)
  have hw1 := rd_view (g := gb0) (cs := ((arrV (Value.int .i64) 0 12 b0.f0) ++ ((arrV (Value.int .i64) 0 12 b0.f1) ++ (arrV (Value.int .i64) 0 12 b0.f2)))) (enc := (Value.int .i64)) (z := 0) (n := 12) (l := b0.f2) (pre := ((arrV (Value.int .i64) 0 12 b0.f0) ++ (arrV (Value.int .i64) 0 12 b0.f1))) (post := []) (q := 24) (h1 := fun _ => rfl) hw10 (by kernel_rfl) (by kernel_rfl) hzb0_2 (by decide)
  exact (slices_Min_int64_int64.calls k JL1 (b0.f2.take 12) (some ⟨gb0, 24, none⟩) 12 _ hs.im (Nat.le_of_eq hv1) hw1 t1 hA1).mono (fun e w' ⟨v, hv, hp⟩ => ⟨v, hv, JL1, hj1, hp⟩)
 rintro w v w' hs ⟨I', hle, J, rfl, hg⟩
 refine RL.resume (X' := []) rfl (hs.call (hg.back hle)) ?_
 clear hs hg hle I' J
 generalize w'.heap.size = nx1
 clear w w'
 refine RL.st 1 [(5, i6 t1), (4, pt nx0 0), (0, .slice Aa0 a0.length ca0), (1, pt gb0 0)] ?_
 refine OK.sq ?_
 obtain ⟨hm1, H⟩ := ifs H
 obtain ⟨hm2, H⟩ := ifs H
 obtain ⟨t2, hA2, H⟩ := bnd H
 obtain ⟨hm3, H⟩ := ifs H
 obtain ⟨hm4, H⟩ := ifs H
 refine OK.drawnC 2 8 O51s0_7 a51s0_7n (by kernel_rfl) (by kernel_rfl) (u51d1l a0 t2) u51d1g [] (RI.nil _) [.no, .no, .no, .no, .no, .no, .no, .no] a51s0_7 a51s0_7o (by kernel_rfl) (by kernel_rfl) (u51d1s a0 Aa0 ca0 t2) (u51d1f nx0 gb0 a0 Aa0 ca0 t1 t2 8) (u51d1v nx0 gb0 a0 Aa0 ca0 b0 t1 t2) (u51d1e nx0 gb0 a0 Aa0 ca0 b0 t1 t2) [u51d1f nx0 gb0 a0 Aa0 ca0 t1 t2 2, u51d1f nx0 gb0 a0 Aa0 ca0 t1 t2 4, u51d1f nx0 gb0 a0 Aa0 ca0 t1 t2 5, u51d1f nx0 gb0 a0 Aa0 ca0 t1 t2 7] (framesOk.cons (fun u => rfl) (framesOk.cons (fun u => rfl) (framesOk.cons (fun u => rfl) (framesOk.cons (fun u => rfl) framesOk.nil)))) ?_ [] framesOk.nil ?_ ?_
 ·refine LoudsG.cons ?_ (LoudsG.cons ?_ (LoudsG.cons ?_ (LoudsG.cons ?_ (LoudsG.nil))))
  ·intro D u J w hp hJ hs hF
   refine (Does.makeL (T := 27) (e := 2) hs.im (a0.length : Int) .i64 .i64 (i6 0) (0) (Ty.int .i64) 8 (by kernel_rfl) (by kernel_rfl) (by kernel_rfl) (by kernel_rfl) rfl hm1 (by omega) (by omega)).mono ?_
   rintro v w' ⟨rfl, hg, hp⟩
   exact ⟨fun _ => (_, _, _), J, rfl, hg, hp, trivial⟩
  ·intro D u J w hp hJ hs hF
   refine Does.call 46 [.slice Aa0 a0.length ca0] (by kernel_rfl) ((assign_columns.calls J a0 Aa0 ca0 w hs.im hla0 (Rd.ext hJ hra0) t2 hA2).mono ?_)
   rintro e w' ⟨v, rfl, J2, rfl, hg⟩
   exact ⟨_, rfl, fun _ => (none, 0, []), J2, rfl, hg, trivial⟩
  ·intro D u J w hp hJ hs hF
   refine (Does.makeL (T := 27) (e := 2) hs.im t2 .i64 .i64 (i6 0) (0) (Ty.int .i64) 8 (by kernel_rfl) (by kernel_rfl) (by kernel_rfl) (by kernel_rfl) rfl hm3 (by omega) (by omega)).mono ?_
   rintro v w' ⟨rfl, hg, hp⟩
   exact ⟨fun _ => (_, _, _), J, rfl, hg, hp, trivial⟩
  ·intro D u J w hp hJ hs hF
   refine (Does.make hs.im (fun n_ => pt n_ 0) (cs := [.slice none 0 0, .slice none 0 0]) (ty := 62) (fun n_ => by kernel_rfl)).mono ?_
   rintro v w' ⟨rfl, hg⟩
   exact ⟨fun _ => (none, w.heap.size, []), J, rfl, hg, trivial⟩
 ·refine Givens.nil
 intro u I1 nx2 hi1 hF
 have hf1 := ((hF.1 rfl).1)
 have hf2 := ((hF.2.2.1 rfl).1)
 clear hF
 refine RL.norm (K' := [(6, pt ((u 7 0).2.1) 0), (20, .agg #[.slice ((u 2 0).1) ((List.replicate ((a0.length : Int)).toNat (0 : Int)).length) ((u 2 0).2.1), .slice ((u 5 0).1) ((List.replicate (t2).toNat (0 : Int)).length) ((u 5 0).2.1)]), (19, .slice ((u 5 0).1) ((List.replicate (t2).toNat (0 : Int)).length) ((u 5 0).2.1)), (18, i6 t2), (17, .slice Aa0 a0.length ca0), (16, .slice ((u 2 0).1) ((List.replicate ((a0.length : Int)).toNat (0 : Int)).length) ((u 2 0).2.1)), (15, i6 (a0.length : Int)), (14, .slice Aa0 a0.length ca0), (5, i6 t1), (4, pt nx0 0), (0, .slice Aa0 a0.length ca0), (1, pt gb0 0)]) (X' := [orow 2 1 (u 2 0).1 ((List.replicate ((a0.length : Int)).toNat (0 : Int)).length) (u 2 0).2.1 (u 2 0).2.2, orow 2 1 (u 5 0).1 ((List.replicate (t2).toNat (0 : Int)).length) (u 5 0).2.1 (u 5 0).2.2, RW.kblk (u 7 0).2.1 62 [.slice none 0 0, .slice none 0 0]]) (by kernel_rfl) rfl rfl rfl ?_
 revert hf1 hf2
 generalize (u 2 0).1 = A1
 generalize (u 2 0).2.1 = c1
 generalize (u 2 0).2.2 = cs1
 generalize (u 5 0).1 = A2
 generalize (u 5 0).2.1 = c2
 generalize (u 5 0).2.2 = cs2
 generalize (u 7 0).1 = A3
 generalize (u 7 0).2.1 = c3
 generalize (u 7 0).2.2 = cs3
 intro hf1 hf2
 clear u
 refine RL.kblk (g := c3) (ty := 62) (cs := [.slice none 0 0, .slice none 0 0]) 2 (by kernel_rfl) ?_
 show RL _ _ _ 8 _ [(6, pt c3 0), (20, .agg #[.slice A1 ((List.replicate ((a0.length : Int)).toNat (0 : Int)).length) c1, .slice A2 ((List.replicate (t2).toNat (0 : Int)).length) c2]), (19, .slice A2 ((List.replicate (t2).toNat (0 : Int)).length) c2), (18, i6 t2), (17, .slice Aa0 a0.length ca0), (16, .slice A1 ((List.replicate ((a0.length : Int)).toNat (0 : Int)).length) c1), (15, i6 (a0.length : Int)), (14, .slice Aa0 a0.length ca0), (5, i6 t1), (4, pt nx0 0), (0, .slice Aa0 a0.length ca0), (1, pt gb0 0)] _ _ _ [⟨gb0, ((arrV (Value.int .i64) 0 12 b0.f0) ++ ((arrV (Value.int .i64) 0 12 b0.f1) ++ (arrV (Value.int .i64) 0 12 b0.f2))), 89⟩, ⟨nx0, [.slice none 0 0, .slice none 0 0], 62⟩, ⟨c3, [.slice none 0 0, .slice none 0 0], 62⟩] [orow 2 1 A1 ((List.replicate ((a0.length : Int)).toNat (0 : Int)).length) c1 cs1, orow 2 1 A2 ((List.replicate (t2).toNat (0 : Int)).length) c2 cs2]
 refine RL.simP (K' := [(6, pt c3 0), (5, i6 t1), (4, pt nx0 0), (1, pt gb0 0)]) (nx' := nx2) (L' := [⟨gb0, ((arrV (Value.int .i64) 0 12 b0.f0) ++ ((arrV (Value.int .i64) 0 12 b0.f1) ++ (arrV (Value.int .i64) 0 12 b0.f2))), 89⟩, ⟨nx0, [.slice none 0 0, .slice none 0 0], 62⟩, ⟨c3, [.slice A1 ((List.replicate ((a0.length : Int)).toNat (0 : Int)).length) c1, .slice A2 ((List.replicate (t2).toNat (0 : Int)).length) c2], 62⟩]) [] (RFacts.nil _ _ _) 1 [.l 2] (by kernel_rfl) (by kernel_rfl) ?_
 refine RL.nt ?_
 refine OK.sq ?_
 refine OK.sr ?_
 refine RL.simK (K' := [(24, i6 0), (23, i6 ((List.replicate ((a0.length : Int)).toNat (0 : Int)).length : Int)), (6, pt c3 0), (5, i6 t1), (4, pt nx0 0), (1, pt gb0 0)]) [] (RFacts.nil _ _ _) 4 [.no, .l 2, .no, .no] (by kernel_rfl) (by kernel_rfl) ?_
 refine RL.nt ?_
 refine OK.join (fun K' I' _ L' X' => ∃ (x1 : List Int) (A4 : Option Addr) (c4 : Nat) (cs4 : List Value), K' = [(1, pt gb0 0), (4, pt nx0 0), (5, i6 t1), (6, pt c3 0)] ∧ L' = [⟨gb0, ((arrV (Value.int .i64) 0 12 b0.f0) ++ ((arrV (Value.int .i64) 0 12 b0.f1) ++ (arrV (Value.int .i64) 0 12 b0.f2))), 89⟩, ⟨nx0, [.slice none 0 0, .slice none 0 0], 62⟩, ⟨c3, [.slice A4 x1.length c4, .slice A2 ((List.replicate (t2).toNat (0 : Int)).length) c2], 62⟩] ∧ X' = [orow 2 1 A4 x1.length c4 cs4, orow 2 1 A2 ((List.replicate (t2).toNat (0 : Int)).length) c2 cs2] ∧ Imm.le I1 I' ∧ Reps (Ty.int .i64) I' x1 cs4 ∧ assign_dualss0.k2 k b0 t1 t2 x1 = some r) ?_ ?_
 ·rintro _ I2 nx3 _ _ ⟨x1, A4, c4, cs4, rfl, rfl, rfl, hi2, hp1, H⟩
  rw [assign_dualss0.k2] at H
  refine QN.then_ ?_
  refine OK.sq ?_
  refine OK.sr ?_
  refine RL.simK (K' := [(43, i6 0), (42, i6 ((List.replicate (t2).toNat (0 : Int)).length : Int)), (1, pt gb0 0), (4, pt nx0 0), (5, i6 t1), (6, pt c3 0)]) [] (RFacts.nil _ _ _) 4 [.no, .l 2, .no, .no] (by kernel_rfl) (by kernel_rfl) ?_
  refine RL.nt ?_
  refine OK.join (fun K' I' _ L' X' => ∃ (x2 : List Int) (A5 : Option Addr) (c5 : Nat) (cs5 : List Value), K' = [(4, pt nx0 0), (6, pt c3 0)] ∧ L' = [⟨gb0, ((arrV (Value.int .i64) 0 12 b0.f0) ++ ((arrV (Value.int .i64) 0 12 b0.f1) ++ (arrV (Value.int .i64) 0 12 b0.f2))), 89⟩, ⟨nx0, [.slice none 0 0, .slice none 0 0], 62⟩, ⟨c3, [.slice A4 x1.length c4, .slice A5 x2.length c5], 62⟩] ∧ X' = [orow 2 1 A4 x1.length c4 cs4, orow 2 1 A5 x2.length c5 cs5] ∧ Imm.le I2 I' ∧ Reps (Ty.int .i64) I' x2 cs5 ∧ assign_dualss0.k1 x1 x2 = some r) ?_ ?_
  ·rintro _ I3 nx4 _ _ ⟨x2, A5, c5, cs5, rfl, rfl, rfl, hi3, hp2, H⟩
   rw [assign_dualss0.k1] at H
   refine QN.then_ ?_
   refine OK.sr ?_
   refine RL.simP (K' := [(4, pt nx0 0)]) (nx' := nx4) (L' := [⟨gb0, ((arrV (Value.int .i64) 0 12 b0.f0) ++ ((arrV (Value.int .i64) 0 12 b0.f1) ++ (arrV (Value.int .i64) 0 12 b0.f2))), 89⟩, ⟨nx0, [.slice A4 x1.length c4, .slice A5 x2.length c5], 62⟩, ⟨c3, [.slice A4 x1.length c4, .slice A5 x2.length c5], 62⟩]) [] (RFacts.nil _ _ _) 2 [.l 2, .l 1] (by kernel_rfl) (by kernel_rfl) ?_
   refine RL.nt ?_
   refine OK.re ?_
   obtain rfl := Option.some.inj H
   refine QN.body rfl [] (RFacts.nil _ _ _) (.l 1) (.agg #[.slice A4 x1.length c4, .slice A5 x2.length c5]) (by kernel_rfl) (by kernel_rfl) (by kernel_rfl) ?_ _ (.inr rfl)
   exact fun w' hs' => ⟨_, rfl, I3, A4, c4, cs4, A5, c5, cs5, rfl, ((hs'.fin.selB [0] (by kernel_rfl)).sel [0, 1] (by kernel_rfl)), (Reps.ext hi3 hp1), hp2⟩
  ·intro Q_1 hJ2 hQ2
   obtain ⟨y2, H, HK2⟩ := bnd H
   refine OK.bk 2 ?_
   refine OK.sub (K' := [(1, pt gb0 0), (4, pt nx0 0), (5, i6 t1), (6, pt c3 0), (42, i6 ((List.replicate (t2).toNat (0 : Int)).length : Int)), (43, i6 0)]) (L' := [⟨gb0, ((arrV (Value.int .i64) 0 12 b0.f0) ++ ((arrV (Value.int .i64) 0 12 b0.f1) ++ (arrV (Value.int .i64) 0 12 b0.f2))), 89⟩, ⟨nx0, [.slice none 0 0, .slice none 0 0], 62⟩, ⟨c3, [.slice A4 x1.length c4, .slice A2 ((List.replicate (t2).toNat (0 : Int)).length) c2], 62⟩]) (by kernel_rfl) (.cons_cons _ (.cons_cons _ (.cons_cons _ .slnil))) (.refl _) ?_
   refine OK.lp (fun n_ K' I' _ L' X' => ∃ (x3 : List Int) (x4 : Int) (A6 : Option Addr) (c6 : Nat) (cs6 : List Value), K' = [(1, pt gb0 0), (4, pt nx0 0), (5, i6 t1), (6, pt c3 0), (42, i6 ((List.replicate (t2).toNat (0 : Int)).length : Int)), (43, i6 x4)] ∧ L' = [⟨gb0, ((arrV (Value.int .i64) 0 12 b0.f0) ++ ((arrV (Value.int .i64) 0 12 b0.f1) ++ (arrV (Value.int .i64) 0 12 b0.f2))), 89⟩, ⟨nx0, [.slice none 0 0, .slice none 0 0], 62⟩, ⟨c3, [.slice A4 x1.length c4, .slice A6 x3.length c6], 62⟩] ∧ X' = [orow 2 1 A4 x1.length c4 cs4, orow 2 1 A6 x3.length c6 cs6] ∧ Imm.le I2 I' ∧ Reps (Ty.int .i64) I' x3 cs6 ∧ assign_dualss0.l1 b0 t1 t2 n_ x3 x4 = some y2) k ⟨(List.replicate (t2).toNat (0 : Int)), 0, A2, c2, cs2, rfl, rfl, rfl, (Imm.le_refl _), (Reps.ext hi2 hf2), H⟩ ?_ ?_
   ·rintro _ _ _ _ _ ⟨x3, x4, A6, c6, cs6, rfl, rfl, rfl, _, hp3, H⟩
    cases H
   ·rintro kq1 _ I4 nx5 _ _ ⟨x3, x4, A6, c6, cs6, rfl, rfl, rfl, hi4, hp3, H⟩ Q_l1 hJ3 hQ3
    rw [assign_dualss0.l1] at H
    refine OK.sr ?_
    refine RL.st 1 [(44, .bool (decide (x4 < ((List.replicate (t2).toNat (0 : Int)).length : Int)))), (1, pt gb0 0), (4, pt nx0 0), (5, i6 t1), (6, pt c3 0), (42, i6 ((List.replicate (t2).toNat (0 : Int)).length : Int)), (43, i6 x4)] ?_
    refine OK.sq ?_
    refine OK.cd (decide (x4 < ((List.replicate (t2).toNat (0 : Int)).length : Int))) (fun hb => ?_) (fun hb => ?_)
    ·skip
     have hc := (of_decide_eq_true hb)
     rw [if_pos hc] at H
     clear hb
     refine OK.skt ?_
     refine OK.sq ?_
     refine OK.bk 3 ?_
     refine OK.sr ?_
     refine RL.st 2 [(8, i6 x4), (1, pt gb0 0), (4, pt nx0 0), (5, i6 t1), (6, pt c3 0), (42, i6 ((List.replicate (t2).toNat (0 : Int)).length : Int)), (43, i6 x4)] ?_
     obtain ⟨hi0_1, H⟩ := ifs H
     obtain ⟨hi1_1, H⟩ := ifs H
     refine OK.drawnC 11 11 O51s0_49 a51s0_49n (by kernel_rfl) (by kernel_rfl) u51d2l (u51d2g gb0 x4) [(⟨gb0, 24 + (x4).toNat * 1, none⟩, i6 (b0.f2.getD ((x4).toNat) 0))] (RI.arr (g := gb0) (ty := 89) (cs := ((arrV (Value.int .i64) 0 12 b0.f0) ++ ((arrV (Value.int .i64) 0 12 b0.f1) ++ (arrV (Value.int .i64) 0 12 b0.f2)))) (Value.int .i64) 0 12 b0.f2 ((arrV (Value.int .i64) 0 12 b0.f0) ++ (arrV (Value.int .i64) 0 12 b0.f1)) [] 24 ((x4).toNat) 0 (by kernel_rfl) (by kernel_rfl) (by kernel_rfl) (by omega) (24 + (x4).toNat * 1) (by omega) (RI.nil _)) [.no, .l 2, .no, .no, .no, .no, .no, .no, .r 0, .no, .no] a51s0_49 a51s0_49o (by kernel_rfl) (by kernel_rfl) (u51d2s gb0 b0 t1 c3 x3 A6 c6 x4) (u51d2f nx0 gb0 b0 t1 t2 c3 x3 A6 c6 x4 11) (u51d2v nx0 gb0 b0 t1 t2 c3 x1 A4 c4 x3 A6 c6 x4) (u51d2e nx0 gb0 b0 t1 t2 c3 x1 A4 c4 x3 A6 c6 x4) [] framesOk.nil ?_ [u51d2f nx0 gb0 b0 t1 t2 c3 x3 A6 c6 x4 7] (framesOk.cons (fun u => rfl) framesOk.nil) ?_ ?_
     ·refine LoudsG.nil
     ·refine Givens.cons (fun u w =>  ?_) (fun _ _ _ => rfl) (Givens.nil)
      ·exact giv_idxArr (T := 83) (e := 2) 1 .i64 x4 gb0 (24) 12 (by kernel_rfl) (by kernel_rfl) (by kernel_rfl) hi0_1 hi1_1 w
     intro u I5 nx6 hi5 hF
     clear hF
     refine RL.norm (K' := [(56, i6 (W .i64 ((b0.f2.getD ((x4).toNat) 0) - t1))), (55, i6 t1), (54, i6 (b0.f2.getD ((x4).toNat) 0)), (53, pt gb0 (24 + (x4).toNat * 1)), (52, pt gb0 24), (51, pt gb0 0), (50, i6 x4), (49, pt gb0 0), (48, i6 x4), (47, .slice A6 x3.length c6), (46, pt c3 1), (8, i6 x4), (1, pt gb0 0), (4, pt nx0 0), (5, i6 t1), (6, pt c3 0), (42, i6 ((List.replicate (t2).toNat (0 : Int)).length : Int)), (43, i6 x4)]) (X' := [orow 2 1 A4 x1.length c4 cs4, orow 2 1 A6 x3.length c6 cs6]) (by kernel_rfl) rfl rfl rfl ?_
     obtain ⟨hib0, H⟩ := ifs H
     obtain ⟨hib1, H⟩ := ifs H
     have hx01_ := hib0; have hx11_ := hib1
     refine RL.ownAddr (e := 2) (sz := 1) (S := A6) (n := x3.length) (cap := c6) (cs := cs6) 1 (by kernel_rfl) (by omega) (fun g1_ hA1_ => ?_)
     have hc1_ := Ty.int_own (Reps.ext hi5 hp3) x4 hib0 hib1
     refine RL.idx 1 .i64 x4 hA1_ x3.length c6 (some 57) (by kernel_rfl) (by kernel_rfl) (T := 27) (e := 2) (by kernel_rfl) (by kernel_rfl) hib0 hib1 (K' := [(57, pt g1_ (0 + (x4).toNat * 1)), (56, i6 (W .i64 ((b0.f2.getD ((x4).toNat) 0) - t1))), (55, i6 t1), (54, i6 (b0.f2.getD ((x4).toNat) 0)), (53, pt gb0 (24 + (x4).toNat * 1)), (52, pt gb0 24), (51, pt gb0 0), (50, i6 x4), (49, pt gb0 0), (48, i6 x4), (47, .slice A6 x3.length c6), (46, pt c3 1), (8, i6 x4), (1, pt gb0 0), (4, pt nx0 0), (5, i6 t1), (6, pt c3 0), (42, i6 ((List.replicate (t2).toNat (0 : Int)).length : Int)), (43, i6 x4)]) (by kernel_rfl) ?_
     refine RL.storeL (T := 2) (e := 2) 1 1 hA1_ c6 x4 cs6 [i6 (W .i64 ((b0.f2.getD ((x4).toNat) 0) - t1))] (i6 (W .i64 ((b0.f2.getD ((x4).toNat) 0) - t1))) (Ty.int .i64) x3 (W .i64 ((b0.f2.getD ((x4).toNat) 0) - t1)) (by kernel_rfl) (by kernel_rfl) (by kernel_rfl) (by kernel_rfl) (by kernel_rfl) rfl (by kernel_rfl) (Reps.ext hi5 hp3) hx01_ hx11_ (fun cs7 hp4 => ?_)
     refine RL.sub (K' := [(56, i6 (W .i64 ((b0.f2.getD ((x4).toNat) 0) - t1))), (55, i6 t1), (54, i6 (b0.f2.getD ((x4).toNat) 0)), (53, pt gb0 (24 + (x4).toNat * 1)), (52, pt gb0 24), (51, pt gb0 0), (50, i6 x4), (49, pt gb0 0), (48, i6 x4), (47, .slice A6 x3.length c6), (46, pt c3 1), (8, i6 x4), (1, pt gb0 0), (4, pt nx0 0), (5, i6 t1), (6, pt c3 0), (42, i6 ((List.replicate (t2).toNat (0 : Int)).length : Int)), (43, i6 x4)]) (L' := [⟨gb0, ((arrV (Value.int .i64) 0 12 b0.f0) ++ ((arrV (Value.int .i64) 0 12 b0.f1) ++ (arrV (Value.int .i64) 0 12 b0.f2))), 89⟩, ⟨nx0, [.slice none 0 0, .slice none 0 0], 62⟩, ⟨c3, [.slice A4 x1.length c4, .slice A6 x3.length c6], 62⟩]) (X' := [orow 2 1 A4 x1.length c4 cs4, orow 2 1 A6 ((x3.set (x4).toNat (W .i64 ((b0.f2.getD ((x4).toNat) 0) - t1))).length) c6 cs7]) (by kernel_rfl) (.refl _) (.refl _) ?_
     refine RL.norm (K' := [(56, i6 (W .i64 ((b0.f2.getD ((x4).toNat) 0) - t1))), (55, i6 t1), (54, i6 (b0.f2.getD ((x4).toNat) 0)), (53, pt gb0 (24 + (x4).toNat * 1)), (52, pt gb0 24), (51, pt gb0 0), (50, i6 x4), (49, pt gb0 0), (48, i6 x4), (47, .slice A6 ((x3.set (x4).toNat (W .i64 ((b0.f2.getD ((x4).toNat) 0) - t1))).length) c6), (46, pt c3 1), (8, i6 x4), (1, pt gb0 0), (4, pt nx0 0), (5, i6 t1), (6, pt c3 0), (42, i6 ((List.replicate (t2).toNat (0 : Int)).length : Int)), (43, i6 x4)]) (L' := [⟨gb0, ((arrV (Value.int .i64) 0 12 b0.f0) ++ ((arrV (Value.int .i64) 0 12 b0.f1) ++ (arrV (Value.int .i64) 0 12 b0.f2))), 89⟩, ⟨nx0, [.slice none 0 0, .slice none 0 0], 62⟩, ⟨c3, [.slice A4 x1.length c4, .slice A6 ((x3.set (x4).toNat (W .i64 ((b0.f2.getD ((x4).toNat) 0) - t1))).length) c6], 62⟩]) (by simp only [List.length_set]) rfl (by first | rfl | simp only [List.length_set]) rfl ?_
     refine RL.nil (by kernel_rfl) ?_
     refine QN.sub (K' := [(1, pt gb0 0), (4, pt nx0 0), (5, i6 t1), (6, pt c3 0), (42, i6 ((List.replicate (t2).toNat (0 : Int)).length : Int)), (43, i6 x4)]) (L' := [⟨gb0, ((arrV (Value.int .i64) 0 12 b0.f0) ++ ((arrV (Value.int .i64) 0 12 b0.f1) ++ (arrV (Value.int .i64) 0 12 b0.f2))), 89⟩, ⟨nx0, [.slice none 0 0, .slice none 0 0], 62⟩, ⟨c3, [.slice A4 x1.length c4, .slice A6 ((x3.set (x4).toNat (W .i64 ((b0.f2.getD ((x4).toNat) 0) - t1))).length) c6], 62⟩]) (by kernel_rfl) (.cons_cons _ (.cons_cons _ (.cons_cons _ .slnil))) (.refl _) ?_
     refine QN.blkN ?_
     refine QN.then_ ?_
     refine OK.rg ?_
     refine RL.s 2 [(43, i6 (W .i64 (x4 + 1))), (1, pt gb0 0), (4, pt nx0 0), (5, i6 t1), (6, pt c3 0), (42, i6 ((List.replicate (t2).toNat (0 : Int)).length : Int))] ?_
     refine RL.nil (by kernel_rfl) ?_
     exact QN.sb (hJ3 _ _ _ _ _ ⟨x3.set (x4).toNat (W .i64 ((b0.f2.getD ((x4).toNat) 0) - t1)), W .i64 (x4 + 1), A6, c6, cs7, rfl, rfl, rfl, (Imm.le_trans hi4 hi5), hp4, H⟩) (.cons_cons _ (.cons_cons _ (.cons_cons _ .slnil))) (.refl _)
    ·skip
     have hc := (of_decide_eq_false hb)
     rw [if_neg hc] at H
     clear hb
     refine OK.ex 2 ?_
     refine QN.thenE ?_
     refine QN.outE hQ3 ?_
     refine QN.blkE ?_
     obtain rfl := Option.some.inj H
     exact QN.sb (hJ2 _ _ _ _ _ ⟨x3, A6, c6, cs6, rfl, rfl, rfl, hi4, hp3, HK2⟩) (.cons_cons _ (.cons_cons _ (.cons_cons _ .slnil))) (.refl _)
 ·intro Q_2 hJ1 hQ1
  obtain ⟨y1, H, HK1⟩ := bnd H
  refine OK.bk 0 ?_
  refine OK.sub (K' := [(1, pt gb0 0), (4, pt nx0 0), (5, i6 t1), (6, pt c3 0), (23, i6 ((List.replicate ((a0.length : Int)).toNat (0 : Int)).length : Int)), (24, i6 0)]) (L' := [⟨gb0, ((arrV (Value.int .i64) 0 12 b0.f0) ++ ((arrV (Value.int .i64) 0 12 b0.f1) ++ (arrV (Value.int .i64) 0 12 b0.f2))), 89⟩, ⟨nx0, [.slice none 0 0, .slice none 0 0], 62⟩, ⟨c3, [.slice A1 ((List.replicate ((a0.length : Int)).toNat (0 : Int)).length) c1, .slice A2 ((List.replicate (t2).toNat (0 : Int)).length) c2], 62⟩]) (by kernel_rfl) (.cons_cons _ (.cons_cons _ (.cons_cons _ .slnil))) (.refl _) ?_
  refine OK.lp (fun n_ K' I' _ L' X' => ∃ (x5 : List Int) (x6 : Int) (A7 : Option Addr) (c7 : Nat) (cs8 : List Value), K' = [(1, pt gb0 0), (4, pt nx0 0), (5, i6 t1), (6, pt c3 0), (23, i6 ((List.replicate ((a0.length : Int)).toNat (0 : Int)).length : Int)), (24, i6 x6)] ∧ L' = [⟨gb0, ((arrV (Value.int .i64) 0 12 b0.f0) ++ ((arrV (Value.int .i64) 0 12 b0.f1) ++ (arrV (Value.int .i64) 0 12 b0.f2))), 89⟩, ⟨nx0, [.slice none 0 0, .slice none 0 0], 62⟩, ⟨c3, [.slice A7 x5.length c7, .slice A2 ((List.replicate (t2).toNat (0 : Int)).length) c2], 62⟩] ∧ X' = [orow 2 1 A7 x5.length c7 cs8, orow 2 1 A2 ((List.replicate (t2).toNat (0 : Int)).length) c2 cs2] ∧ Imm.le I1 I' ∧ Reps (Ty.int .i64) I' x5 cs8 ∧ assign_dualss0.l2 a0 b0 t1 n_ x5 x6 = some y1) k ⟨(List.replicate ((a0.length : Int)).toNat (0 : Int)), 0, A1, c1, cs1, rfl, rfl, rfl, (Imm.le_refl _), hf1, H⟩ ?_ ?_
  ·rintro _ _ _ _ _ ⟨x5, x6, A7, c7, cs8, rfl, rfl, rfl, _, hp5, H⟩
   cases H
  ·rintro kq2 _ I6 nx7 _ _ ⟨x5, x6, A7, c7, cs8, rfl, rfl, rfl, hi6, hp5, H⟩ Q_l2 hJ4 hQ4
   rw [assign_dualss0.l2] at H
   refine OK.sr ?_
   refine RL.st 1 [(25, .bool (decide (x6 < ((List.replicate ((a0.length : Int)).toNat (0 : Int)).length : Int)))), (1, pt gb0 0), (4, pt nx0 0), (5, i6 t1), (6, pt c3 0), (23, i6 ((List.replicate ((a0.length : Int)).toNat (0 : Int)).length : Int)), (24, i6 x6)] ?_
   refine OK.sq ?_
   refine OK.cd (decide (x6 < ((List.replicate ((a0.length : Int)).toNat (0 : Int)).length : Int))) (fun hb => ?_) (fun hb => ?_)
   ·skip
    have hc := (of_decide_eq_true hb)
    rw [if_pos hc] at H
    clear hb
    refine OK.skt ?_
    refine OK.sq ?_
    refine OK.bk 1 ?_
    refine OK.sr ?_
    refine RL.st 2 [(7, i6 x6), (1, pt gb0 0), (4, pt nx0 0), (5, i6 t1), (6, pt c3 0), (23, i6 ((List.replicate ((a0.length : Int)).toNat (0 : Int)).length : Int)), (24, i6 x6)] ?_
    obtain ⟨hi0_2, H⟩ := ifs H
    obtain ⟨hi1_2, H⟩ := ifs H
    refine OK.drawnC 6 11 O51s0_27 a51s0_27n (by kernel_rfl) (by kernel_rfl) u51d3l (u51d3g gb0 x6) [(⟨gb0, 12 + (x6).toNat * 1, none⟩, i6 (b0.f1.getD ((x6).toNat) 0))] (RI.arr (g := gb0) (ty := 89) (cs := ((arrV (Value.int .i64) 0 12 b0.f0) ++ ((arrV (Value.int .i64) 0 12 b0.f1) ++ (arrV (Value.int .i64) 0 12 b0.f2)))) (Value.int .i64) 0 12 b0.f1 (arrV (Value.int .i64) 0 12 b0.f0) (arrV (Value.int .i64) 0 12 b0.f2) 12 ((x6).toNat) 0 (by kernel_rfl) (by kernel_rfl) (by kernel_rfl) (by omega) (12 + (x6).toNat * 1) (by omega) (RI.nil _)) [.no, .l 2, .no, .no, .no, .no, .no, .no, .r 0, .no, .no] a51s0_27 a51s0_27o (by kernel_rfl) (by kernel_rfl) (u51d3s gb0 b0 t1 c3 x5 A7 c7 x6) (u51d3f nx0 gb0 a0 b0 t1 c3 x5 A7 c7 x6 11) (u51d3v nx0 gb0 a0 b0 t1 t2 A2 c2 c3 x5 A7 c7 x6) (u51d3e nx0 gb0 a0 b0 t1 t2 A2 c2 c3 x5 A7 c7 x6) [] framesOk.nil ?_ [u51d3f nx0 gb0 a0 b0 t1 c3 x5 A7 c7 x6 7] (framesOk.cons (fun u => rfl) framesOk.nil) ?_ ?_
    ·refine LoudsG.nil
    ·refine Givens.cons (fun u w =>  ?_) (fun _ _ _ => rfl) (Givens.nil)
     ·exact giv_idxArr (T := 83) (e := 2) 1 .i64 x6 gb0 (12) 12 (by kernel_rfl) (by kernel_rfl) (by kernel_rfl) hi0_2 hi1_2 w
    intro u I7 nx8 hi7 hF
    clear hF
    refine RL.norm (K' := [(37, i6 (W .i64 ((b0.f1.getD ((x6).toNat) 0) + t1))), (36, i6 t1), (35, i6 (b0.f1.getD ((x6).toNat) 0)), (34, pt gb0 (12 + (x6).toNat * 1)), (33, pt gb0 12), (32, pt gb0 0), (31, i6 x6), (30, pt gb0 0), (29, i6 x6), (28, .slice A7 x5.length c7), (27, pt c3 0), (7, i6 x6), (1, pt gb0 0), (4, pt nx0 0), (5, i6 t1), (6, pt c3 0), (23, i6 ((List.replicate ((a0.length : Int)).toNat (0 : Int)).length : Int)), (24, i6 x6)]) (X' := [orow 2 1 A7 x5.length c7 cs8, orow 2 1 A2 ((List.replicate (t2).toNat (0 : Int)).length) c2 cs2]) (by kernel_rfl) rfl rfl rfl ?_
    obtain ⟨hib0, H⟩ := ifs H
    obtain ⟨hib1, H⟩ := ifs H
    have hx02_ := hib0; have hx12_ := hib1
    refine RL.ownAddr (e := 2) (sz := 1) (S := A7) (n := x5.length) (cap := c7) (cs := cs8) 0 (by kernel_rfl) (by omega) (fun g2_ hA2_ => ?_)
    have hc2_ := Ty.int_own (Reps.ext hi7 hp5) x6 hib0 hib1
    refine RL.idx 1 .i64 x6 hA2_ x5.length c7 (some 38) (by kernel_rfl) (by kernel_rfl) (T := 27) (e := 2) (by kernel_rfl) (by kernel_rfl) hib0 hib1 (K' := [(38, pt g2_ (0 + (x6).toNat * 1)), (37, i6 (W .i64 ((b0.f1.getD ((x6).toNat) 0) + t1))), (36, i6 t1), (35, i6 (b0.f1.getD ((x6).toNat) 0)), (34, pt gb0 (12 + (x6).toNat * 1)), (33, pt gb0 12), (32, pt gb0 0), (31, i6 x6), (30, pt gb0 0), (29, i6 x6), (28, .slice A7 x5.length c7), (27, pt c3 0), (7, i6 x6), (1, pt gb0 0), (4, pt nx0 0), (5, i6 t1), (6, pt c3 0), (23, i6 ((List.replicate ((a0.length : Int)).toNat (0 : Int)).length : Int)), (24, i6 x6)]) (by kernel_rfl) ?_
    refine RL.storeL (T := 2) (e := 2) 1 0 hA2_ c7 x6 cs8 [i6 (W .i64 ((b0.f1.getD ((x6).toNat) 0) + t1))] (i6 (W .i64 ((b0.f1.getD ((x6).toNat) 0) + t1))) (Ty.int .i64) x5 (W .i64 ((b0.f1.getD ((x6).toNat) 0) + t1)) (by kernel_rfl) (by kernel_rfl) (by kernel_rfl) (by kernel_rfl) (by kernel_rfl) rfl (by kernel_rfl) (Reps.ext hi7 hp5) hx02_ hx12_ (fun cs9 hp6 => ?_)
    refine RL.sub (K' := [(37, i6 (W .i64 ((b0.f1.getD ((x6).toNat) 0) + t1))), (36, i6 t1), (35, i6 (b0.f1.getD ((x6).toNat) 0)), (34, pt gb0 (12 + (x6).toNat * 1)), (33, pt gb0 12), (32, pt gb0 0), (31, i6 x6), (30, pt gb0 0), (29, i6 x6), (28, .slice A7 x5.length c7), (27, pt c3 0), (7, i6 x6), (1, pt gb0 0), (4, pt nx0 0), (5, i6 t1), (6, pt c3 0), (23, i6 ((List.replicate ((a0.length : Int)).toNat (0 : Int)).length : Int)), (24, i6 x6)]) (L' := [⟨gb0, ((arrV (Value.int .i64) 0 12 b0.f0) ++ ((arrV (Value.int .i64) 0 12 b0.f1) ++ (arrV (Value.int .i64) 0 12 b0.f2))), 89⟩, ⟨nx0, [.slice none 0 0, .slice none 0 0], 62⟩, ⟨c3, [.slice A7 x5.length c7, .slice A2 ((List.replicate (t2).toNat (0 : Int)).length) c2], 62⟩]) (X' := [orow 2 1 A7 ((x5.set (x6).toNat (W .i64 ((b0.f1.getD ((x6).toNat) 0) + t1))).length) c7 cs9, orow 2 1 A2 ((List.replicate (t2).toNat (0 : Int)).length) c2 cs2]) (by kernel_rfl) (.refl _) (.refl _) ?_
    refine RL.norm (K' := [(37, i6 (W .i64 ((b0.f1.getD ((x6).toNat) 0) + t1))), (36, i6 t1), (35, i6 (b0.f1.getD ((x6).toNat) 0)), (34, pt gb0 (12 + (x6).toNat * 1)), (33, pt gb0 12), (32, pt gb0 0), (31, i6 x6), (30, pt gb0 0), (29, i6 x6), (28, .slice A7 ((x5.set (x6).toNat (W .i64 ((b0.f1.getD ((x6).toNat) 0) + t1))).length) c7), (27, pt c3 0), (7, i6 x6), (1, pt gb0 0), (4, pt nx0 0), (5, i6 t1), (6, pt c3 0), (23, i6 ((List.replicate ((a0.length : Int)).toNat (0 : Int)).length : Int)), (24, i6 x6)]) (L' := [⟨gb0, ((arrV (Value.int .i64) 0 12 b0.f0) ++ ((arrV (Value.int .i64) 0 12 b0.f1) ++ (arrV (Value.int .i64) 0 12 b0.f2))), 89⟩, ⟨nx0, [.slice none 0 0, .slice none 0 0], 62⟩, ⟨c3, [.slice A7 ((x5.set (x6).toNat (W .i64 ((b0.f1.getD ((x6).toNat) 0) + t1))).length) c7, .slice A2 ((List.replicate (t2).toNat (0 : Int)).length) c2], 62⟩]) (by simp only [List.length_set]) rfl (by first | rfl | simp only [List.length_set]) rfl ?_
    refine RL.nil (by kernel_rfl) ?_
    refine QN.sub (K' := [(1, pt gb0 0), (4, pt nx0 0), (5, i6 t1), (6, pt c3 0), (23, i6 ((List.replicate ((a0.length : Int)).toNat (0 : Int)).length : Int)), (24, i6 x6)]) (L' := [⟨gb0, ((arrV (Value.int .i64) 0 12 b0.f0) ++ ((arrV (Value.int .i64) 0 12 b0.f1) ++ (arrV (Value.int .i64) 0 12 b0.f2))), 89⟩, ⟨nx0, [.slice none 0 0, .slice none 0 0], 62⟩, ⟨c3, [.slice A7 ((x5.set (x6).toNat (W .i64 ((b0.f1.getD ((x6).toNat) 0) + t1))).length) c7, .slice A2 ((List.replicate (t2).toNat (0 : Int)).length) c2], 62⟩]) (by kernel_rfl) (.cons_cons _ (.cons_cons _ (.cons_cons _ .slnil))) (.refl _) ?_
    refine QN.blkN ?_
    refine QN.then_ ?_
    refine OK.rg ?_
    refine RL.s 2 [(24, i6 (W .i64 (x6 + 1))), (1, pt gb0 0), (4, pt nx0 0), (5, i6 t1), (6, pt c3 0), (23, i6 ((List.replicate ((a0.length : Int)).toNat (0 : Int)).length : Int))] ?_
    refine RL.nil (by kernel_rfl) ?_
    exact QN.sb (hJ4 _ _ _ _ _ ⟨x5.set (x6).toNat (W .i64 ((b0.f1.getD ((x6).toNat) 0) + t1)), W .i64 (x6 + 1), A7, c7, cs9, rfl, rfl, rfl, (Imm.le_trans hi6 hi7), hp6, H⟩) (.cons_cons _ (.cons_cons _ (.cons_cons _ .slnil))) (.refl _)
   ·skip
    have hc := (of_decide_eq_false hb)
    rw [if_neg hc] at H
    clear hb
    refine OK.ex 0 ?_
    refine QN.thenE ?_
    refine QN.outE hQ4 ?_
    refine QN.blkE ?_
    obtain rfl := Option.some.inj H
    exact QN.sb (hJ1 _ _ _ _ _ ⟨x5, A7, c7, cs8, rfl, rfl, rfl, hi6, hp5, HK1⟩) (.cons_cons _ (.cons_cons _ (.cons_cons _ .slnil))) (.refl _)

end Go.Proofs.Ytihmbmeelheinaa
namespace Go.Proofs.Ytihmbmeelheinaa
open Go Go.Proofs.Ytihmbmeelheinaa.RW
set_option linter.unusedVariables false
set_option maxRecDepth 100000
set_option maxHeartbeats 8000000

/-! ### assign_Solve: function 33, armillary/assign.Solve -/
noncomputable def K33_0 : Code := cBody Try.f33
noncomputable def O33_13 : List Oper := cOps (cL (cR (cR (cR (cR K33_0)))))
def assign_Solve.k1 (k : Nat) (a0 : List (List Int)) (t3 : S89) (x1 : List Int) : Option (List Int × S62) := ((assign_dualss0.f k a0 t3).bind fun t5 => (some (x1, t5)))
def assign_Solve.k3  : List Bool × Int × List Int → Option (List Bool × Int × List Int)
 | (x9, x10, x11) => (some (x9, x10, x11))
def assign_Solve.l2 (a0 : List (List Int)) (x3 : Int) (x4 : List Int) (x5 : Int) : Nat → (List Bool) → Int → Option (List Bool × Int × List Int)
 | 0, _, _ => none
 | k + 1, x12, x13 => (if x13 < ((a0.getD (x5).toNat []).length : Int) then (if 0 ≤ x13 then (if x13 < ((a0.getD (x5).toNat []).length : Int) then (if 0 ≤ x13 then (if x13 < (x12.length : Int) then (if (x12.getD (x13).toNat false) = true then (assign_Solve.l2 a0 x3 x4 x5 k x12 (W .i64 (x13 + 1))) else (if 0 ≤ x13 then (if x13 < (x12.length : Int) then ((assign_best.f k a0 (W .i64 (x5 + 1)) (x12.set (x13).toNat true)).bind fun t6 => (if (W .i64 (((a0.getD (x5).toNat []).getD (x13).toNat 0) + t6)) = x3 then (if 0 ≤ x5 then (if x5 < ((x4.set (x5).toNat (-1)).length : Int) then (some (x12.set (x13).toNat true, t6, (x4.set (x5).toNat (-1)).set (x5).toNat x13)) else none) else none) else (if 0 ≤ x13 then (if x13 < ((x12.set (x13).toNat true).length : Int) then (assign_Solve.l2 a0 x3 x4 x5 k ((x12.set (x13).toNat true).set (x13).toNat false) (W .i64 (x13 + 1))) else none) else none))) else none) else none)) else none) else none) else none) else none) else (some (x12, x3, x4.set (x5).toNat (-1))))
def assign_Solve.l1 (a0 : List (List Int)) : Nat → (List Bool) → Int → (List Int) → Int → Option (List Int)
 | 0, _, _, _, _ => none
 | k + 1, x2, x3, x4, x5 => (if x5 < (a0.length : Int) then ((if 0 ≤ x5 then (if x5 < (x4.length : Int) then (if 0 ≤ x5 then (if x5 < (a0.length : Int) then ((assign_Solve.l2 a0 x3 x4 x5 k x2 0).bind (assign_Solve.k3)) else none) else none) else none) else none).bind (fun (x6, x7, x8) => (assign_Solve.l1 a0 k x6 x7 x8 (W .i64 (x5 + 1))))) else (some x4))
def assign_Solve.f (k : Nat) (a0 : List (List Int)) : Option (List Int × S62) := ((assign_columns.f a0).bind fun t1 => (if 0 ≤ t1 then (if t1 ≤ 281474976710656 then ((assign_pad.f k a0 0 (List.replicate (t1).toNat (false : Bool))).bind fun t2 => ((assign_hungarians0.f k t2).bind fun t3 => ((assign_solution_values0.f k t3 t2).bind fun t4 => (if 0 ≤ (a0.length : Int) then (if (a0.length : Int) ≤ 35184372088832 then ((assign_Solve.l1 a0 k (List.replicate (t1).toNat (false : Bool)) t4 (List.replicate ((a0.length : Int)).toNat (0 : Int)) 0).bind (assign_Solve.k1 k a0 t3)) else none) else none)))) else none) else none))
def assign_Solve.Post (I : Imm) (w : World) (r : List Int × S62) (v : Value) (w' : World) : Prop :=
 ∃ (J : Imm) (A0 : Option Addr) (c0 : Nat) (cs0 : List Value) (A1_0 : Option Addr) (c1_0 : Nat) (cs1_0 : List Value) (A1_1 : Option Addr) (c1_1 : Nat) (cs1_1 : List Value), v = .tuple #[.slice A0 r.1.length c0, .agg #[.slice A1_0 r.2.f0.length c1_0, .slice A1_1 r.2.f1.length c1_1]] ∧ Got w w' I J [orow 3 1 A0 r.1.length c0 cs0, orow 2 1 A1_0 r.2.f0.length c1_0 cs1_0, orow 2 1 A1_1 r.2.f1.length c1_1 cs1_1] ∧ Reps (Ty.int .i64) J r.1 cs0 ∧ Reps (Ty.int .i64) J r.2.f0 cs1_0 ∧ Reps (Ty.int .i64) J r.2.f1 cs1_1
noncomputable def a33_13n : List Nat := [0, 0, 2, 6, 1, 31]
theorem a33_13 : ancs O33_13 [] = a33_13n := by kernel_rfl
theorem a33_13o : drawOk O33_13 a33_13n 5 = true := by kernel_rfl
noncomputable def u33d1l (a0 : List (List Int)) (t4 : Int) : List Ld :=
 [⟨0, fun x => i6 t4, fun x => [], fun x J => True, fun x J J' h f => trivial⟩,
  ⟨3, fun x => .slice ((x 0).1) ((List.replicate ((a0.length : Int)).toNat (0 : Int)).length) ((x 0).2.1), fun x => [orow 3 1 (x 0).1 (List.replicate ((a0.length : Int)).toNat (0 : Int)).length (x 0).2.1 (x 0).2.2], fun x J => Reps (Ty.int .i64) J (List.replicate ((a0.length : Int)).toNat (0 : Int)) (x 0).2.2 ∧ True, fun x J J' h f => ⟨Reps.ext h f.1, trivial⟩⟩]
noncomputable def u33d1g  : List (Nat × ((Nat → Wt) → Value)) := []
noncomputable def u33d1q (a0 : List (List Int)) (Ap0 : Option Addr) (cp0 : Nat) (nx0 : Nat) (t1 : Int) (nx1 : Nat) (t2 : List Int) (nx3 : Nat) (t3 : S89) (nx4 : Nat) (t4 : Int) (u : Nat → Wt) : Option (List Value × List (Nat × Value) × List (Nat × Nat)) := qSim Try.prog [] [⟨nx3, arrV (Value.int .i64) 0 144 t2, 85⟩, ⟨nx0, [.slice none 0 0, .slice none 0 0], 62⟩, ⟨nx4, ((arrV (Value.int .i64) 0 12 t3.f0) ++ ((arrV (Value.int .i64) 0 12 t3.f1) ++ (arrV (Value.int .i64) 0 12 t3.f2))), 89⟩] O33_13 ⟨72, []⟩ (Ld.vl (u33d1l a0 t4)) u33d1g u [.no, .no, .no, .no, .no] 0 (O33_13.take 5) [(6, pt nx4 0), (5, pt nx3 0), (4, .slice (some ⟨nx1, 0, none⟩) ((List.replicate (t1).toNat (false : Bool)).length) ((List.replicate (t1).toNat (false : Bool)).length)), (3, pt nx0 0), (0, .slice Ap0 a0.length cp0)]
noncomputable def u33d1s (a0 : List (List Int)) (Ap0 : Option Addr) (cp0 : Nat) (t4 : Int) (u : Nat → Wt) : List Value := [i6 t4, .slice Ap0 a0.length cp0, i6 (a0.length : Int), .slice ((u 3 0).1) ((List.replicate ((a0.length : Int)).toNat (0 : Int)).length) ((u 3 0).2.1), i6 t4]
noncomputable def u33d1f (a0 : List (List Int)) (Ap0 : Option Addr) (cp0 : Nat) (nx0 : Nat) (t1 : Int) (nx1 : Nat) (nx3 : Nat) (nx4 : Nat) (t4 : Int) (i : Nat) (u : Nat → Wt) : List (Nat × Value) := foldPut ⟨72, []⟩ [(6, pt nx4 0), (5, pt nx3 0), (4, .slice (some ⟨nx1, 0, none⟩) ((List.replicate (t1).toNat (false : Bool)).length) ((List.replicate (t1).toNat (false : Bool)).length)), (3, pt nx0 0), (0, .slice Ap0 a0.length cp0)] (O33_13.take i) (((u33d1s a0 Ap0 cp0 t4) u).take i)
theorem u33d1v (a0 : List (List Int)) (Ap0 : Option Addr) (cp0 : Nat) (nx0 : Nat) (t1 : Int) (nx1 : Nat) (t2 : List Int) (nx3 : Nat) (t3 : S89) (nx4 : Nat) (t4 : Int) (u : Nat → Wt) : (u33d1q a0 Ap0 cp0 nx0 t1 nx1 t2 nx3 t3 nx4 t4 u).map (fun x => (x.1, x.2.1)) = some ((u33d1s a0 Ap0 cp0 t4) u, (u33d1f a0 Ap0 cp0 nx0 t1 nx1 nx3 nx4 t4 5) u) := by kernel_rfl
theorem u33d1e (a0 : List (List Int)) (Ap0 : Option Addr) (cp0 : Nat) (nx0 : Nat) (t1 : Int) (nx1 : Nat) (t2 : List Int) (nx3 : Nat) (t3 : S89) (nx4 : Nat) (t4 : Int) (u : Nat → Wt) : (u33d1q a0 Ap0 cp0 nx0 t1 nx1 t2 nx3 t3 nx4 t4 u).map (fun x => x.2.2.map (·.1)) = (u33d1q a0 Ap0 cp0 nx0 t1 nx1 t2 nx3 t3 nx4 t4 u).map (fun x => x.2.2.map (·.2)) := by kernel_rfl
theorem assign_Solve.calls (k : Nat) (I0 : Imm) (a0 : List (List Int)) (Ap0 : Option Addr) (cp0 : Nat) (w : World) (hI : I0.at_ w) (hlp0 : a0.length ≤ cp0) (hrp0 : Rd (Ty.slice (Ty.int .i64)) I0 Ap0 a0) (r : List Int × S62) (h : assign_Solve.f k a0 = some r) :
  Calls Try.prog 33 [.slice Ap0 a0.length cp0].toArray w fun e w' => ∃ v, e = .returned v ∧ assign_Solve.Post I0 w r v w' := by
 have H : ((assign_columns.f a0).bind fun t1 => (if 0 ≤ t1 then (if t1 ≤ 281474976710656 then ((assign_pad.f k a0 0 (List.replicate (t1).toNat (false : Bool))).bind fun t2 => ((assign_hungarians0.f k t2).bind fun t3 => ((assign_solution_values0.f k t3 t2).bind fun t4 => (if 0 ≤ (a0.length : Int) then (if (a0.length : Int) ≤ 35184372088832 then ((assign_Solve.l1 a0 k (List.replicate (t1).toNat (false : Bool)) t4 (List.replicate ((a0.length : Int)).toNat (0 : Int)) 0).bind (assign_Solve.k1 k a0 t3)) else none) else none)))) else none) else none)) = some r := h
 clear h
 refine calls_body Try.func33 (by kernel_rfl) 72 (by kernel_rfl) (by kernel_rfl) ⟨w, fun _ => False, I0⟩ I0 [] [(0, .slice Ap0 a0.length cp0)] (by kernel_rfl) (Sat.start w _ I0 hI) ?_
 generalize w.heap.size = nx0
 show OK _ K33_0 _ _ _ _ _ _ _ _
 refine OK.sr ?_
 refine RL.spt 2 [(3, pt nx0 0), (0, .slice Ap0 a0.length cp0)] (nx0 + 1) [⟨nx0, [.slice none 0 0, .slice none 0 0], 62⟩] ?_
 refine OK.sr ?_
 refine RL.s 1 [(13, .slice Ap0 a0.length cp0), (3, pt nx0 0), (0, .slice Ap0 a0.length cp0)] ?_
 obtain ⟨t1, hA1, H⟩ := bnd H
 refine RL.callP 46 [.slice Ap0 a0.length cp0] (some 14) (fun w => assign_columns.Post I0 w t1) (by kernel_rfl) (by kernel_rfl) (fun w hs => assign_columns.calls I0 a0 Ap0 cp0 w hs.im hlp0 hrp0 t1 hA1) ?_
 rintro w v w' hs ⟨I1, rfl, hg⟩
 have hi1 := hg.le
 refine RL.resume (X' := []) rfl (hs.call hg) ?_
 clear hs hg
 generalize w'.heap.size = nx1
 clear w w'
 obtain ⟨hm1, H⟩ := ifs H
 obtain ⟨hm2, H⟩ := ifs H
 refine RL.makeL (T := 44) (e := 4) t1 .i64 .i64 (some 15) (.bool false) (false) Ty.bool 1 (by kernel_rfl) (by kernel_rfl) (by kernel_rfl) (by kernel_rfl) (by kernel_rfl) rfl hm1 (by omega) (by omega) (fun nx2 hp1 => ?_)
 refine RL.norm (K' := [(15, .slice (some ⟨nx1, 0, none⟩) ((List.replicate (t1).toNat (false : Bool)).length) ((List.replicate (t1).toNat (false : Bool)).length)), (14, i6 t1), (13, .slice Ap0 a0.length cp0), (3, pt nx0 0), (0, .slice Ap0 a0.length cp0)]) (X' := [orow 4 1 (some ⟨nx1, 0, none⟩) ((List.replicate (t1).toNat (false : Bool)).length) ((List.replicate (t1).toNat (false : Bool)).length) (List.replicate (t1).toNat (.bool false))]) (by kernel_rfl) rfl rfl (by kernel_rfl) ?_
 refine RL.st 1 [(4, .slice (some ⟨nx1, 0, none⟩) ((List.replicate (t1).toNat (false : Bool)).length) ((List.replicate (t1).toNat (false : Bool)).length)), (3, pt nx0 0), (0, .slice Ap0 a0.length cp0)] ?_
 refine OK.sr ?_
 refine RL.s 2 [(17, .slice (some ⟨nx1, 0, none⟩) ((List.replicate (t1).toNat (false : Bool)).length) ((List.replicate (t1).toNat (false : Bool)).length)), (16, .slice Ap0 a0.length cp0), (4, .slice (some ⟨nx1, 0, none⟩) ((List.replicate (t1).toNat (false : Bool)).length) ((List.replicate (t1).toNat (false : Bool)).length)), (3, pt nx0 0), (0, .slice Ap0 a0.length cp0)] ?_
 obtain ⟨t2, hA2, H⟩ := bnd H
 refine RL.callP 47 [.slice Ap0 a0.length cp0, i6 0, .slice (some ⟨nx1, 0, none⟩) ((List.replicate (t1).toNat (false : Bool)).length) ((List.replicate (t1).toNat (false : Bool)).length)] (some 18) (fun w v w' => ∃ I', Imm.le I1 I' ∧ assign_pad.Post I' w t2 v w') (by kernel_rfl) (by kernel_rfl) (fun w hs => ?_) ?_
 ·skip
  obtain ⟨JL1, hj1, hn1, hw1, hs⟩ := Sat.freeze (e := 4) (sz := 1) (S := (some ⟨nx1, 0, none⟩)) (n := (List.replicate (t1).toNat (false : Bool)).length) (cap := (List.replicate (t1).toNat (false : Bool)).length) (m := 0) hs (by kernel_rfl) hp1 rfl
  exact (assign_pad.calls k JL1 a0 Ap0 cp0 0 (List.replicate (t1).toNat (false : Bool)) (some ⟨nx1, 0, none⟩) ((List.replicate (t1).toNat (false : Bool)).length) _ hs.im hlp0 (Rd.ext hj1 (Rd.ext hi1 hrp0)) hn1 hw1 t2 hA2).mono (fun e w' ⟨v, hv, hp⟩ => ⟨v, hv, JL1, hj1, hp⟩)
 rintro w v w' hs ⟨I', hle, J, rfl, hg, hz1⟩
 refine RL.resume (X' := [orow 4 1 (some ⟨nx1, 0, none⟩) ((List.replicate (t1).toNat (false : Bool)).length) ((List.replicate (t1).toNat (false : Bool)).length) (List.replicate (t1).toNat (.bool false))]) rfl (hs.call (hg.back hle)) ?_
 clear hs hg hle I' J
 generalize w'.heap.size = nx3
 clear w w'
 refine RL.simP (K' := [(5, pt nx3 0), (4, .slice (some ⟨nx1, 0, none⟩) ((List.replicate (t1).toNat (false : Bool)).length) ((List.replicate (t1).toNat (false : Bool)).length)), (3, pt nx0 0), (0, .slice Ap0 a0.length cp0)]) (nx' := nx3 + 1) (L' := [⟨nx0, [.slice none 0 0, .slice none 0 0], 62⟩, ⟨nx3, arrV (Value.int .i64) 0 144 t2, 85⟩]) [] (RFacts.nil _ _ _) 2 [.no, .l 1] (by kernel_rfl) (by kernel_rfl) ?_
 refine RL.nt ?_
 refine OK.sr ?_
 refine RL.arrange (L' := [⟨nx3, arrV (Value.int .i64) 0 144 t2, 85⟩, ⟨nx0, [.slice none 0 0, .slice none 0 0], 62⟩]) (X' := [orow 4 1 (some ⟨nx1, 0, none⟩) ((List.replicate (t1).toNat (false : Bool)).length) ((List.replicate (t1).toNat (false : Bool)).length) (List.replicate (t1).toNat (.bool false))]) [1, 0] [0] (by kernel_rfl) (by kernel_rfl) (by kernel_rfl) (by kernel_rfl) ?_
 obtain ⟨t3, hA3, H⟩ := bnd H
 refine RL.callM (L1 := [⟨nx3, arrV (Value.int .i64) 0 144 t2, 85⟩]) (L2 := [⟨nx0, [.slice none 0 0, .slice none 0 0], 62⟩]) (X1 := []) (X2 := [orow 4 1 (some ⟨nx1, 0, none⟩) ((List.replicate (t1).toNat (false : Bool)).length) ((List.replicate (t1).toNat (false : Bool)).length) (List.replicate (t1).toNat (.bool false))]) rfl rfl 48 [pt nx3 0] (some 19) (fun w => assign_hungarians0.Post (SM [⟨nx3, arrV (Value.int .i64) 0 144 t2, 85⟩] []) nx3 t2 I1 w t3) (by kernel_rfl) (by kernel_rfl) (fun w hs => assign_hungarians0.calls k I1 nx3 t2 w hs hz1 t3 hA3) ?_
 rintro w v w' hs ⟨I2, rfl, hg, hz2, hz3, hz4⟩
 have hi2 : Imm.le I1 I2 := hg.le
 refine RL.resume (L' := [⟨nx3, arrV (Value.int .i64) 0 144 t2, 85⟩, ⟨nx0, [.slice none 0 0, .slice none 0 0], 62⟩]) (X' := [orow 4 1 (some ⟨nx1, 0, none⟩) ((List.replicate (t1).toNat (false : Bool)).length) ((List.replicate (t1).toNat (false : Bool)).length) (List.replicate (t1).toNat (.bool false))]) rfl (hs.outof hg) ?_
 clear hs hg
 generalize w'.heap.size = nx4
 clear w w'
 refine RL.simP (K' := [(6, pt nx4 0), (5, pt nx3 0), (4, .slice (some ⟨nx1, 0, none⟩) ((List.replicate (t1).toNat (false : Bool)).length) ((List.replicate (t1).toNat (false : Bool)).length)), (3, pt nx0 0), (0, .slice Ap0 a0.length cp0)]) (nx' := nx4 + 1) (L' := [⟨nx3, arrV (Value.int .i64) 0 144 t2, 85⟩, ⟨nx0, [.slice none 0 0, .slice none 0 0], 62⟩, ⟨nx4, ((arrV (Value.int .i64) 0 12 t3.f0) ++ ((arrV (Value.int .i64) 0 12 t3.f1) ++ (arrV (Value.int .i64) 0 12 t3.f2))), 89⟩]) [] (RFacts.nil _ _ _) 2 [.no, .l 2] (by kernel_rfl) (by kernel_rfl) ?_
 refine RL.nt ?_
 refine OK.sq ?_
 obtain ⟨t4, hA4, H⟩ := bnd H
 obtain ⟨hm3, H⟩ := ifs H
 obtain ⟨hm4, H⟩ := ifs H
 refine OK.drawnC 4 5 O33_13 a33_13n (by kernel_rfl) (by kernel_rfl) (u33d1l a0 t4) u33d1g [] (RI.nil _) [.no, .no, .no, .no, .no] a33_13 a33_13o (by kernel_rfl) (by kernel_rfl) (u33d1s a0 Ap0 cp0 t4) (u33d1f a0 Ap0 cp0 nx0 t1 nx1 nx3 nx4 t4 5) (u33d1v a0 Ap0 cp0 nx0 t1 nx1 t2 nx3 t3 nx4 t4) (u33d1e a0 Ap0 cp0 nx0 t1 nx1 t2 nx3 t3 nx4 t4) [u33d1f a0 Ap0 cp0 nx0 t1 nx1 nx3 nx4 t4 0, u33d1f a0 Ap0 cp0 nx0 t1 nx1 nx3 nx4 t4 3] (framesOk.cons (fun u => rfl) (framesOk.cons (fun u => rfl) framesOk.nil)) ?_ [] framesOk.nil ?_ ?_
 ·refine LoudsG.cons ?_ (LoudsG.cons ?_ (LoudsG.nil))
  ·intro D u J w hp hJ hs hF
   have hq : Sat _ _ _ ([⟨nx4, ((arrV (Value.int .i64) 0 12 t3.f0) ++ ((arrV (Value.int .i64) 0 12 t3.f1) ++ (arrV (Value.int .i64) 0 12 t3.f2))), 89⟩, ⟨nx3, arrV (Value.int .i64) 0 144 t2, 85⟩] ++ []) ([] ++ _) w := hs.selB [2, 0] (by kernel_rfl)
   refine Does.call 49 [pt nx4 0, pt nx3 0] (by kernel_rfl) ((assign_solution_values0.calls k J nx4 nx3 t3 t2 w (Sat.into hq) hz2 hz3 hz4 hz1 t4 hA4).mono ?_)
   rintro e w' ⟨v, rfl, J2, rfl, hg⟩
   exact ⟨_, rfl, fun _ => (none, 0, []), J2, rfl, Sat.quiet (fun b hb => hq.blk b (List.mem_append_left _ hb)) hg, trivial⟩
  ·intro D u J w hp hJ hs hF
   refine (Does.makeL (T := 26) (e := 3) hs.im (a0.length : Int) .i64 .i64 (i6 0) (0) (Ty.int .i64) 8 (by kernel_rfl) (by kernel_rfl) (by kernel_rfl) (by kernel_rfl) rfl hm3 (by omega) (by omega)).mono ?_
   rintro v w' ⟨rfl, hg, hp⟩
   exact ⟨fun _ => (_, _, _), J, rfl, hg, hp, trivial⟩
 ·refine Givens.nil
 intro u I3 nx5 hi3 hF
 have hf1 := ((hF.2.1 rfl).1)
 clear hF
 refine RL.norm (K' := [(7, i6 t4), (23, .slice ((u 3 0).1) ((List.replicate ((a0.length : Int)).toNat (0 : Int)).length) ((u 3 0).2.1)), (22, i6 (a0.length : Int)), (21, .slice Ap0 a0.length cp0), (20, i6 t4), (6, pt nx4 0), (5, pt nx3 0), (4, .slice (some ⟨nx1, 0, none⟩) ((List.replicate (t1).toNat (false : Bool)).length) ((List.replicate (t1).toNat (false : Bool)).length)), (3, pt nx0 0), (0, .slice Ap0 a0.length cp0)]) (X' := [orow 4 1 (some ⟨nx1, 0, none⟩) ((List.replicate (t1).toNat (false : Bool)).length) ((List.replicate (t1).toNat (false : Bool)).length) (List.replicate (t1).toNat (.bool false)), orow 3 1 (u 3 0).1 ((List.replicate ((a0.length : Int)).toNat (0 : Int)).length) (u 3 0).2.1 (u 3 0).2.2]) (by kernel_rfl) rfl rfl rfl ?_
 revert hf1
 generalize (u 3 0).1 = A1
 generalize (u 3 0).2.1 = c1
 generalize (u 3 0).2.2 = cs1
 intro hf1
 clear u
 refine RL.st 1 [(8, .slice A1 ((List.replicate ((a0.length : Int)).toNat (0 : Int)).length) c1), (7, i6 t4), (6, pt nx4 0), (4, .slice (some ⟨nx1, 0, none⟩) ((List.replicate (t1).toNat (false : Bool)).length) ((List.replicate (t1).toNat (false : Bool)).length)), (3, pt nx0 0), (0, .slice Ap0 a0.length cp0)] ?_
 refine OK.sq ?_
 refine OK.sr ?_
 refine RL.st 3 [(26, i6 0), (25, i6 (a0.length : Int)), (8, .slice A1 ((List.replicate ((a0.length : Int)).toNat (0 : Int)).length) c1), (7, i6 t4), (6, pt nx4 0), (4, .slice (some ⟨nx1, 0, none⟩) ((List.replicate (t1).toNat (false : Bool)).length) ((List.replicate (t1).toNat (false : Bool)).length)), (3, pt nx0 0), (0, .slice Ap0 a0.length cp0)] ?_
 refine OK.join (fun K' I' _ L' X' => ∃ (x1 : List Int) (A2 : Option Addr) (c2 : Nat) (cs2 : List Value), K' = [(0, .slice Ap0 a0.length cp0), (3, pt nx0 0), (6, pt nx4 0), (8, .slice A2 x1.length c2)] ∧ L' = [⟨nx3, arrV (Value.int .i64) 0 144 t2, 85⟩, ⟨nx0, [.slice none 0 0, .slice none 0 0], 62⟩, ⟨nx4, ((arrV (Value.int .i64) 0 12 t3.f0) ++ ((arrV (Value.int .i64) 0 12 t3.f1) ++ (arrV (Value.int .i64) 0 12 t3.f2))), 89⟩] ∧ X' = [orow 3 1 A2 x1.length c2 cs2] ∧ Imm.le I3 I' ∧ Reps (Ty.int .i64) I' x1 cs2 ∧ assign_Solve.k1 k a0 t3 x1 = some r) ?_ ?_
 ·rintro _ I4 nx6 _ _ ⟨x1, A2, c2, cs2, rfl, rfl, rfl, hi4, hp2, H⟩
  rw [assign_Solve.k1] at H
  refine QN.then_ ?_
  refine OK.sr ?_
  refine RL.s 2 [(70, .slice Ap0 a0.length cp0), (69, .slice A2 x1.length c2), (3, pt nx0 0), (6, pt nx4 0)] ?_
  refine RL.arrange (L' := [⟨nx4, ((arrV (Value.int .i64) 0 12 t3.f0) ++ ((arrV (Value.int .i64) 0 12 t3.f1) ++ (arrV (Value.int .i64) 0 12 t3.f2))), 89⟩, ⟨nx3, arrV (Value.int .i64) 0 144 t2, 85⟩, ⟨nx0, [.slice none 0 0, .slice none 0 0], 62⟩]) (X' := [orow 3 1 A2 x1.length c2 cs2]) [2, 0, 1] [0] (by kernel_rfl) (by kernel_rfl) (by kernel_rfl) (by kernel_rfl) ?_
  obtain ⟨t5, hA5, H⟩ := bnd H
  refine RL.callM (L1 := [⟨nx4, ((arrV (Value.int .i64) 0 12 t3.f0) ++ ((arrV (Value.int .i64) 0 12 t3.f1) ++ (arrV (Value.int .i64) 0 12 t3.f2))), 89⟩]) (L2 := [⟨nx3, arrV (Value.int .i64) 0 144 t2, 85⟩, ⟨nx0, [.slice none 0 0, .slice none 0 0], 62⟩]) (X1 := []) (X2 := [orow 3 1 A2 x1.length c2 cs2]) rfl rfl 51 [.slice Ap0 a0.length cp0, pt nx4 0] (some 71) (fun w => assign_dualss0.Post (SM [⟨nx4, ((arrV (Value.int .i64) 0 12 t3.f0) ++ ((arrV (Value.int .i64) 0 12 t3.f1) ++ (arrV (Value.int .i64) 0 12 t3.f2))), 89⟩] []) nx4 a0 Ap0 cp0 t3 I4 w t5) (by kernel_rfl) (by kernel_rfl) (fun w hs => assign_dualss0.calls k I4 nx4 a0 Ap0 cp0 t3 w hs hlp0 (Rd.ext (Imm.le_trans (Imm.le_trans (Imm.le_trans hi1 hi2) hi3) hi4) hrp0) hz2 hz3 hz4 t5 hA5) ?_
  rintro w v w' hs ⟨I5, A3, c3, cs3, A4, c4, cs4, rfl, hg, hp3, hp4⟩
  have hi5 : Imm.le I4 I5 := hg.le
  refine RL.resume (L' := [⟨nx4, ((arrV (Value.int .i64) 0 12 t3.f0) ++ ((arrV (Value.int .i64) 0 12 t3.f1) ++ (arrV (Value.int .i64) 0 12 t3.f2))), 89⟩, ⟨nx3, arrV (Value.int .i64) 0 144 t2, 85⟩, ⟨nx0, [.slice none 0 0, .slice none 0 0], 62⟩]) (X' := [orow 2 1 A3 t5.f0.length c3 cs3, orow 2 1 A4 t5.f1.length c4 cs4, orow 3 1 A2 x1.length c2 cs2]) rfl (hs.outof hg) ?_
  clear hs hg
  generalize w'.heap.size = nx7
  clear w w'
  refine RL.simP (K' := [(2, .slice A2 x1.length c2), (3, pt nx0 0)]) (nx' := nx7) (L' := [⟨nx4, ((arrV (Value.int .i64) 0 12 t3.f0) ++ ((arrV (Value.int .i64) 0 12 t3.f1) ++ (arrV (Value.int .i64) 0 12 t3.f2))), 89⟩, ⟨nx3, arrV (Value.int .i64) 0 144 t2, 85⟩, ⟨nx0, [.slice A3 t5.f0.length c3, .slice A4 t5.f1.length c4], 62⟩]) [] (RFacts.nil _ _ _) 2 [.no, .l 2] (by kernel_rfl) (by kernel_rfl) ?_
  refine RL.nt ?_
  refine OK.re ?_
  obtain rfl := Option.some.inj H
  refine QN.body rfl [] (RFacts.nil _ _ _) (.l 2) (.tuple #[.slice A2 x1.length c2, .agg #[.slice A3 t5.f0.length c3, .slice A4 t5.f1.length c4]]) (by kernel_rfl) (by kernel_rfl) (by kernel_rfl) ?_ _ (.inr rfl)
  exact fun w' hs' => ⟨_, rfl, I5, A2, c2, cs2, A3, c3, cs3, A4, c4, cs4, rfl, ((hs'.sel [2, 0, 1] (by kernel_rfl)).got _ (List.Sublist.refl _)), (Reps.ext hi5 hp2), hp3, hp4⟩
 ·intro Q_1 hJ1 hQ1
  obtain ⟨y1, H, HK1⟩ := bnd H
  refine OK.bk 0 ?_
  refine OK.sub (K' := [(0, .slice Ap0 a0.length cp0), (3, pt nx0 0), (4, .slice (some ⟨nx1, 0, none⟩) ((List.replicate (t1).toNat (false : Bool)).length) ((List.replicate (t1).toNat (false : Bool)).length)), (6, pt nx4 0), (7, i6 t4), (8, .slice A1 ((List.replicate ((a0.length : Int)).toNat (0 : Int)).length) c1), (25, i6 (a0.length : Int)), (26, i6 0)]) (L' := [⟨nx3, arrV (Value.int .i64) 0 144 t2, 85⟩, ⟨nx0, [.slice none 0 0, .slice none 0 0], 62⟩, ⟨nx4, ((arrV (Value.int .i64) 0 12 t3.f0) ++ ((arrV (Value.int .i64) 0 12 t3.f1) ++ (arrV (Value.int .i64) 0 12 t3.f2))), 89⟩]) (by kernel_rfl) (.cons_cons _ (.cons_cons _ (.cons_cons _ .slnil))) (.refl _) ?_
  refine OK.lp (fun n_ K' I' _ L' X' => ∃ (x2 : List Bool) (x3 : Int) (x4 : List Int) (x5 : Int) (A5 : Option Addr) (c5 : Nat) (cs5 : List Value) (A6 : Option Addr) (c6 : Nat) (cs6 : List Value), K' = [(0, .slice Ap0 a0.length cp0), (3, pt nx0 0), (4, .slice A5 x2.length c5), (6, pt nx4 0), (7, i6 x3), (8, .slice A6 x4.length c6), (25, i6 (a0.length : Int)), (26, i6 x5)] ∧ L' = [⟨nx3, arrV (Value.int .i64) 0 144 t2, 85⟩, ⟨nx0, [.slice none 0 0, .slice none 0 0], 62⟩, ⟨nx4, ((arrV (Value.int .i64) 0 12 t3.f0) ++ ((arrV (Value.int .i64) 0 12 t3.f1) ++ (arrV (Value.int .i64) 0 12 t3.f2))), 89⟩] ∧ X' = [orow 4 1 A5 x2.length c5 cs5, orow 3 1 A6 x4.length c6 cs6] ∧ Imm.le I3 I' ∧ Reps Ty.bool I' x2 cs5 ∧ Reps (Ty.int .i64) I' x4 cs6 ∧ assign_Solve.l1 a0 n_ x2 x3 x4 x5 = some y1) k ⟨List.replicate (t1).toNat (false : Bool), t4, (List.replicate ((a0.length : Int)).toNat (0 : Int)), 0, (some ⟨nx1, 0, none⟩), (List.replicate (t1).toNat (false : Bool)).length, (List.replicate (t1).toNat (.bool false)), A1, c1, cs1, rfl, rfl, rfl, (Imm.le_refl _), (Reps.ext (Imm.le_trans hi2 hi3) hp1), hf1, H⟩ ?_ ?_
  ·rintro _ _ _ _ _ ⟨x2, x3, x4, x5, A5, c5, cs5, A6, c6, cs6, rfl, rfl, rfl, _, hp5, hp6, H⟩
   cases H
  ·rintro kq1 _ I6 nx8 _ _ ⟨x2, x3, x4, x5, A5, c5, cs5, A6, c6, cs6, rfl, rfl, rfl, hi6, hp5, hp6, H⟩ Q_l1 hJ2 hQ2
   rw [assign_Solve.l1] at H
   refine OK.sr ?_
   refine RL.st 1 [(27, .bool (decide (x5 < (a0.length : Int)))), (0, .slice Ap0 a0.length cp0), (3, pt nx0 0), (4, .slice A5 x2.length c5), (6, pt nx4 0), (7, i6 x3), (8, .slice A6 x4.length c6), (25, i6 (a0.length : Int)), (26, i6 x5)] ?_
   refine OK.sq ?_
   refine OK.cd (decide (x5 < (a0.length : Int))) (fun hb => ?_) (fun hb => ?_)
   ·skip
    have hc := (of_decide_eq_true hb)
    rw [if_pos hc] at H
    clear hb
    refine OK.skt ?_
    refine OK.sq ?_
    refine OK.join (fun K' I' _ L' X' => ∃ (x6 : List Bool) (x7 : Int) (x8 : List Int) (A7 : Option Addr) (c7 : Nat) (cs7 : List Value) (A8 : Option Addr) (c8 : Nat) (cs8 : List Value), K' = [(0, .slice Ap0 a0.length cp0), (3, pt nx0 0), (4, .slice A7 x6.length c7), (6, pt nx4 0), (7, i6 x7), (8, .slice A8 x8.length c8), (25, i6 (a0.length : Int)), (26, i6 x5)] ∧ L' = [⟨nx3, arrV (Value.int .i64) 0 144 t2, 85⟩, ⟨nx0, [.slice none 0 0, .slice none 0 0], 62⟩, ⟨nx4, ((arrV (Value.int .i64) 0 12 t3.f0) ++ ((arrV (Value.int .i64) 0 12 t3.f1) ++ (arrV (Value.int .i64) 0 12 t3.f2))), 89⟩] ∧ X' = [orow 4 1 A7 x6.length c7 cs7, orow 3 1 A8 x8.length c8 cs8] ∧ Imm.le I6 I' ∧ Reps Ty.bool I' x6 cs7 ∧ Reps (Ty.int .i64) I' x8 cs8 ∧ (assign_Solve.l1 a0 kq1 x6 x7 x8 (W .i64 (x5 + 1))) = some y1) ?_ ?_
    ·rintro _ I7 nx9 _ _ ⟨x6, x7, x8, A7, c7, cs7, A8, c8, cs8, rfl, rfl, rfl, hi7, hp7, hp8, H⟩
     replace H : (assign_Solve.l1 a0 kq1 x6 x7 x8 (W .i64 (x5 + 1))) = some y1 := H
     refine QN.then_ ?_
     refine OK.rg ?_
     refine RL.s 2 [(26, i6 (W .i64 (x5 + 1))), (0, .slice Ap0 a0.length cp0), (3, pt nx0 0), (4, .slice A7 x6.length c7), (6, pt nx4 0), (7, i6 x7), (8, .slice A8 x8.length c8), (25, i6 (a0.length : Int))] ?_
     refine RL.nil (by kernel_rfl) ?_
     exact QN.sb (hJ2 _ _ _ _ _ ⟨x6, x7, x8, W .i64 (x5 + 1), A7, c7, cs7, A8, c8, cs8, rfl, rfl, rfl, (Imm.le_trans hi6 hi7), hp7, hp8, H⟩) (.cons_cons _ (.cons_cons _ (.cons_cons _ .slnil))) (.refl _)
    ·intro Q_2 hJ3 hQ3
     obtain ⟨y2, H, HK2⟩ := bnd H
     refine OK.bk 1 ?_
     refine OK.sr ?_
     refine RL.st 2 [(9, i6 x5), (0, .slice Ap0 a0.length cp0), (3, pt nx0 0), (4, .slice A5 x2.length c5), (6, pt nx4 0), (7, i6 x3), (8, .slice A6 x4.length c6), (25, i6 (a0.length : Int)), (26, i6 x5)] ?_
     refine OK.sr ?_
     refine RL.s 2 [(30, i6 x5), (29, .slice A6 x4.length c6), (9, i6 x5), (0, .slice Ap0 a0.length cp0), (3, pt nx0 0), (4, .slice A5 x2.length c5), (6, pt nx4 0), (7, i6 x3), (8, .slice A6 x4.length c6), (25, i6 (a0.length : Int)), (26, i6 x5)] ?_
     obtain ⟨hib0, H⟩ := ifs H
     obtain ⟨hib1, H⟩ := ifs H
     have hx01_ := hib0; have hx11_ := hib1
     refine RL.ownAddr (e := 3) (sz := 1) (S := A6) (n := x4.length) (cap := c6) (cs := cs6) 1 (by kernel_rfl) (by omega) (fun g1_ hA1_ => ?_)
     have hc1_ := Ty.int_own hp6 x5 hib0 hib1
     refine RL.idx 1 .i64 x5 hA1_ x4.length c6 (some 31) (by kernel_rfl) (by kernel_rfl) (T := 26) (e := 3) (by kernel_rfl) (by kernel_rfl) hib0 hib1 (K' := [(31, pt g1_ (0 + (x5).toNat * 1)), (30, i6 x5), (29, .slice A6 x4.length c6), (9, i6 x5), (0, .slice Ap0 a0.length cp0), (3, pt nx0 0), (4, .slice A5 x2.length c5), (6, pt nx4 0), (7, i6 x3), (8, .slice A6 x4.length c6), (25, i6 (a0.length : Int)), (26, i6 x5)]) (by kernel_rfl) ?_
     refine RL.storeL (T := 3) (e := 3) 1 1 hA1_ c6 x5 cs6 [i6 (-1)] (i6 (-1)) (Ty.int .i64) x4 (-1) (by kernel_rfl) (by kernel_rfl) (by kernel_rfl) (by kernel_rfl) (by kernel_rfl) rfl (by kernel_rfl) hp6 hx01_ hx11_ (fun cs9 hp9 => ?_)
     refine RL.sub (K' := [(30, i6 x5), (29, .slice A6 x4.length c6), (9, i6 x5), (0, .slice Ap0 a0.length cp0), (3, pt nx0 0), (4, .slice A5 x2.length c5), (6, pt nx4 0), (7, i6 x3), (8, .slice A6 x4.length c6), (25, i6 (a0.length : Int)), (26, i6 x5)]) (L' := [⟨nx3, arrV (Value.int .i64) 0 144 t2, 85⟩, ⟨nx0, [.slice none 0 0, .slice none 0 0], 62⟩, ⟨nx4, ((arrV (Value.int .i64) 0 12 t3.f0) ++ ((arrV (Value.int .i64) 0 12 t3.f1) ++ (arrV (Value.int .i64) 0 12 t3.f2))), 89⟩]) (X' := [orow 4 1 A5 x2.length c5 cs5, orow 3 1 A6 ((x4.set (x5).toNat (-1)).length) c6 cs9]) (by kernel_rfl) (.refl _) (.refl _) ?_
     refine RL.norm (K' := [(30, i6 x5), (29, .slice A6 ((x4.set (x5).toNat (-1)).length) c6), (9, i6 x5), (0, .slice Ap0 a0.length cp0), (3, pt nx0 0), (4, .slice A5 x2.length c5), (6, pt nx4 0), (7, i6 x3), (8, .slice A6 ((x4.set (x5).toNat (-1)).length) c6), (25, i6 (a0.length : Int)), (26, i6 x5)]) (L' := [⟨nx3, arrV (Value.int .i64) 0 144 t2, 85⟩, ⟨nx0, [.slice none 0 0, .slice none 0 0], 62⟩, ⟨nx4, ((arrV (Value.int .i64) 0 12 t3.f0) ++ ((arrV (Value.int .i64) 0 12 t3.f1) ++ (arrV (Value.int .i64) 0 12 t3.f2))), 89⟩]) (by simp only [List.length_set]) rfl (by first | rfl | simp only [List.length_set]) rfl ?_
     refine RL.nil (by kernel_rfl) ?_
     refine QN.sub (K' := [(9, i6 x5), (0, .slice Ap0 a0.length cp0), (3, pt nx0 0), (4, .slice A5 x2.length c5), (6, pt nx4 0), (7, i6 x3), (8, .slice A6 ((x4.set (x5).toNat (-1)).length) c6), (25, i6 (a0.length : Int)), (26, i6 x5)]) (L' := [⟨nx3, arrV (Value.int .i64) 0 144 t2, 85⟩, ⟨nx0, [.slice none 0 0, .slice none 0 0], 62⟩, ⟨nx4, ((arrV (Value.int .i64) 0 12 t3.f0) ++ ((arrV (Value.int .i64) 0 12 t3.f1) ++ (arrV (Value.int .i64) 0 12 t3.f2))), 89⟩]) (by kernel_rfl) (.cons_cons _ (.cons_cons _ (.cons_cons _ .slnil))) (.refl _) ?_
     refine QN.then_ ?_
     refine OK.sr ?_
     refine RL.s 2 [(33, i6 x5), (32, .slice Ap0 a0.length cp0), (9, i6 x5), (0, .slice Ap0 a0.length cp0), (3, pt nx0 0), (4, .slice A5 x2.length c5), (6, pt nx4 0), (7, i6 x3), (8, .slice A6 ((x4.set (x5).toNat (-1)).length) c6), (25, i6 (a0.length : Int)), (26, i6 x5)] ?_
     obtain ⟨hib0, H⟩ := ifs H
     obtain ⟨hib1, H⟩ := ifs H
     obtain ⟨g2_, o2_, hA2_, A2_, c2_, hl2_, hr2_, hc2_⟩ := Ty.slice_at (Rd.ext (Imm.le_trans (Imm.le_trans (Imm.le_trans hi1 hi2) hi3) hi6) hrp0) x5 hib0 hib1
     refine RL.idx 1 .i64 x5 hA2_ a0.length cp0 (some 34) (by kernel_rfl) (by kernel_rfl) (T := 33) (e := 27) (by kernel_rfl) (by kernel_rfl) hib0 hib1 (K' := [(34, pt g2_ (o2_ + (x5).toNat * 1)), (33, i6 x5), (32, .slice Ap0 a0.length cp0), (9, i6 x5), (0, .slice Ap0 a0.length cp0), (3, pt nx0 0), (4, .slice A5 x2.length c5), (6, pt nx4 0), (7, i6 x3), (8, .slice A6 ((x4.set (x5).toNat (-1)).length) c6), (25, i6 (a0.length : Int)), (26, i6 x5)]) (by kernel_rfl) ?_
     refine RL.simK (K' := [(37, i6 0), (36, i6 ((a0.getD (x5).toNat []).length : Int)), (35, .slice A2_ ((a0.getD (x5).toNat []).length) c2_), (9, i6 x5), (0, .slice Ap0 a0.length cp0), (3, pt nx0 0), (4, .slice A5 x2.length c5), (6, pt nx4 0), (7, i6 x3), (8, .slice A6 ((x4.set (x5).toNat (-1)).length) c6), (25, i6 (a0.length : Int)), (26, i6 x5)]) [(⟨g2_, o2_ + (x5).toNat * 1, none⟩, .slice A2_ ((a0.getD (x5).toNat []).length) c2_)] (RFacts.imm (hc2_ 0 _ rfl) (RFacts.nil _ _ _)) 3 [.r 0, .no, .no] (by kernel_rfl) (by kernel_rfl) ?_
     refine RL.nt ?_
     refine OK.join (fun K' I' _ L' X' => ∃ (x9 : List Bool) (x10 : Int) (x11 : List Int) (A9 : Option Addr) (c9 : Nat) (cs10 : List Value) (A10 : Option Addr) (c10 : Nat) (cs11 : List Value), K' = [(0, .slice Ap0 a0.length cp0), (3, pt nx0 0), (4, .slice A9 x9.length c9), (6, pt nx4 0), (7, i6 x10), (8, .slice A10 x11.length c10), (25, i6 (a0.length : Int)), (26, i6 x5)] ∧ L' = [⟨nx3, arrV (Value.int .i64) 0 144 t2, 85⟩, ⟨nx0, [.slice none 0 0, .slice none 0 0], 62⟩, ⟨nx4, ((arrV (Value.int .i64) 0 12 t3.f0) ++ ((arrV (Value.int .i64) 0 12 t3.f1) ++ (arrV (Value.int .i64) 0 12 t3.f2))), 89⟩] ∧ X' = [orow 4 1 A9 x9.length c9 cs10, orow 3 1 A10 x11.length c10 cs11] ∧ Imm.le I6 I' ∧ Reps Ty.bool I' x9 cs10 ∧ Reps (Ty.int .i64) I' x11 cs11 ∧ assign_Solve.k3 (x9, x10, x11) = some y2) ?_ ?_
     ·rintro _ I8 nx10 _ _ ⟨x9, x10, x11, A9, c9, cs10, A10, c10, cs11, rfl, rfl, rfl, hi8, hp10, hp11, H⟩
      rw [assign_Solve.k3] at H
      refine QN.blkN ?_
      obtain rfl := Option.some.inj H
      exact QN.sb (hJ3 _ _ _ _ _ ⟨x9, x10, x11, A9, c9, cs10, A10, c10, cs11, rfl, rfl, rfl, hi8, hp10, hp11, HK2⟩) (.cons_cons _ (.cons_cons _ (.cons_cons _ .slnil))) (.refl _)
     ·intro Q_3 hJ4 hQ4
      obtain ⟨y3, H, HK3⟩ := bnd H
      refine OK.bk 2 ?_
      refine OK.sub (K' := [(0, .slice Ap0 a0.length cp0), (3, pt nx0 0), (4, .slice A5 x2.length c5), (6, pt nx4 0), (7, i6 x3), (8, .slice A6 ((x4.set (x5).toNat (-1)).length) c6), (9, i6 x5), (25, i6 (a0.length : Int)), (26, i6 x5), (35, .slice A2_ ((a0.getD (x5).toNat []).length) c2_), (36, i6 ((a0.getD (x5).toNat []).length : Int)), (37, i6 0)]) (L' := [⟨nx3, arrV (Value.int .i64) 0 144 t2, 85⟩, ⟨nx0, [.slice none 0 0, .slice none 0 0], 62⟩, ⟨nx4, ((arrV (Value.int .i64) 0 12 t3.f0) ++ ((arrV (Value.int .i64) 0 12 t3.f1) ++ (arrV (Value.int .i64) 0 12 t3.f2))), 89⟩]) (by kernel_rfl) (.cons_cons _ (.cons_cons _ (.cons_cons _ .slnil))) (.refl _) ?_
      refine OK.lp (fun n_ K' I' _ L' X' => ∃ (x12 : List Bool) (x13 : Int) (A11 : Option Addr) (c11 : Nat) (cs12 : List Value), K' = [(0, .slice Ap0 a0.length cp0), (3, pt nx0 0), (4, .slice A11 x12.length c11), (6, pt nx4 0), (7, i6 x3), (8, .slice A6 ((x4.set (x5).toNat (-1)).length) c6), (9, i6 x5), (25, i6 (a0.length : Int)), (26, i6 x5), (35, .slice A2_ ((a0.getD (x5).toNat []).length) c2_), (36, i6 ((a0.getD (x5).toNat []).length : Int)), (37, i6 x13)] ∧ L' = [⟨nx3, arrV (Value.int .i64) 0 144 t2, 85⟩, ⟨nx0, [.slice none 0 0, .slice none 0 0], 62⟩, ⟨nx4, ((arrV (Value.int .i64) 0 12 t3.f0) ++ ((arrV (Value.int .i64) 0 12 t3.f1) ++ (arrV (Value.int .i64) 0 12 t3.f2))), 89⟩] ∧ X' = [orow 4 1 A11 x12.length c11 cs12, orow 3 1 A6 ((x4.set (x5).toNat (-1)).length) c6 cs9] ∧ Imm.le I6 I' ∧ Reps Ty.bool I' x12 cs12 ∧ assign_Solve.l2 a0 x3 x4 x5 n_ x12 x13 = some y3) kq1 ⟨x2, 0, A5, c5, cs5, rfl, rfl, rfl, (Imm.le_refl _), hp5, H⟩ ?_ ?_
      ·rintro _ _ _ _ _ ⟨x12, x13, A11, c11, cs12, rfl, rfl, rfl, _, hp12, H⟩
       cases H
      ·rintro kq2 _ I9 nx11 _ _ ⟨x12, x13, A11, c11, cs12, rfl, rfl, rfl, hi9, hp12, H⟩ Q_l2 hJ5 hQ5
       rw [assign_Solve.l2] at H
       refine OK.sr ?_
       refine RL.st 1 [(38, .bool (decide (x13 < ((a0.getD (x5).toNat []).length : Int)))), (0, .slice Ap0 a0.length cp0), (3, pt nx0 0), (4, .slice A11 x12.length c11), (6, pt nx4 0), (7, i6 x3), (8, .slice A6 ((x4.set (x5).toNat (-1)).length) c6), (9, i6 x5), (25, i6 (a0.length : Int)), (26, i6 x5), (35, .slice A2_ ((a0.getD (x5).toNat []).length) c2_), (36, i6 ((a0.getD (x5).toNat []).length : Int)), (37, i6 x13)] ?_
       refine OK.sq ?_
       refine OK.cd (decide (x13 < ((a0.getD (x5).toNat []).length : Int))) (fun hb => ?_) (fun hb => ?_)
       ·skip
        have hc := (of_decide_eq_true hb)
        rw [if_pos hc] at H
        clear hb
        refine OK.skt ?_
        refine OK.sq ?_
        refine OK.bk 3 ?_
        refine OK.sr ?_
        refine RL.s 1 [(39, i6 x13), (0, .slice Ap0 a0.length cp0), (3, pt nx0 0), (4, .slice A11 x12.length c11), (6, pt nx4 0), (7, i6 x3), (8, .slice A6 ((x4.set (x5).toNat (-1)).length) c6), (9, i6 x5), (25, i6 (a0.length : Int)), (26, i6 x5), (35, .slice A2_ ((a0.getD (x5).toNat []).length) c2_), (36, i6 ((a0.getD (x5).toNat []).length : Int)), (37, i6 x13)] ?_
        obtain ⟨hib0, H⟩ := ifs H
        obtain ⟨hib1, H⟩ := ifs H
        obtain ⟨g3_, o3_, hA3_, hc3_⟩ := Ty.int_at (Rd.ext hi9 hr2_) x13 hib0 hib1
        refine RL.idx 1 .i64 x13 hA3_ ((a0.getD (x5).toNat []).length) c2_ (some 40) (by kernel_rfl) (by kernel_rfl) (T := 27) (e := 2) (by kernel_rfl) (by kernel_rfl) hib0 hib1 (K' := [(40, pt g3_ (o3_ + (x13).toNat * 1)), (39, i6 x13), (0, .slice Ap0 a0.length cp0), (3, pt nx0 0), (4, .slice A11 x12.length c11), (6, pt nx4 0), (7, i6 x3), (8, .slice A6 ((x4.set (x5).toNat (-1)).length) c6), (9, i6 x5), (25, i6 (a0.length : Int)), (26, i6 x5), (35, .slice A2_ ((a0.getD (x5).toNat []).length) c2_), (36, i6 ((a0.getD (x5).toNat []).length : Int)), (37, i6 x13)]) (by kernel_rfl) ?_
        refine RL.simK (K' := [(11, i6 ((a0.getD (x5).toNat []).getD (x13).toNat 0)), (10, i6 x13), (0, .slice Ap0 a0.length cp0), (3, pt nx0 0), (4, .slice A11 x12.length c11), (6, pt nx4 0), (7, i6 x3), (8, .slice A6 ((x4.set (x5).toNat (-1)).length) c6), (9, i6 x5), (25, i6 (a0.length : Int)), (26, i6 x5), (35, .slice A2_ ((a0.getD (x5).toNat []).length) c2_), (36, i6 ((a0.getD (x5).toNat []).length : Int)), (37, i6 x13)]) [(⟨g3_, o3_ + (x13).toNat * 1, none⟩, i6 ((a0.getD (x5).toNat []).getD (x13).toNat 0))] (RFacts.imm (hc3_ 0 _ rfl) (RFacts.nil _ _ _)) 3 [.r 0, .no, .no] (by kernel_rfl) (by kernel_rfl) ?_
        refine RL.nt ?_
        refine OK.sq ?_
        refine OK.sr ?_
        refine RL.s 2 [(43, i6 x13), (42, .slice A11 x12.length c11), (11, i6 ((a0.getD (x5).toNat []).getD (x13).toNat 0)), (10, i6 x13), (0, .slice Ap0 a0.length cp0), (3, pt nx0 0), (4, .slice A11 x12.length c11), (6, pt nx4 0), (7, i6 x3), (8, .slice A6 ((x4.set (x5).toNat (-1)).length) c6), (9, i6 x5), (25, i6 (a0.length : Int)), (26, i6 x5), (35, .slice A2_ ((a0.getD (x5).toNat []).length) c2_), (36, i6 ((a0.getD (x5).toNat []).length : Int)), (37, i6 x13)] ?_
        obtain ⟨hib0, H⟩ := ifs H
        obtain ⟨hib1, H⟩ := ifs H
        have hx04_ := hib0; have hx14_ := hib1
        refine RL.ownAddr (e := 4) (sz := 1) (S := A11) (n := x12.length) (cap := c11) (cs := cs12) 0 (by kernel_rfl) (by omega) (fun g4_ hA4_ => ?_)
        have hc4_ := Ty.bool_own hp12 x13 hib0 hib1
        refine RL.idx 1 .i64 x13 hA4_ x12.length c11 (some 44) (by kernel_rfl) (by kernel_rfl) (T := 44) (e := 4) (by kernel_rfl) (by kernel_rfl) hib0 hib1 (K' := [(44, pt g4_ (0 + (x13).toNat * 1)), (43, i6 x13), (42, .slice A11 x12.length c11), (11, i6 ((a0.getD (x5).toNat []).getD (x13).toNat 0)), (10, i6 x13), (0, .slice Ap0 a0.length cp0), (3, pt nx0 0), (4, .slice A11 x12.length c11), (6, pt nx4 0), (7, i6 x3), (8, .slice A6 ((x4.set (x5).toNat (-1)).length) c6), (9, i6 x5), (25, i6 (a0.length : Int)), (26, i6 x5), (35, .slice A2_ ((a0.getD (x5).toNat []).length) c2_), (36, i6 ((a0.getD (x5).toNat []).length : Int)), (37, i6 x13)]) (by kernel_rfl) ?_
        refine RL.simK (K' := [(45, .bool (x12.getD (x13).toNat false)), (11, i6 ((a0.getD (x5).toNat []).getD (x13).toNat 0)), (10, i6 x13), (0, .slice Ap0 a0.length cp0), (3, pt nx0 0), (4, .slice A11 x12.length c11), (6, pt nx4 0), (7, i6 x3), (8, .slice A6 ((x4.set (x5).toNat (-1)).length) c6), (9, i6 x5), (25, i6 (a0.length : Int)), (26, i6 x5), (35, .slice A2_ ((a0.getD (x5).toNat []).length) c2_), (36, i6 ((a0.getD (x5).toNat []).length : Int)), (37, i6 x13)]) [(⟨g4_, 0 + (x13).toNat * 1, none⟩, .bool (x12.getD (x13).toNat false))] (RFacts.ownQ (e := 4) (sz := 1) (S := A11) (n := x12.length) (cap := c11) (cs := cs12) 0 (by kernel_rfl) hA4_ (0 + (x13).toNat * 1) ((x13).toNat * 1 + 0) (by omega) (hc4_ 0 _ rfl) (RFacts.nil _ _ _)) 1 [.r 0] (by kernel_rfl) (by kernel_rfl) ?_
        refine RL.nt ?_
        refine OK.cd (x12.getD (x13).toNat false) (fun hb => ?_) (fun hb => ?_)
        ·skip
         have hc := hb
         rw [if_pos hc] at H
         clear hb
         refine OK.ex 3 ?_
         refine QN.thenE ?_
         refine QN.blkE ?_
         refine QN.then_ ?_
         refine OK.rg ?_
         refine RL.s 2 [(37, i6 (W .i64 (x13 + 1))), (0, .slice Ap0 a0.length cp0), (3, pt nx0 0), (4, .slice A11 x12.length c11), (6, pt nx4 0), (7, i6 x3), (8, .slice A6 ((x4.set (x5).toNat (-1)).length) c6), (9, i6 x5), (25, i6 (a0.length : Int)), (26, i6 x5), (35, .slice A2_ ((a0.getD (x5).toNat []).length) c2_), (36, i6 ((a0.getD (x5).toNat []).length : Int))] ?_
         refine RL.nil (by kernel_rfl) ?_
         exact QN.sb (hJ5 _ _ _ _ _ ⟨x12, W .i64 (x13 + 1), A11, c11, cs12, rfl, rfl, rfl, hi9, hp12, H⟩) (.cons_cons _ (.cons_cons _ (.cons_cons _ .slnil))) (.refl _)
        ·skip
         have hc := (Bool.eq_false_iff.1 hb)
         rw [if_neg hc] at H
         clear hb
         refine OK.skt ?_
         refine OK.sr ?_
         refine RL.s 2 [(47, i6 x13), (46, .slice A11 x12.length c11), (11, i6 ((a0.getD (x5).toNat []).getD (x13).toNat 0)), (10, i6 x13), (0, .slice Ap0 a0.length cp0), (3, pt nx0 0), (4, .slice A11 x12.length c11), (6, pt nx4 0), (7, i6 x3), (8, .slice A6 ((x4.set (x5).toNat (-1)).length) c6), (9, i6 x5), (25, i6 (a0.length : Int)), (26, i6 x5), (35, .slice A2_ ((a0.getD (x5).toNat []).length) c2_), (36, i6 ((a0.getD (x5).toNat []).length : Int)), (37, i6 x13)] ?_
         obtain ⟨hib0, H⟩ := ifs H
         obtain ⟨hib1, H⟩ := ifs H
         have hx05_ := hib0; have hx15_ := hib1
         refine RL.ownAddr (e := 4) (sz := 1) (S := A11) (n := x12.length) (cap := c11) (cs := cs12) 0 (by kernel_rfl) (by omega) (fun g5_ hA5_ => ?_)
         have hc5_ := Ty.bool_own hp12 x13 hib0 hib1
         refine RL.idx 1 .i64 x13 hA5_ x12.length c11 (some 48) (by kernel_rfl) (by kernel_rfl) (T := 44) (e := 4) (by kernel_rfl) (by kernel_rfl) hib0 hib1 (K' := [(48, pt g5_ (0 + (x13).toNat * 1)), (47, i6 x13), (46, .slice A11 x12.length c11), (11, i6 ((a0.getD (x5).toNat []).getD (x13).toNat 0)), (10, i6 x13), (0, .slice Ap0 a0.length cp0), (3, pt nx0 0), (4, .slice A11 x12.length c11), (6, pt nx4 0), (7, i6 x3), (8, .slice A6 ((x4.set (x5).toNat (-1)).length) c6), (9, i6 x5), (25, i6 (a0.length : Int)), (26, i6 x5), (35, .slice A2_ ((a0.getD (x5).toNat []).length) c2_), (36, i6 ((a0.getD (x5).toNat []).length : Int)), (37, i6 x13)]) (by kernel_rfl) ?_
         refine RL.storeL (T := 4) (e := 4) 1 0 hA5_ c11 x13 cs12 [.bool true] (.bool true) Ty.bool x12 true (by kernel_rfl) (by kernel_rfl) (by kernel_rfl) (by kernel_rfl) (by kernel_rfl) rfl (by kernel_rfl) hp12 hx05_ hx15_ (fun cs13 hp13 => ?_)
         refine RL.sub (K' := [(47, i6 x13), (46, .slice A11 x12.length c11), (11, i6 ((a0.getD (x5).toNat []).getD (x13).toNat 0)), (10, i6 x13), (0, .slice Ap0 a0.length cp0), (3, pt nx0 0), (4, .slice A11 x12.length c11), (6, pt nx4 0), (7, i6 x3), (8, .slice A6 ((x4.set (x5).toNat (-1)).length) c6), (9, i6 x5), (25, i6 (a0.length : Int)), (26, i6 x5), (35, .slice A2_ ((a0.getD (x5).toNat []).length) c2_), (36, i6 ((a0.getD (x5).toNat []).length : Int)), (37, i6 x13)]) (L' := [⟨nx3, arrV (Value.int .i64) 0 144 t2, 85⟩, ⟨nx0, [.slice none 0 0, .slice none 0 0], 62⟩, ⟨nx4, ((arrV (Value.int .i64) 0 12 t3.f0) ++ ((arrV (Value.int .i64) 0 12 t3.f1) ++ (arrV (Value.int .i64) 0 12 t3.f2))), 89⟩]) (X' := [orow 4 1 A11 ((x12.set (x13).toNat true).length) c11 cs13, orow 3 1 A6 ((x4.set (x5).toNat (-1)).length) c6 cs9]) (by kernel_rfl) (.refl _) (.refl _) ?_
         refine RL.norm (K' := [(47, i6 x13), (46, .slice A11 ((x12.set (x13).toNat true).length) c11), (11, i6 ((a0.getD (x5).toNat []).getD (x13).toNat 0)), (10, i6 x13), (0, .slice Ap0 a0.length cp0), (3, pt nx0 0), (4, .slice A11 ((x12.set (x13).toNat true).length) c11), (6, pt nx4 0), (7, i6 x3), (8, .slice A6 ((x4.set (x5).toNat (-1)).length) c6), (9, i6 x5), (25, i6 (a0.length : Int)), (26, i6 x5), (35, .slice A2_ ((a0.getD (x5).toNat []).length) c2_), (36, i6 ((a0.getD (x5).toNat []).length : Int)), (37, i6 x13)]) (L' := [⟨nx3, arrV (Value.int .i64) 0 144 t2, 85⟩, ⟨nx0, [.slice none 0 0, .slice none 0 0], 62⟩, ⟨nx4, ((arrV (Value.int .i64) 0 12 t3.f0) ++ ((arrV (Value.int .i64) 0 12 t3.f1) ++ (arrV (Value.int .i64) 0 12 t3.f2))), 89⟩]) (by simp only [List.length_set]) rfl (by first | rfl | simp only [List.length_set]) rfl ?_
         refine RL.nil (by kernel_rfl) ?_
         refine QN.sub (K' := [(11, i6 ((a0.getD (x5).toNat []).getD (x13).toNat 0)), (10, i6 x13), (0, .slice Ap0 a0.length cp0), (3, pt nx0 0), (4, .slice A11 ((x12.set (x13).toNat true).length) c11), (6, pt nx4 0), (7, i6 x3), (8, .slice A6 ((x4.set (x5).toNat (-1)).length) c6), (9, i6 x5), (25, i6 (a0.length : Int)), (26, i6 x5), (35, .slice A2_ ((a0.getD (x5).toNat []).length) c2_), (36, i6 ((a0.getD (x5).toNat []).length : Int)), (37, i6 x13)]) (L' := [⟨nx3, arrV (Value.int .i64) 0 144 t2, 85⟩, ⟨nx0, [.slice none 0 0, .slice none 0 0], 62⟩, ⟨nx4, ((arrV (Value.int .i64) 0 12 t3.f0) ++ ((arrV (Value.int .i64) 0 12 t3.f1) ++ (arrV (Value.int .i64) 0 12 t3.f2))), 89⟩]) (by kernel_rfl) (.cons_cons _ (.cons_cons _ (.cons_cons _ .slnil))) (.refl _) ?_
         refine QN.then_ ?_
         refine OK.sq ?_
         refine OK.sr ?_
         refine RL.s 4 [(52, .slice A11 ((x12.set (x13).toNat true).length) c11), (51, i6 (W .i64 (x5 + 1))), (49, .slice Ap0 a0.length cp0), (11, i6 ((a0.getD (x5).toNat []).getD (x13).toNat 0)), (10, i6 x13), (0, .slice Ap0 a0.length cp0), (3, pt nx0 0), (4, .slice A11 ((x12.set (x13).toNat true).length) c11), (6, pt nx4 0), (7, i6 x3), (8, .slice A6 ((x4.set (x5).toNat (-1)).length) c6), (9, i6 x5), (25, i6 (a0.length : Int)), (26, i6 x5), (35, .slice A2_ ((a0.getD (x5).toNat []).length) c2_), (36, i6 ((a0.getD (x5).toNat []).length : Int)), (37, i6 x13)] ?_
         obtain ⟨t6, hA6, H⟩ := bnd H
         refine RL.callP 50 [.slice Ap0 a0.length cp0, i6 (W .i64 (x5 + 1)), .slice A11 ((x12.set (x13).toNat true).length) c11] (some 53) (fun w v w' => ∃ I', Imm.le I9 I' ∧ assign_best.Post I' w t6 v w') (by kernel_rfl) (by kernel_rfl) (fun w hs => ?_) ?_
         ·skip
          obtain ⟨JL2, hj2, hn2, hw2, hs⟩ := Sat.freeze (e := 4) (sz := 1) (S := A11) (n := (x12.set (x13).toNat true).length) (cap := c11) (m := 0) hs (by kernel_rfl) hp13 rfl
          exact (assign_best.calls kq2 JL2 a0 Ap0 cp0 (W .i64 (x5 + 1)) (x12.set (x13).toNat true) A11 c11 _ hs.im hlp0 (Rd.ext hj2 (Rd.ext (Imm.le_trans (Imm.le_trans (Imm.le_trans (Imm.le_trans hi1 hi2) hi3) hi6) hi9) hrp0)) hn2 hw2 t6 hA6).mono (fun e w' ⟨v, hv, hp⟩ => ⟨v, hv, JL2, hj2, hp⟩)
         rintro w v w' hs ⟨I', hle, J, rfl, hg⟩
         refine RL.resume (X' := [orow 4 1 A11 ((x12.set (x13).toNat true).length) c11 cs13, orow 3 1 A6 ((x4.set (x5).toNat (-1)).length) c6 cs9]) rfl (hs.call (hg.back hle)) ?_
         clear hs hg hle I' J
         generalize w'.heap.size = nx12
         clear w w'
         refine RL.st 1 [(12, i6 t6), (11, i6 ((a0.getD (x5).toNat []).getD (x13).toNat 0)), (10, i6 x13), (0, .slice Ap0 a0.length cp0), (3, pt nx0 0), (4, .slice A11 ((x12.set (x13).toNat true).length) c11), (6, pt nx4 0), (7, i6 x3), (8, .slice A6 ((x4.set (x5).toNat (-1)).length) c6), (9, i6 x5), (25, i6 (a0.length : Int)), (26, i6 x5), (35, .slice A2_ ((a0.getD (x5).toNat []).length) c2_), (36, i6 ((a0.getD (x5).toNat []).length : Int)), (37, i6 x13)] ?_
         refine OK.sr ?_
         refine RL.st 5 [(58, .bool ((W .i64 (((a0.getD (x5).toNat []).getD (x13).toNat 0) + t6)) == x3)), (12, i6 t6), (10, i6 x13), (0, .slice Ap0 a0.length cp0), (3, pt nx0 0), (4, .slice A11 ((x12.set (x13).toNat true).length) c11), (6, pt nx4 0), (7, i6 x3), (8, .slice A6 ((x4.set (x5).toNat (-1)).length) c6), (9, i6 x5), (25, i6 (a0.length : Int)), (26, i6 x5), (35, .slice A2_ ((a0.getD (x5).toNat []).length) c2_), (36, i6 ((a0.getD (x5).toNat []).length : Int)), (37, i6 x13)] ?_
         refine OK.cd ((W .i64 (((a0.getD (x5).toNat []).getD (x13).toNat 0) + t6)) == x3) (fun hb => ?_) (fun hb => ?_)
         ·skip
          have hc := (beq_iff_eq.1 hb)
          rw [if_pos hc] at H
          clear hb
          refine OK.sr ?_
          refine RL.s 4 [(62, i6 t6), (61, i6 x13), (60, i6 x5), (59, .slice A6 ((x4.set (x5).toNat (-1)).length) c6), (0, .slice Ap0 a0.length cp0), (3, pt nx0 0), (4, .slice A11 ((x12.set (x13).toNat true).length) c11), (6, pt nx4 0), (7, i6 x3), (8, .slice A6 ((x4.set (x5).toNat (-1)).length) c6), (25, i6 (a0.length : Int)), (26, i6 x5)] ?_
          obtain ⟨hib0, H⟩ := ifs H
          obtain ⟨hib1, H⟩ := ifs H
          have hx06_ := hib0; have hx16_ := hib1
          refine RL.ownAddr (e := 3) (sz := 1) (S := A6) (n := (x4.set (x5).toNat (-1)).length) (cap := c6) (cs := cs9) 1 (by kernel_rfl) (by omega) (fun g6_ hA6_ => ?_)
          have hc6_ := Ty.int_own (Reps.ext hi9 hp9) x5 hib0 hib1
          refine RL.idx 1 .i64 x5 hA6_ ((x4.set (x5).toNat (-1)).length) c6 (some 63) (by kernel_rfl) (by kernel_rfl) (T := 26) (e := 3) (by kernel_rfl) (by kernel_rfl) hib0 hib1 (K' := [(63, pt g6_ (0 + (x5).toNat * 1)), (62, i6 t6), (61, i6 x13), (60, i6 x5), (59, .slice A6 ((x4.set (x5).toNat (-1)).length) c6), (0, .slice Ap0 a0.length cp0), (3, pt nx0 0), (4, .slice A11 ((x12.set (x13).toNat true).length) c11), (6, pt nx4 0), (7, i6 x3), (8, .slice A6 ((x4.set (x5).toNat (-1)).length) c6), (25, i6 (a0.length : Int)), (26, i6 x5)]) (by kernel_rfl) ?_
          refine RL.storeL (T := 3) (e := 3) 1 1 hA6_ c6 x5 cs9 [i6 x13] (i6 x13) (Ty.int .i64) (x4.set (x5).toNat (-1)) x13 (by kernel_rfl) (by kernel_rfl) (by kernel_rfl) (by kernel_rfl) (by kernel_rfl) rfl (by kernel_rfl) (Reps.ext hi9 hp9) hx06_ hx16_ (fun cs14 hp14 => ?_)
          refine RL.sub (K' := [(62, i6 t6), (61, i6 x13), (60, i6 x5), (59, .slice A6 ((x4.set (x5).toNat (-1)).length) c6), (0, .slice Ap0 a0.length cp0), (3, pt nx0 0), (4, .slice A11 ((x12.set (x13).toNat true).length) c11), (6, pt nx4 0), (7, i6 x3), (8, .slice A6 ((x4.set (x5).toNat (-1)).length) c6), (25, i6 (a0.length : Int)), (26, i6 x5)]) (L' := [⟨nx3, arrV (Value.int .i64) 0 144 t2, 85⟩, ⟨nx0, [.slice none 0 0, .slice none 0 0], 62⟩, ⟨nx4, ((arrV (Value.int .i64) 0 12 t3.f0) ++ ((arrV (Value.int .i64) 0 12 t3.f1) ++ (arrV (Value.int .i64) 0 12 t3.f2))), 89⟩]) (X' := [orow 4 1 A11 ((x12.set (x13).toNat true).length) c11 cs13, orow 3 1 A6 (((x4.set (x5).toNat (-1)).set (x5).toNat x13).length) c6 cs14]) (by kernel_rfl) (.refl _) (.refl _) ?_
          refine RL.norm (K' := [(62, i6 t6), (61, i6 x13), (60, i6 x5), (59, .slice A6 (((x4.set (x5).toNat (-1)).set (x5).toNat x13).length) c6), (0, .slice Ap0 a0.length cp0), (3, pt nx0 0), (4, .slice A11 ((x12.set (x13).toNat true).length) c11), (6, pt nx4 0), (7, i6 x3), (8, .slice A6 (((x4.set (x5).toNat (-1)).set (x5).toNat x13).length) c6), (25, i6 (a0.length : Int)), (26, i6 x5)]) (L' := [⟨nx3, arrV (Value.int .i64) 0 144 t2, 85⟩, ⟨nx0, [.slice none 0 0, .slice none 0 0], 62⟩, ⟨nx4, ((arrV (Value.int .i64) 0 12 t3.f0) ++ ((arrV (Value.int .i64) 0 12 t3.f1) ++ (arrV (Value.int .i64) 0 12 t3.f2))), 89⟩]) (by simp only [List.length_set]) rfl (by first | rfl | simp only [List.length_set]) rfl ?_
          refine RL.st 1 [(7, i6 t6), (0, .slice Ap0 a0.length cp0), (3, pt nx0 0), (4, .slice A11 ((x12.set (x13).toNat true).length) c11), (6, pt nx4 0), (8, .slice A6 (((x4.set (x5).toNat (-1)).set (x5).toNat x13).length) c6), (25, i6 (a0.length : Int)), (26, i6 x5)] ?_
          refine OK.ex 2 ?_
          refine QN.thenE ?_
          refine QN.blkX (by decide) ?_
          refine QN.thenE ?_
          refine QN.outE hQ5 ?_
          refine QN.blkE ?_
          obtain rfl := Option.some.inj H
          exact QN.sb (hJ4 _ _ _ _ _ ⟨x12.set (x13).toNat true, t6, (x4.set (x5).toNat (-1)).set (x5).toNat x13, A11, c11, cs13, A6, c6, cs14, rfl, rfl, rfl, hi9, hp13, hp14, HK3⟩) (.cons_cons _ (.cons_cons _ (.cons_cons _ .slnil))) (.refl _)
         ·skip
          have hc := (beq_eq_false_iff_ne.1 hb)
          rw [if_neg hc] at H
          clear hb
          refine OK.skt ?_
          refine OK.rg ?_
          refine RL.s 2 [(65, i6 x13), (64, .slice A11 ((x12.set (x13).toNat true).length) c11), (0, .slice Ap0 a0.length cp0), (3, pt nx0 0), (4, .slice A11 ((x12.set (x13).toNat true).length) c11), (6, pt nx4 0), (7, i6 x3), (8, .slice A6 ((x4.set (x5).toNat (-1)).length) c6), (9, i6 x5), (25, i6 (a0.length : Int)), (26, i6 x5), (35, .slice A2_ ((a0.getD (x5).toNat []).length) c2_), (36, i6 ((a0.getD (x5).toNat []).length : Int)), (37, i6 x13)] ?_
          obtain ⟨hib0, H⟩ := ifs H
          obtain ⟨hib1, H⟩ := ifs H
          have hx07_ := hib0; have hx17_ := hib1
          refine RL.ownAddr (e := 4) (sz := 1) (S := A11) (n := (x12.set (x13).toNat true).length) (cap := c11) (cs := cs13) 0 (by kernel_rfl) (by omega) (fun g7_ hA7_ => ?_)
          have hc7_ := Ty.bool_own hp13 x13 hib0 hib1
          refine RL.idx 1 .i64 x13 hA7_ ((x12.set (x13).toNat true).length) c11 (some 66) (by kernel_rfl) (by kernel_rfl) (T := 44) (e := 4) (by kernel_rfl) (by kernel_rfl) hib0 hib1 (K' := [(66, pt g7_ (0 + (x13).toNat * 1)), (65, i6 x13), (64, .slice A11 ((x12.set (x13).toNat true).length) c11), (0, .slice Ap0 a0.length cp0), (3, pt nx0 0), (4, .slice A11 ((x12.set (x13).toNat true).length) c11), (6, pt nx4 0), (7, i6 x3), (8, .slice A6 ((x4.set (x5).toNat (-1)).length) c6), (9, i6 x5), (25, i6 (a0.length : Int)), (26, i6 x5), (35, .slice A2_ ((a0.getD (x5).toNat []).length) c2_), (36, i6 ((a0.getD (x5).toNat []).length : Int)), (37, i6 x13)]) (by kernel_rfl) ?_
          refine RL.storeL (T := 4) (e := 4) 1 0 hA7_ c11 x13 cs13 [.bool false] (.bool false) Ty.bool (x12.set (x13).toNat true) false (by kernel_rfl) (by kernel_rfl) (by kernel_rfl) (by kernel_rfl) (by kernel_rfl) rfl (by kernel_rfl) hp13 hx07_ hx17_ (fun cs15 hp15 => ?_)
          refine RL.sub (K' := [(65, i6 x13), (64, .slice A11 ((x12.set (x13).toNat true).length) c11), (0, .slice Ap0 a0.length cp0), (3, pt nx0 0), (4, .slice A11 ((x12.set (x13).toNat true).length) c11), (6, pt nx4 0), (7, i6 x3), (8, .slice A6 ((x4.set (x5).toNat (-1)).length) c6), (9, i6 x5), (25, i6 (a0.length : Int)), (26, i6 x5), (35, .slice A2_ ((a0.getD (x5).toNat []).length) c2_), (36, i6 ((a0.getD (x5).toNat []).length : Int)), (37, i6 x13)]) (L' := [⟨nx3, arrV (Value.int .i64) 0 144 t2, 85⟩, ⟨nx0, [.slice none 0 0, .slice none 0 0], 62⟩, ⟨nx4, ((arrV (Value.int .i64) 0 12 t3.f0) ++ ((arrV (Value.int .i64) 0 12 t3.f1) ++ (arrV (Value.int .i64) 0 12 t3.f2))), 89⟩]) (X' := [orow 4 1 A11 (((x12.set (x13).toNat true).set (x13).toNat false).length) c11 cs15, orow 3 1 A6 ((x4.set (x5).toNat (-1)).length) c6 cs9]) (by kernel_rfl) (.refl _) (.refl _) ?_
          refine RL.norm (K' := [(65, i6 x13), (64, .slice A11 (((x12.set (x13).toNat true).set (x13).toNat false).length) c11), (0, .slice Ap0 a0.length cp0), (3, pt nx0 0), (4, .slice A11 (((x12.set (x13).toNat true).set (x13).toNat false).length) c11), (6, pt nx4 0), (7, i6 x3), (8, .slice A6 ((x4.set (x5).toNat (-1)).length) c6), (9, i6 x5), (25, i6 (a0.length : Int)), (26, i6 x5), (35, .slice A2_ ((a0.getD (x5).toNat []).length) c2_), (36, i6 ((a0.getD (x5).toNat []).length : Int)), (37, i6 x13)]) (L' := [⟨nx3, arrV (Value.int .i64) 0 144 t2, 85⟩, ⟨nx0, [.slice none 0 0, .slice none 0 0], 62⟩, ⟨nx4, ((arrV (Value.int .i64) 0 12 t3.f0) ++ ((arrV (Value.int .i64) 0 12 t3.f1) ++ (arrV (Value.int .i64) 0 12 t3.f2))), 89⟩]) (by simp only [List.length_set]) rfl (by first | rfl | simp only [List.length_set]) rfl ?_
          refine RL.nil (by kernel_rfl) ?_
          refine QN.sub (K' := [(0, .slice Ap0 a0.length cp0), (3, pt nx0 0), (4, .slice A11 (((x12.set (x13).toNat true).set (x13).toNat false).length) c11), (6, pt nx4 0), (7, i6 x3), (8, .slice A6 ((x4.set (x5).toNat (-1)).length) c6), (9, i6 x5), (25, i6 (a0.length : Int)), (26, i6 x5), (35, .slice A2_ ((a0.getD (x5).toNat []).length) c2_), (36, i6 ((a0.getD (x5).toNat []).length : Int)), (37, i6 x13)]) (L' := [⟨nx3, arrV (Value.int .i64) 0 144 t2, 85⟩, ⟨nx0, [.slice none 0 0, .slice none 0 0], 62⟩, ⟨nx4, ((arrV (Value.int .i64) 0 12 t3.f0) ++ ((arrV (Value.int .i64) 0 12 t3.f1) ++ (arrV (Value.int .i64) 0 12 t3.f2))), 89⟩]) (by kernel_rfl) (.cons_cons _ (.cons_cons _ (.cons_cons _ .slnil))) (.refl _) ?_
          refine QN.blkN ?_
          refine QN.then_ ?_
          refine OK.rg ?_
          refine RL.s 2 [(37, i6 (W .i64 (x13 + 1))), (0, .slice Ap0 a0.length cp0), (3, pt nx0 0), (4, .slice A11 (((x12.set (x13).toNat true).set (x13).toNat false).length) c11), (6, pt nx4 0), (7, i6 x3), (8, .slice A6 ((x4.set (x5).toNat (-1)).length) c6), (9, i6 x5), (25, i6 (a0.length : Int)), (26, i6 x5), (35, .slice A2_ ((a0.getD (x5).toNat []).length) c2_), (36, i6 ((a0.getD (x5).toNat []).length : Int))] ?_
          refine RL.nil (by kernel_rfl) ?_
          exact QN.sb (hJ5 _ _ _ _ _ ⟨(x12.set (x13).toNat true).set (x13).toNat false, W .i64 (x13 + 1), A11, c11, cs15, rfl, rfl, rfl, hi9, hp15, H⟩) (.cons_cons _ (.cons_cons _ (.cons_cons _ .slnil))) (.refl _)
       ·skip
        have hc := (of_decide_eq_false hb)
        rw [if_neg hc] at H
        clear hb
        refine OK.ex 2 ?_
        refine QN.thenE ?_
        refine QN.outE hQ5 ?_
        refine QN.blkE ?_
        obtain rfl := Option.some.inj H
        exact QN.sb (hJ4 _ _ _ _ _ ⟨x12, x3, x4.set (x5).toNat (-1), A11, c11, cs12, A6, c6, cs9, rfl, rfl, rfl, hi9, hp12, (Reps.ext hi9 hp9), HK3⟩) (.cons_cons _ (.cons_cons _ (.cons_cons _ .slnil))) (.refl _)
   ·skip
    have hc := (of_decide_eq_false hb)
    rw [if_neg hc] at H
    clear hb
    refine OK.ex 0 ?_
    refine QN.thenE ?_
    refine QN.outE hQ2 ?_
    refine QN.blkE ?_
    obtain rfl := Option.some.inj H
    refine QN.sel (K' := [(0, .slice Ap0 a0.length cp0), (3, pt nx0 0), (6, pt nx4 0), (8, .slice A6 x4.length c6)]) (L' := [⟨nx3, arrV (Value.int .i64) 0 144 t2, 85⟩, ⟨nx0, [.slice none 0 0, .slice none 0 0], 62⟩, ⟨nx4, ((arrV (Value.int .i64) 0 12 t3.f0) ++ ((arrV (Value.int .i64) 0 12 t3.f1) ++ (arrV (Value.int .i64) 0 12 t3.f2))), 89⟩]) [1] (by kernel_rfl) (by kernel_rfl) (.cons_cons _ (.cons_cons _ (.cons_cons _ .slnil))) ?_
    refine QN.norm (X' := [orow 3 1 A6 x4.length c6 cs6]) rfl rfl rfl (by kernel_rfl) ?_
    exact hJ1 _ _ _ _ _ ⟨x4, A6, c6, cs6, rfl, rfl, rfl, hi6, hp6, HK1⟩

end Go.Proofs.Ytihmbmeelheinaa
namespace Go.Proofs.Ytihmbmeelheinaa
open Go Go.Proofs.Ytihmbmeelheinaa.RW
set_option linter.unusedVariables false
set_option maxRecDepth 100000
set_option maxHeartbeats 8000000

/-! ### assign_Value: function 34, armillary/assign.Value -/
noncomputable def K34_0 : Code := cBody Try.f34
def assign_Value.k1  : (Int) ⊕ (Int × Bool) → Option (Int × Bool)
 | .inl x1 => (some (x1, true))
 | .inr r_ => some r_
def assign_Value.k3 (a0 : List (List Int)) (a1 : List Int) (x2 : List Bool) (x3 : Int) (x4 : Int) (x7 : Bool) : Option ((List Bool × Int) ⊕ (Int × Bool)) := (if x7 = true then (some (Sum.inr (0, false))) else (if 0 ≤ (a1.getD (x4).toNat 0) then (if (a1.getD (x4).toNat 0) < (x2.length : Int) then (if 0 ≤ x4 then (if x4 < (a0.length : Int) then (if 0 ≤ (a1.getD (x4).toNat 0) then (if (a1.getD (x4).toNat 0) < ((a0.getD (x4).toNat []).length : Int) then (some (Sum.inl (x2.set ((a1.getD (x4).toNat 0)).toNat true, W .i64 (x3 + ((a0.getD (x4).toNat []).getD ((a1.getD (x4).toNat 0)).toNat 0))))) else none) else none) else none) else none) else none) else none))
def assign_Value.l1 (a0 : List (List Int)) (a1 : List Int) : Nat → (List Bool) → Int → Int → Option ((Int) ⊕ (Int × Bool))
 | 0, _, _, _ => none
 | k + 1, x2, x3, x4 => (if x4 < (a1.length : Int) then ((if 0 ≤ x4 then (if x4 < (a1.length : Int) then (if (a1.getD (x4).toNat 0) = (-1) then (some (Sum.inl (x2, x3))) else ((if (a1.getD (x4).toNat 0) < 0 then (some true) else (if (a1.getD (x4).toNat 0) ≥ (x2.length : Int) then (some true) else (if 0 ≤ (a1.getD (x4).toNat 0) then (if (a1.getD (x4).toNat 0) < (x2.length : Int) then (some (x2.getD ((a1.getD (x4).toNat 0)).toNat false)) else none) else none))).bind (assign_Value.k3 a0 a1 x2 x3 x4))) else none) else none).bind (fun s_ => match s_ with | .inl (x5, x6) => (assign_Value.l1 a0 a1 k x5 x6 (W .i64 (x4 + 1))) | .inr r_ => some (Sum.inr r_))) else (some (Sum.inl x3)))
def assign_Value.f (k : Nat) (a0 : List (List Int)) (a1 : List Int) : Option (Int × Bool) := (if (a1.length : Int) ≠ (a0.length : Int) then (some (0, false)) else ((assign_columns.f a0).bind fun t1 => (if 0 ≤ t1 then (if t1 ≤ 281474976710656 then ((assign_Value.l1 a0 a1 k (List.replicate (t1).toNat (false : Bool)) 0 0).bind (assign_Value.k1)) else none) else none)))
def assign_Value.Post (I : Imm) (w : World) (r : Int × Bool) (v : Value) (w' : World) : Prop :=
 ∃ (J : Imm), v = .tuple #[.int .i64 r.1, .bool r.2] ∧ Got w w' I J []
theorem assign_Value.calls (k : Nat) (I0 : Imm) (a0 : List (List Int)) (Ap0 : Option Addr) (cp0 : Nat) (a1 : List Int) (Ap1 : Option Addr) (cp1 : Nat) (w : World) (hI : I0.at_ w) (hlp0 : a0.length ≤ cp0) (hrp0 : Rd (Ty.slice (Ty.int .i64)) I0 Ap0 a0) (hlp1 : a1.length ≤ cp1) (hrp1 : Rd (Ty.int .i64) I0 Ap1 a1) (r : Int × Bool) (h : assign_Value.f k a0 a1 = some r) :
  Calls Try.prog 34 [.slice Ap0 a0.length cp0, .slice Ap1 a1.length cp1].toArray w fun e w' => ∃ v, e = .returned v ∧ assign_Value.Post I0 w r v w' := by
 have H : (if (a1.length : Int) ≠ (a0.length : Int) then (some (0, false)) else ((assign_columns.f a0).bind fun t1 => (if 0 ≤ t1 then (if t1 ≤ 281474976710656 then ((assign_Value.l1 a0 a1 k (List.replicate (t1).toNat (false : Bool)) 0 0).bind (assign_Value.k1)) else none) else none))) = some r := h
 clear h
 refine calls_body Try.func34 (by kernel_rfl) 55 (by kernel_rfl) (by kernel_rfl) ⟨w, fun _ => False, I0⟩ I0 [] [(0, .slice Ap0 a0.length cp0), (1, .slice Ap1 a1.length cp1)] (by kernel_rfl) (Sat.start w _ I0 hI) ?_
 generalize w.heap.size = nx0
 show OK _ K34_0 _ _ _ _ _ _ _ _
 refine OK.sr ?_
 refine RL.st 2 [(0, .slice Ap0 a0.length cp0), (1, .slice Ap1 a1.length cp1)] ?_
 refine OK.sq ?_
 refine OK.sr ?_
 refine RL.st 5 [(14, .bool ((a1.length : Int) != (a0.length : Int))), (0, .slice Ap0 a0.length cp0), (1, .slice Ap1 a1.length cp1)] ?_
 refine OK.cd ((a1.length : Int) != (a0.length : Int)) (fun hb => ?_) (fun hb => ?_)
 ·skip
  have hc := (bne_iff_ne.1 hb)
  rw [if_pos hc] at H
  clear hb
  refine OK.sr ?_
  refine RL.st 2 [(5, .bool false), (4, i6 0)] ?_
  refine OK.re ?_
  refine QN.thenR ?_
  obtain rfl := Option.some.inj H
  refine QN.body rfl [] (RFacts.nil _ _ _) (.no) (.tuple #[i6 0, .bool false]) (by kernel_rfl) (by kernel_rfl) (by kernel_rfl) ?_ _ (.inr rfl)
  exact fun w' hs' => ⟨_, rfl, I0, rfl, hs'.got _ .slnil⟩
 ·skip
  have hc := (not_not_intro (bne_eq_false_iff_eq.1 hb))
  rw [if_neg hc] at H
  clear hb
  refine OK.skt ?_
  refine OK.sr ?_
  refine RL.s 1 [(15, .slice Ap0 a0.length cp0), (0, .slice Ap0 a0.length cp0), (1, .slice Ap1 a1.length cp1)] ?_
  obtain ⟨t1, hA1, H⟩ := bnd H
  refine RL.callP 46 [.slice Ap0 a0.length cp0] (some 16) (fun w => assign_columns.Post I0 w t1) (by kernel_rfl) (by kernel_rfl) (fun w hs => assign_columns.calls I0 a0 Ap0 cp0 w hs.im hlp0 hrp0 t1 hA1) ?_
  rintro w v w' hs ⟨I1, rfl, hg⟩
  have hi1 := hg.le
  refine RL.resume (X' := []) rfl (hs.call hg) ?_
  clear hs hg
  generalize w'.heap.size = nx1
  clear w w'
  obtain ⟨hm1, H⟩ := ifs H
  obtain ⟨hm2, H⟩ := ifs H
  refine RL.makeL (T := 44) (e := 4) t1 .i64 .i64 (some 17) (.bool false) (false) Ty.bool 1 (by kernel_rfl) (by kernel_rfl) (by kernel_rfl) (by kernel_rfl) (by kernel_rfl) rfl hm1 (by omega) (by omega) (fun nx2 hp1 => ?_)
  refine RL.norm (K' := [(17, .slice (some ⟨nx1, 0, none⟩) ((List.replicate (t1).toNat (false : Bool)).length) ((List.replicate (t1).toNat (false : Bool)).length)), (16, i6 t1), (15, .slice Ap0 a0.length cp0), (0, .slice Ap0 a0.length cp0), (1, .slice Ap1 a1.length cp1)]) (X' := [orow 4 1 (some ⟨nx1, 0, none⟩) ((List.replicate (t1).toNat (false : Bool)).length) ((List.replicate (t1).toNat (false : Bool)).length) (List.replicate (t1).toNat (.bool false))]) (by kernel_rfl) rfl rfl (by kernel_rfl) ?_
  refine RL.st 1 [(6, .slice (some ⟨nx1, 0, none⟩) ((List.replicate (t1).toNat (false : Bool)).length) ((List.replicate (t1).toNat (false : Bool)).length)), (0, .slice Ap0 a0.length cp0), (1, .slice Ap1 a1.length cp1)] ?_
  refine OK.sr ?_
  refine RL.st 1 [(7, i6 0), (6, .slice (some ⟨nx1, 0, none⟩) ((List.replicate (t1).toNat (false : Bool)).length) ((List.replicate (t1).toNat (false : Bool)).length)), (0, .slice Ap0 a0.length cp0), (1, .slice Ap1 a1.length cp1)] ?_
  refine OK.sq ?_
  refine OK.sr ?_
  refine RL.st 3 [(20, i6 0), (19, i6 (a1.length : Int)), (18, .slice Ap1 a1.length cp1), (7, i6 0), (6, .slice (some ⟨nx1, 0, none⟩) ((List.replicate (t1).toNat (false : Bool)).length) ((List.replicate (t1).toNat (false : Bool)).length)), (0, .slice Ap0 a0.length cp0)] ?_
  refine OK.join (fun K' I' _ L' X' => ∃ (x1 : Int), K' = [(7, i6 x1)] ∧ L' = [] ∧ X' = [] ∧ Imm.le I1 I' ∧ assign_Value.k1 (Sum.inl x1) = some r) ?_ ?_
  ·rintro _ I2 nx3 _ _ ⟨x1, rfl, rfl, rfl, hi2, H⟩
   rw [assign_Value.k1] at H
   refine QN.then_ ?_
   refine OK.sr ?_
   refine RL.st 3 [(5, .bool true), (4, i6 x1)] ?_
   refine OK.re ?_
   obtain rfl := Option.some.inj H
   refine QN.body rfl [] (RFacts.nil _ _ _) (.no) (.tuple #[i6 x1, .bool true]) (by kernel_rfl) (by kernel_rfl) (by kernel_rfl) ?_ _ (.inr rfl)
   exact fun w' hs' => ⟨_, rfl, I2, rfl, hs'.got _ .slnil⟩
  ·intro Q_1 hJ1 hQ1
   obtain ⟨y1, H, HK1⟩ := bnd H
   refine OK.bk 0 ?_
   refine OK.sub (K' := [(0, .slice Ap0 a0.length cp0), (6, .slice (some ⟨nx1, 0, none⟩) ((List.replicate (t1).toNat (false : Bool)).length) ((List.replicate (t1).toNat (false : Bool)).length)), (7, i6 0), (18, .slice Ap1 a1.length cp1), (19, i6 (a1.length : Int)), (20, i6 0)]) (L' := []) (by kernel_rfl) .slnil (.refl _) ?_
   refine OK.lp (fun n_ K' I' _ L' X' => ∃ (x2 : List Bool) (x3 : Int) (x4 : Int) (A1 : Option Addr) (c1 : Nat) (cs1 : List Value), K' = [(0, .slice Ap0 a0.length cp0), (6, .slice A1 x2.length c1), (7, i6 x3), (18, .slice Ap1 a1.length cp1), (19, i6 (a1.length : Int)), (20, i6 x4)] ∧ L' = [] ∧ X' = [orow 4 1 A1 x2.length c1 cs1] ∧ Imm.le I1 I' ∧ Reps Ty.bool I' x2 cs1 ∧ assign_Value.l1 a0 a1 n_ x2 x3 x4 = some y1) k ⟨List.replicate (t1).toNat (false : Bool), 0, 0, (some ⟨nx1, 0, none⟩), (List.replicate (t1).toNat (false : Bool)).length, (List.replicate (t1).toNat (.bool false)), rfl, rfl, rfl, (Imm.le_refl _), hp1, H⟩ ?_ ?_
   ·rintro _ _ _ _ _ ⟨x2, x3, x4, A1, c1, cs1, rfl, rfl, rfl, _, hp2, H⟩
    cases H
   ·rintro kq1 _ I3 nx4 _ _ ⟨x2, x3, x4, A1, c1, cs1, rfl, rfl, rfl, hi3, hp2, H⟩ Q_l1 hJ2 hQ2
    rw [assign_Value.l1] at H
    refine OK.sr ?_
    refine RL.st 1 [(21, .bool (decide (x4 < (a1.length : Int)))), (0, .slice Ap0 a0.length cp0), (6, .slice A1 x2.length c1), (7, i6 x3), (18, .slice Ap1 a1.length cp1), (19, i6 (a1.length : Int)), (20, i6 x4)] ?_
    refine OK.sq ?_
    refine OK.cd (decide (x4 < (a1.length : Int))) (fun hb => ?_) (fun hb => ?_)
    ·skip
     have hc := (of_decide_eq_true hb)
     rw [if_pos hc] at H
     clear hb
     refine OK.skt ?_
     refine OK.sq ?_
     refine OK.join (fun K' I' _ L' X' => ∃ (x5 : List Bool) (x6 : Int) (A2 : Option Addr) (c2 : Nat) (cs2 : List Value), K' = [(0, .slice Ap0 a0.length cp0), (6, .slice A2 x5.length c2), (7, i6 x6), (18, .slice Ap1 a1.length cp1), (19, i6 (a1.length : Int)), (20, i6 x4)] ∧ L' = [] ∧ X' = [orow 4 1 A2 x5.length c2 cs2] ∧ Imm.le I3 I' ∧ Reps Ty.bool I' x5 cs2 ∧ (assign_Value.l1 a0 a1 kq1 x5 x6 (W .i64 (x4 + 1))) = some y1) ?_ ?_
     ·rintro _ I4 nx5 _ _ ⟨x5, x6, A2, c2, cs2, rfl, rfl, rfl, hi4, hp3, H⟩
      replace H : (assign_Value.l1 a0 a1 kq1 x5 x6 (W .i64 (x4 + 1))) = some y1 := H
      refine QN.then_ ?_
      refine OK.rg ?_
      refine RL.s 2 [(20, i6 (W .i64 (x4 + 1))), (0, .slice Ap0 a0.length cp0), (6, .slice A2 x5.length c2), (7, i6 x6), (18, .slice Ap1 a1.length cp1), (19, i6 (a1.length : Int))] ?_
      refine RL.nil (by kernel_rfl) ?_
      exact QN.sb (hJ2 _ _ _ _ _ ⟨x5, x6, W .i64 (x4 + 1), A2, c2, cs2, rfl, rfl, rfl, (Imm.le_trans hi3 hi4), hp3, H⟩) .slnil (.refl _)
     ·intro Q_2 hJ3 hQ3
      obtain ⟨y2, H, HK2⟩ := bnd H
      refine OK.bk 1 ?_
      refine OK.sr ?_
      refine RL.s 1 [(22, i6 x4), (0, .slice Ap0 a0.length cp0), (6, .slice A1 x2.length c1), (7, i6 x3), (18, .slice Ap1 a1.length cp1), (19, i6 (a1.length : Int)), (20, i6 x4)] ?_
      obtain ⟨hib0, H⟩ := ifs H
      obtain ⟨hib1, H⟩ := ifs H
      obtain ⟨g1_, o1_, hA1_, hc1_⟩ := Ty.int_at (Rd.ext (Imm.le_trans hi1 hi3) hrp1) x4 hib0 hib1
      refine RL.idx 1 .i64 x4 hA1_ a1.length cp1 (some 23) (by kernel_rfl) (by kernel_rfl) (T := 26) (e := 3) (by kernel_rfl) (by kernel_rfl) hib0 hib1 (K' := [(23, pt g1_ (o1_ + (x4).toNat * 1)), (22, i6 x4), (0, .slice Ap0 a0.length cp0), (6, .slice A1 x2.length c1), (7, i6 x3), (18, .slice Ap1 a1.length cp1), (19, i6 (a1.length : Int)), (20, i6 x4)]) (by kernel_rfl) ?_
      refine RL.simK (K' := [(9, i6 (a1.getD (x4).toNat 0)), (8, i6 x4), (0, .slice Ap0 a0.length cp0), (6, .slice A1 x2.length c1), (7, i6 x3), (18, .slice Ap1 a1.length cp1), (19, i6 (a1.length : Int)), (20, i6 x4)]) [(⟨g1_, o1_ + (x4).toNat * 1, none⟩, i6 (a1.getD (x4).toNat 0))] (RFacts.imm (hc1_ 0 _ rfl) (RFacts.nil _ _ _)) 3 [.r 0, .no, .no] (by kernel_rfl) (by kernel_rfl) ?_
      refine RL.nt ?_
      refine OK.sq ?_
      refine OK.sr ?_
      refine RL.st 2 [(26, .bool ((a1.getD (x4).toNat 0) == (-1))), (9, i6 (a1.getD (x4).toNat 0)), (8, i6 x4), (0, .slice Ap0 a0.length cp0), (6, .slice A1 x2.length c1), (7, i6 x3), (18, .slice Ap1 a1.length cp1), (19, i6 (a1.length : Int)), (20, i6 x4)] ?_
      refine OK.cd ((a1.getD (x4).toNat 0) == (-1)) (fun hb => ?_) (fun hb => ?_)
      ·skip
       have hc := (beq_iff_eq.1 hb)
       rw [if_pos hc] at H
       clear hb
       refine OK.ex 1 ?_
       refine QN.thenE ?_
       refine QN.blkE ?_
       obtain rfl := Option.some.inj H
       exact QN.sb (hJ3 _ _ _ _ _ ⟨x2, x3, A1, c1, cs1, rfl, rfl, rfl, (Imm.le_refl _), hp2, HK2⟩) .slnil (.refl _)
      ·skip
       have hc := (beq_eq_false_iff_ne.1 hb)
       rw [if_neg hc] at H
       clear hb
       refine OK.skt ?_
       refine OK.sq ?_
       refine OK.sq ?_
       refine OK.join (fun K' I' _ L' X' => ∃ (x7 : Bool), K' = [(0, .slice Ap0 a0.length cp0), (6, .slice A1 x2.length c1), (7, i6 x3), (8, i6 x4), (9, i6 (a1.getD (x4).toNat 0)), (18, .slice Ap1 a1.length cp1), (19, i6 (a1.length : Int)), (20, i6 x4), (40, .bool x7)] ∧ L' = [] ∧ X' = [orow 4 1 A1 x2.length c1 cs1] ∧ Imm.le I3 I' ∧ assign_Value.k3 a0 a1 x2 x3 x4 x7 = some y2) ?_ ?_
       ·rintro _ I5 nx6 _ _ ⟨x7, rfl, rfl, rfl, hi5, H⟩
        rw [assign_Value.k3] at H
        refine QN.then_ ?_
        refine OK.cd x7 (fun hb => ?_) (fun hb => ?_)
        ·skip
         have hc := hb
         rw [if_pos hc] at H
         clear hb
         refine OK.sr ?_
         refine RL.st 2 [(5, .bool false), (4, i6 0)] ?_
         refine OK.re ?_
         refine QN.thenR ?_
         refine QN.blkR ?_
         refine QN.outR hQ3 ?_
         refine QN.thenR ?_
         refine QN.outR hQ2 ?_
         refine QN.blkR ?_
         refine QN.outR hQ1 ?_
         refine QN.thenR ?_
         obtain rfl := Option.some.inj H
         replace H : some (Sum.inr (0, false)) = some y1 := HK2
         obtain rfl := Option.some.inj H
         replace H : some (0, false) = some r := HK1
         obtain rfl := Option.some.inj H
         refine QN.body rfl [] (RFacts.nil _ _ _) (.no) (.tuple #[i6 0, .bool false]) (by kernel_rfl) (by kernel_rfl) (by kernel_rfl) ?_ _ (.inr rfl)
         exact fun w' hs' => ⟨_, rfl, I5, rfl, hs'.got _ (.cons _ .slnil)⟩
        ·skip
         have hc := (Bool.eq_false_iff.1 hb)
         rw [if_neg hc] at H
         clear hb
         refine OK.skt ?_
         refine OK.sr ?_
         refine RL.s 2 [(42, i6 (a1.getD (x4).toNat 0)), (41, .slice A1 x2.length c1), (0, .slice Ap0 a0.length cp0), (6, .slice A1 x2.length c1), (7, i6 x3), (8, i6 x4), (9, i6 (a1.getD (x4).toNat 0)), (18, .slice Ap1 a1.length cp1), (19, i6 (a1.length : Int)), (20, i6 x4)] ?_
         obtain ⟨hib0, H⟩ := ifs H
         obtain ⟨hib1, H⟩ := ifs H
         have hx02_ := hib0; have hx12_ := hib1
         refine RL.ownAddr (e := 4) (sz := 1) (S := A1) (n := x2.length) (cap := c1) (cs := cs1) 0 (by kernel_rfl) (by omega) (fun g2_ hA2_ => ?_)
         have hc2_ := Ty.bool_own (Reps.ext hi5 hp2) (a1.getD (x4).toNat 0) hib0 hib1
         refine RL.idx 1 .i64 (a1.getD (x4).toNat 0) hA2_ x2.length c1 (some 43) (by kernel_rfl) (by kernel_rfl) (T := 44) (e := 4) (by kernel_rfl) (by kernel_rfl) hib0 hib1 (K' := [(43, pt g2_ (0 + ((a1.getD (x4).toNat 0)).toNat * 1)), (42, i6 (a1.getD (x4).toNat 0)), (41, .slice A1 x2.length c1), (0, .slice Ap0 a0.length cp0), (6, .slice A1 x2.length c1), (7, i6 x3), (8, i6 x4), (9, i6 (a1.getD (x4).toNat 0)), (18, .slice Ap1 a1.length cp1), (19, i6 (a1.length : Int)), (20, i6 x4)]) (by kernel_rfl) ?_
         refine RL.storeL (T := 4) (e := 4) 1 0 hA2_ c1 (a1.getD (x4).toNat 0) cs1 [.bool true] (.bool true) Ty.bool x2 true (by kernel_rfl) (by kernel_rfl) (by kernel_rfl) (by kernel_rfl) (by kernel_rfl) rfl (by kernel_rfl) (Reps.ext hi5 hp2) hx02_ hx12_ (fun cs3 hp4 => ?_)
         refine RL.sub (K' := [(42, i6 (a1.getD (x4).toNat 0)), (41, .slice A1 x2.length c1), (0, .slice Ap0 a0.length cp0), (6, .slice A1 x2.length c1), (7, i6 x3), (8, i6 x4), (9, i6 (a1.getD (x4).toNat 0)), (18, .slice Ap1 a1.length cp1), (19, i6 (a1.length : Int)), (20, i6 x4)]) (L' := []) (X' := [orow 4 1 A1 ((x2.set ((a1.getD (x4).toNat 0)).toNat true).length) c1 cs3]) (by kernel_rfl) (.refl _) (.refl _) ?_
         refine RL.norm (K' := [(42, i6 (a1.getD (x4).toNat 0)), (41, .slice A1 ((x2.set ((a1.getD (x4).toNat 0)).toNat true).length) c1), (0, .slice Ap0 a0.length cp0), (6, .slice A1 ((x2.set ((a1.getD (x4).toNat 0)).toNat true).length) c1), (7, i6 x3), (8, i6 x4), (9, i6 (a1.getD (x4).toNat 0)), (18, .slice Ap1 a1.length cp1), (19, i6 (a1.length : Int)), (20, i6 x4)]) (L' := []) (by simp only [List.length_set]) rfl (by first | rfl | simp only [List.length_set]) rfl ?_
         refine RL.nil (by kernel_rfl) ?_
         refine QN.sub (K' := [(0, .slice Ap0 a0.length cp0), (6, .slice A1 ((x2.set ((a1.getD (x4).toNat 0)).toNat true).length) c1), (7, i6 x3), (8, i6 x4), (9, i6 (a1.getD (x4).toNat 0)), (18, .slice Ap1 a1.length cp1), (19, i6 (a1.length : Int)), (20, i6 x4)]) (L' := []) (by kernel_rfl) .slnil (.refl _) ?_
         refine QN.then_ ?_
         refine OK.rg ?_
         refine RL.s 3 [(46, i6 x4), (45, .slice Ap0 a0.length cp0), (44, i6 x3), (0, .slice Ap0 a0.length cp0), (6, .slice A1 ((x2.set ((a1.getD (x4).toNat 0)).toNat true).length) c1), (7, i6 x3), (9, i6 (a1.getD (x4).toNat 0)), (18, .slice Ap1 a1.length cp1), (19, i6 (a1.length : Int)), (20, i6 x4)] ?_
         obtain ⟨hib0, H⟩ := ifs H
         obtain ⟨hib1, H⟩ := ifs H
         obtain ⟨g3_, o3_, hA3_, A3_, c3_, hl3_, hr3_, hc3_⟩ := Ty.slice_at (Rd.ext (Imm.le_trans (Imm.le_trans hi1 hi3) hi5) hrp0) x4 hib0 hib1
         refine RL.idx 1 .i64 x4 hA3_ a0.length cp0 (some 47) (by kernel_rfl) (by kernel_rfl) (T := 33) (e := 27) (by kernel_rfl) (by kernel_rfl) hib0 hib1 (K' := [(47, pt g3_ (o3_ + (x4).toNat * 1)), (46, i6 x4), (45, .slice Ap0 a0.length cp0), (44, i6 x3), (0, .slice Ap0 a0.length cp0), (6, .slice A1 ((x2.set ((a1.getD (x4).toNat 0)).toNat true).length) c1), (7, i6 x3), (9, i6 (a1.getD (x4).toNat 0)), (18, .slice Ap1 a1.length cp1), (19, i6 (a1.length : Int)), (20, i6 x4)]) (by kernel_rfl) ?_
         refine RL.simK (K' := [(49, i6 (a1.getD (x4).toNat 0)), (48, .slice A3_ ((a0.getD (x4).toNat []).length) c3_), (44, i6 x3), (0, .slice Ap0 a0.length cp0), (6, .slice A1 ((x2.set ((a1.getD (x4).toNat 0)).toNat true).length) c1), (7, i6 x3), (18, .slice Ap1 a1.length cp1), (19, i6 (a1.length : Int)), (20, i6 x4)]) [(⟨g3_, o3_ + (x4).toNat * 1, none⟩, .slice A3_ ((a0.getD (x4).toNat []).length) c3_)] (RFacts.imm (hc3_ 0 _ rfl) (RFacts.nil _ _ _)) 2 [.r 0, .no] (by kernel_rfl) (by kernel_rfl) ?_
         obtain ⟨hib0, H⟩ := ifs H
         obtain ⟨hib1, H⟩ := ifs H
         obtain ⟨g4_, o4_, hA4_, hc4_⟩ := Ty.int_at hr3_ (a1.getD (x4).toNat 0) hib0 hib1
         refine RL.idx 1 .i64 (a1.getD (x4).toNat 0) hA4_ ((a0.getD (x4).toNat []).length) c3_ (some 50) (by kernel_rfl) (by kernel_rfl) (T := 27) (e := 2) (by kernel_rfl) (by kernel_rfl) hib0 hib1 (K' := [(50, pt g4_ (o4_ + ((a1.getD (x4).toNat 0)).toNat * 1)), (49, i6 (a1.getD (x4).toNat 0)), (48, .slice A3_ ((a0.getD (x4).toNat []).length) c3_), (44, i6 x3), (0, .slice Ap0 a0.length cp0), (6, .slice A1 ((x2.set ((a1.getD (x4).toNat 0)).toNat true).length) c1), (7, i6 x3), (18, .slice Ap1 a1.length cp1), (19, i6 (a1.length : Int)), (20, i6 x4)]) (by kernel_rfl) ?_
         refine RL.simK (K' := [(7, i6 (W .i64 (x3 + ((a0.getD (x4).toNat []).getD ((a1.getD (x4).toNat 0)).toNat 0)))), (0, .slice Ap0 a0.length cp0), (6, .slice A1 ((x2.set ((a1.getD (x4).toNat 0)).toNat true).length) c1), (18, .slice Ap1 a1.length cp1), (19, i6 (a1.length : Int)), (20, i6 x4)]) [(⟨g4_, o4_ + ((a1.getD (x4).toNat 0)).toNat * 1, none⟩, i6 ((a0.getD (x4).toNat []).getD ((a1.getD (x4).toNat 0)).toNat 0))] (RFacts.imm (hc4_ 0 _ rfl) (RFacts.nil _ _ _)) 3 [.r 0, .no, .no] (by kernel_rfl) (by kernel_rfl) ?_
         refine RL.nil (by kernel_rfl) ?_
         refine QN.blkN ?_
         obtain rfl := Option.some.inj H
         exact QN.sb (hJ3 _ _ _ _ _ ⟨x2.set ((a1.getD (x4).toNat 0)).toNat true, W .i64 (x3 + ((a0.getD (x4).toNat []).getD ((a1.getD (x4).toNat 0)).toNat 0)), A1, c1, cs3, rfl, rfl, rfl, hi5, hp4, HK2⟩) .slnil (.refl _)
       ·intro Q_3 hJ4 hQ4
        obtain ⟨y3, H, HK3⟩ := bnd H
        refine OK.rg ?_
        refine RL.s 3 [(29, .bool (decide ((a1.getD (x4).toNat 0) < 0))), (9, i6 (a1.getD (x4).toNat 0)), (8, i6 x4), (0, .slice Ap0 a0.length cp0), (6, .slice A1 x2.length c1), (7, i6 x3), (18, .slice Ap1 a1.length cp1), (19, i6 (a1.length : Int)), (20, i6 x4)] ?_
        refine RL.cases (decide ((a1.getD (x4).toNat 0) < 0)) (fun hb => ?_) (fun hb => ?_)
        ·have hc := (of_decide_eq_true hb)
         rw [hb]
         rw [if_pos hc] at H; clear hb
         refine RL.s 11 [(40, .bool true), (9, i6 (a1.getD (x4).toNat 0)), (8, i6 x4), (0, .slice Ap0 a0.length cp0), (6, .slice A1 x2.length c1), (7, i6 x3), (18, .slice Ap1 a1.length cp1), (19, i6 (a1.length : Int)), (20, i6 x4)] ?_
         refine RL.nil (by kernel_rfl) ?_
         obtain rfl := Option.some.inj H
         exact QN.sb (hJ4 _ _ _ _ _ ⟨true, rfl, rfl, rfl, (Imm.le_refl _), HK3⟩) .slnil (.refl _)
        ·have hc := (of_decide_eq_false hb)
         rw [hb]
         rw [if_neg hc] at H; clear hb
         refine RL.s 6 [(35, .bool (decide ((a1.getD (x4).toNat 0) ≥ (x2.length : Int)))), (9, i6 (a1.getD (x4).toNat 0)), (8, i6 x4), (0, .slice Ap0 a0.length cp0), (6, .slice A1 x2.length c1), (7, i6 x3), (18, .slice Ap1 a1.length cp1), (19, i6 (a1.length : Int)), (20, i6 x4)] ?_
         refine RL.cases (decide ((a1.getD (x4).toNat 0) ≥ (x2.length : Int))) (fun hb => ?_) (fun hb => ?_)
         ·have hc := (of_decide_eq_true hb)
          rw [hb]
          rw [if_pos hc] at H; clear hb
          refine RL.s 5 [(40, .bool true), (9, i6 (a1.getD (x4).toNat 0)), (8, i6 x4), (0, .slice Ap0 a0.length cp0), (6, .slice A1 x2.length c1), (7, i6 x3), (18, .slice Ap1 a1.length cp1), (19, i6 (a1.length : Int)), (20, i6 x4)] ?_
          refine RL.nil (by kernel_rfl) ?_
          obtain rfl := Option.some.inj H
          exact QN.sb (hJ4 _ _ _ _ _ ⟨true, rfl, rfl, rfl, (Imm.le_refl _), HK3⟩) .slnil (.refl _)
         ·have hc := (of_decide_eq_false hb)
          rw [hb]
          rw [if_neg hc] at H; clear hb
          refine RL.s 2 [(37, i6 (a1.getD (x4).toNat 0)), (36, .slice A1 x2.length c1), (35, .bool false), (9, i6 (a1.getD (x4).toNat 0)), (8, i6 x4), (0, .slice Ap0 a0.length cp0), (6, .slice A1 x2.length c1), (7, i6 x3), (18, .slice Ap1 a1.length cp1), (19, i6 (a1.length : Int)), (20, i6 x4)] ?_
          obtain ⟨hib0, H⟩ := ifs H
          obtain ⟨hib1, H⟩ := ifs H
          have hx05_ := hib0; have hx15_ := hib1
          refine RL.ownAddr (e := 4) (sz := 1) (S := A1) (n := x2.length) (cap := c1) (cs := cs1) 0 (by kernel_rfl) (by omega) (fun g5_ hA5_ => ?_)
          have hc5_ := Ty.bool_own hp2 (a1.getD (x4).toNat 0) hib0 hib1
          refine RL.idx 1 .i64 (a1.getD (x4).toNat 0) hA5_ x2.length c1 (some 38) (by kernel_rfl) (by kernel_rfl) (T := 44) (e := 4) (by kernel_rfl) (by kernel_rfl) hib0 hib1 (K' := [(38, pt g5_ (0 + ((a1.getD (x4).toNat 0)).toNat * 1)), (37, i6 (a1.getD (x4).toNat 0)), (36, .slice A1 x2.length c1), (35, .bool false), (9, i6 (a1.getD (x4).toNat 0)), (8, i6 x4), (0, .slice Ap0 a0.length cp0), (6, .slice A1 x2.length c1), (7, i6 x3), (18, .slice Ap1 a1.length cp1), (19, i6 (a1.length : Int)), (20, i6 x4)]) (by kernel_rfl) ?_
          refine RL.simK (K' := [(40, .bool (x2.getD ((a1.getD (x4).toNat 0)).toNat false)), (9, i6 (a1.getD (x4).toNat 0)), (8, i6 x4), (0, .slice Ap0 a0.length cp0), (6, .slice A1 x2.length c1), (7, i6 x3), (18, .slice Ap1 a1.length cp1), (19, i6 (a1.length : Int)), (20, i6 x4)]) [(⟨g5_, 0 + ((a1.getD (x4).toNat 0)).toNat * 1, none⟩, .bool (x2.getD ((a1.getD (x4).toNat 0)).toNat false))] (RFacts.ownQ (e := 4) (sz := 1) (S := A1) (n := x2.length) (cap := c1) (cs := cs1) 0 (by kernel_rfl) hA5_ (0 + ((a1.getD (x4).toNat 0)).toNat * 1) (((a1.getD (x4).toNat 0)).toNat * 1 + 0) (by omega) (hc5_ 0 _ rfl) (RFacts.nil _ _ _)) 2 [.r 0, .no] (by kernel_rfl) (by kernel_rfl) ?_
          refine RL.nil (by kernel_rfl) ?_
          obtain rfl := Option.some.inj H
          exact QN.sb (hJ4 _ _ _ _ _ ⟨(x2.getD ((a1.getD (x4).toNat 0)).toNat false), rfl, rfl, rfl, (Imm.le_refl _), HK3⟩) .slnil (.refl _)
    ·skip
     have hc := (of_decide_eq_false hb)
     rw [if_neg hc] at H
     clear hb
     refine OK.ex 0 ?_
     refine QN.thenE ?_
     refine QN.outE hQ2 ?_
     refine QN.blkE ?_
     obtain rfl := Option.some.inj H
     refine QN.sel (K' := [(7, i6 x3)]) (L' := []) [] (by kernel_rfl) (by kernel_rfl) .slnil ?_
     refine QN.norm (X' := []) rfl rfl rfl (by kernel_rfl) ?_
     exact hJ1 _ _ _ _ _ ⟨x3, rfl, rfl, rfl, hi3, HK1⟩

end Go.Proofs.Ytihmbmeelheinaa
namespace Go.Proofs.Ytihmbmeelheinaa
open Go Go.Proofs.Ytihmbmeelheinaa.RW
set_option linter.unusedVariables false
set_option maxRecDepth 100000
set_option maxHeartbeats 8000000

/-! ### slices_Delete_int64_int64s0: function 36, slices.Delete[[][]int64,[]int64] -/
noncomputable def K36s0_0 : Code := cBody Try.f36
noncomputable def O36s0_20 : List Oper := cOps (cL (cR (cR (cR (cR K36s0_0)))))
def slices_Delete_int64_int64s0.f (a0 : List (List Int)) (a1 : Int) (a2 : Int) : Option (List (List Int)) := (if (0 : Int) ≤ a1 then (if a1 ≤ a2 then (if a2 ≤ (a0.length : Int) then (if a1 = a2 then (some a0) else (if (0 : Int) ≤ a1 then (if a1 ≤ (a0.length : Int) then (if (0 : Int) ≤ a2 then (if a2 ≤ (a0.length : Int) then (some (a0.take (a1).toNat ++ a0.drop (a2).toNat)) else none) else none) else none) else none)) else none) else none) else none)
def slices_Delete_int64_int64s0.Post (S : Nat → Prop) (a0 : List (List Int)) (Aa0 : Option Addr) (ca0 : Nat) (csa0 : List Value) (a1 : Int) (a2 : Int) (I : Imm) (w : World) (r : List (List Int)) (v : Value) (w' : World) : Prop :=
 ∃ (J : Imm) (Ar0 : Option Addr) (cr0 : Nat) (csr0 : List Value), v = .slice Ar0 r.length cr0 ∧ Sat ⟨w, S, I⟩ J w'.heap.size [] [orow 27 1 Ar0 r.length cr0 csr0] w' ∧ Reps (Ty.slice (Ty.int .i64)) J r csr0
noncomputable def a36s0_20n : List Nat := [0, 0, 3, 0, 0, 24, 63, 127]
theorem a36s0_20 : ancs O36s0_20 [] = a36s0_20n := by kernel_rfl
theorem a36s0_20o : drawOk O36s0_20 a36s0_20n 6 = true := by kernel_rfl
noncomputable def u36d1l  : List Ld :=
 []
noncomputable def u36d1g (a0 : List (List Int)) (Aa0 : Option Addr) (ca0 : Nat) (a1 : Int) (a2 : Int) : List (Nat × ((Nat → Wt) → Value)) := [(2, fun u => .slice Aa0 ((a1).toNat) ca0), (5, fun u => .slice (slA Aa0 (a2).toNat ca0 1) (a0.length - (a2).toNat) (ca0 - (a2).toNat))]
noncomputable def u36d1q (a0 : List (List Int)) (Aa0 : Option Addr) (ca0 : Nat) (a1 : Int) (a2 : Int) (u : Nat → Wt) : Option (List Value × List (Nat × Value) × List (Nat × Nat)) := qSim Try.prog [] [] O36s0_20 ⟨33, []⟩ (Ld.vl u36d1l) (u36d1g a0 Aa0 ca0 a1 a2) u [.no, .no, .no, .no, .no, .no] 0 (O36s0_20.take 6) [(7, i6 (a0.length : Int)), (0, .slice Aa0 a0.length ca0), (1, i6 a1), (2, i6 a2)]
noncomputable def u36d1s (a0 : List (List Int)) (Aa0 : Option Addr) (ca0 : Nat) (a1 : Int) (a2 : Int) (u : Nat → Wt) : List Value := [.slice Aa0 a0.length ca0, i6 a1, .slice Aa0 ((a1).toNat) ca0, .slice Aa0 a0.length ca0, i6 a2, .slice (slA Aa0 (a2).toNat ca0 1) (a0.length - (a2).toNat) (ca0 - (a2).toNat)]
noncomputable def u36d1f (a0 : List (List Int)) (Aa0 : Option Addr) (ca0 : Nat) (a1 : Int) (a2 : Int) (i : Nat) (u : Nat → Wt) : List (Nat × Value) := foldPut ⟨33, []⟩ [(7, i6 (a0.length : Int)), (0, .slice Aa0 a0.length ca0), (1, i6 a1), (2, i6 a2)] (O36s0_20.take i) (((u36d1s a0 Aa0 ca0 a1 a2) u).take i)
theorem u36d1v (a0 : List (List Int)) (Aa0 : Option Addr) (ca0 : Nat) (a1 : Int) (a2 : Int) (u : Nat → Wt) : (u36d1q a0 Aa0 ca0 a1 a2 u).map (fun x => (x.1, x.2.1)) = some ((u36d1s a0 Aa0 ca0 a1 a2) u, (u36d1f a0 Aa0 ca0 a1 a2 6) u) := by kernel_rfl
theorem u36d1e (a0 : List (List Int)) (Aa0 : Option Addr) (ca0 : Nat) (a1 : Int) (a2 : Int) (u : Nat → Wt) : (u36d1q a0 Aa0 ca0 a1 a2 u).map (fun x => x.2.2.map (·.1)) = (u36d1q a0 Aa0 ca0 a1 a2 u).map (fun x => x.2.2.map (·.2)) := by kernel_rfl
theorem slices_Delete_int64_int64s0.calls (I0 : Imm) (a0 : List (List Int)) (Aa0 : Option Addr) (ca0 : Nat) (csa0 : List Value) (a1 : Int) (a2 : Int) (w : World) (hs : Sat ⟨w, SM [] [orow 27 1 Aa0 a0.length ca0 csa0], I0⟩ I0 w.heap.size [] [orow 27 1 Aa0 a0.length ca0 csa0] w) (hpa0 : Reps (Ty.slice (Ty.int .i64)) I0 a0 csa0) (r : List (List Int)) (h : slices_Delete_int64_int64s0.f a0 a1 a2 = some r) :
  Calls Try.prog 36 [.slice Aa0 a0.length ca0, i6 a1, i6 a2].toArray w fun e w' => ∃ v, e = .returned v ∧ slices_Delete_int64_int64s0.Post (SM [] [orow 27 1 Aa0 a0.length ca0 csa0]) a0 Aa0 ca0 csa0 a1 a2 I0 w r v w' := by
 have H : (if (0 : Int) ≤ a1 then (if a1 ≤ a2 then (if a2 ≤ (a0.length : Int) then (if a1 = a2 then (some a0) else (if (0 : Int) ≤ a1 then (if a1 ≤ (a0.length : Int) then (if (0 : Int) ≤ a2 then (if a2 ≤ (a0.length : Int) then (some (a0.take (a1).toNat ++ a0.drop (a2).toNat)) else none) else none) else none) else none)) else none) else none) else none) = some r := h
 clear h
 refine calls_bodyL Try.func36 (by kernel_rfl) 33 (by kernel_rfl) (by kernel_rfl) ⟨w, SM [] [orow 27 1 Aa0 a0.length ca0 csa0], I0⟩ I0 [] [orow 27 1 Aa0 a0.length ca0 csa0] [(0, .slice Aa0 a0.length ca0), (1, i6 a1), (2, i6 a2)] (by kernel_rfl) hs ?_
 generalize w.heap.size = nx0
 show OK _ K36s0_0 _ _ _ _ _ _ _ _
 refine OK.sr ?_
 refine RL.st 1 [(0, .slice Aa0 a0.length ca0), (1, i6 a1), (2, i6 a2)] ?_
 refine OK.sr ?_
 refine RL.s 5 [(12, i6 (a0.length : Int)), (10, i6 a2), (9, i6 a1), (8, .slice Aa0 a0.length ca0), (0, .slice Aa0 a0.length ca0), (1, i6 a1), (2, i6 a2)] ?_
 obtain ⟨hd1, H⟩ := ifs H
 obtain ⟨hd2, H⟩ := ifs H
 obtain ⟨hd3, H⟩ := ifs H
 refine RL.slice3 (T := 33) (e := 27) (S := Aa0) (n := a0.length) (cap := ca0) (lo := a1) (hi := a2) (mx := (a0.length : Int)) 1 .i64 .i64 .i64 (some 13) (by kernel_rfl) (by kernel_rfl) (by kernel_rfl) (by kernel_rfl) hd1 hd2 hd3 (fun w hs => hs.own_le' 0 (e := 27) (sz := 1) (S := Aa0) (n := a0.length) (cap := ca0) (cs := csa0) (by kernel_rfl) (Int.le_refl _)) (K' := [(13, .slice (slA Aa0 (a1).toNat ((a0.length : Int)).toNat 1) ((a2).toNat - (a1).toNat) (((a0.length : Int)).toNat - (a1).toNat)), (12, i6 (a0.length : Int)), (10, i6 a2), (9, i6 a1), (8, .slice Aa0 a0.length ca0), (0, .slice Aa0 a0.length ca0), (1, i6 a1), (2, i6 a2)]) (by kernel_rfl) ?_
 refine RL.nil (by kernel_rfl) ?_
 refine QN.sub (K' := [(0, .slice Aa0 a0.length ca0), (1, i6 a1), (2, i6 a2)]) (L' := []) (by kernel_rfl) .slnil (.refl _) ?_
 refine QN.then_ ?_
 refine OK.sq ?_
 refine OK.sr ?_
 refine RL.st 3 [(16, .bool (a1 == a2)), (0, .slice Aa0 a0.length ca0), (1, i6 a1), (2, i6 a2)] ?_
 refine OK.cd (a1 == a2) (fun hb => ?_) (fun hb => ?_)
 ·skip
  have hc := (beq_iff_eq.1 hb)
  rw [if_pos hc] at H
  clear hb
  refine OK.sr ?_
  refine RL.st 2 [(6, .slice Aa0 a0.length ca0)] ?_
  refine OK.re ?_
  refine QN.thenR ?_
  obtain rfl := Option.some.inj H
  refine QN.body rfl [] (RFacts.nil _ _ _) (.no) (.slice Aa0 a0.length ca0) (by kernel_rfl) (by kernel_rfl) (by kernel_rfl) ?_ _ (.inr rfl)
  exact fun w' hs' => ⟨_, rfl, I0, Aa0, ca0, csa0, rfl, ((hs'.fin.selB [] (by kernel_rfl)).sel [0] (by kernel_rfl)), hpa0⟩
 ·skip
  have hc := (beq_eq_false_iff_ne.1 hb)
  rw [if_neg hc] at H
  clear hb
  refine OK.skt ?_
  refine OK.sr ?_
  refine RL.st 3 [(7, i6 (a0.length : Int)), (0, .slice Aa0 a0.length ca0), (1, i6 a1), (2, i6 a2)] ?_
  refine OK.sq ?_
  refine OK.ownLe 0 (e := 27) (sz := 1) (S := Aa0) (n := a0.length) (cap := ca0) (cs := csa0) (by kernel_rfl) (fun hle1 => ?_)
  obtain ⟨hd4, H⟩ := ifs H
  obtain ⟨hd5, H⟩ := ifs H
  obtain ⟨hd6, H⟩ := ifs H
  obtain ⟨hd7, H⟩ := ifs H
  refine OK.drawnC 5 6 O36s0_20 a36s0_20n (by kernel_rfl) (by kernel_rfl) u36d1l (u36d1g a0 Aa0 ca0 a1 a2) [] (RI.nil _) [.no, .no, .no, .no, .no, .no] a36s0_20 a36s0_20o (by kernel_rfl) (by kernel_rfl) (u36d1s a0 Aa0 ca0 a1 a2) (u36d1f a0 Aa0 ca0 a1 a2 6) (u36d1v a0 Aa0 ca0 a1 a2) (u36d1e a0 Aa0 ca0 a1 a2) [] framesOk.nil ?_ [u36d1f a0 Aa0 ca0 a1 a2 2, u36d1f a0 Aa0 ca0 a1 a2 5] (framesOk.cons (fun u => rfl) (framesOk.cons (fun u => rfl) framesOk.nil)) ?_ ?_
  ·refine LoudsG.nil
  ·refine Givens.cons (fun u w =>  ?_) (fun _ _ _ => rfl) (Givens.cons (fun u w =>  ?_) (fun _ _ _ => rfl) (Givens.nil))
   ·exact giv_ownH (T := 33) (e := 27) (l := a0) (S := Aa0) (cap := ca0) (hi := a1) 1 .i64 (by kernel_rfl) (by kernel_rfl) (by kernel_rfl) hle1 hd4 hd5 w
   ·exact giv_ownL (T := 33) (e := 27) (l := a0) (S := Aa0) (cap := ca0) (lo := a2) 1 .i64 (by kernel_rfl) (by kernel_rfl) (by kernel_rfl) hd6 hd7 w
  intro u I1 nx1 hi1 hF
  clear hF
  refine RL.norm (K' := [(25, .slice (slA Aa0 (a2).toNat ca0 1) (a0.length - (a2).toNat) (ca0 - (a2).toNat)), (24, i6 a2), (23, .slice Aa0 a0.length ca0), (22, .slice Aa0 ((a1).toNat) ca0), (21, i6 a1), (20, .slice Aa0 a0.length ca0), (7, i6 (a0.length : Int)), (0, .slice Aa0 a0.length ca0), (1, i6 a1), (2, i6 a2)]) (X' := [orow 27 1 Aa0 a0.length ca0 csa0]) (by kernel_rfl) rfl rfl rfl ?_
  refine RL.delA (T := 33) (e := 27) 1 33 (S := Aa0) ca0 csa0 (Ty.slice (Ty.int .i64)) a0 0 (a1).toNat (a2).toNat (some 26) (by kernel_rfl) (by kernel_rfl) (by kernel_rfl) (by kernel_rfl) rfl (by kernel_rfl) (Reps.ext hi1 hpa0) (by omega) (by omega) (fun cs1 nx2 hp1 => ?_)
  refine RL.sub (K' := [(26, .slice Aa0 ((a0.take (a1).toNat ++ a0.drop (a2).toNat).length) ca0), (24, i6 a2), (21, i6 a1), (7, i6 (a0.length : Int)), (1, i6 a1), (2, i6 a2)]) (L' := []) (X' := [orow 27 1 Aa0 ((a0.take (a1).toNat ++ a0.drop (a2).toNat).length) ca0 cs1]) (by kernel_rfl) (.refl _) (.refl _) ?_
  refine RL.st 1 [(0, .slice Aa0 ((a0.take (a1).toNat ++ a0.drop (a2).toNat).length) ca0), (7, i6 (a0.length : Int))] ?_
  refine OK.sr ?_
  refine RL.s 4 [(30, i6 (a0.length : Int)), (29, i6 ((a0.take (a1).toNat ++ a0.drop (a2).toNat).length : Int)), (27, .slice Aa0 ((a0.take (a1).toNat ++ a0.drop (a2).toNat).length) ca0), (0, .slice Aa0 ((a0.take (a1).toNat ++ a0.drop (a2).toNat).length) ca0)] ?_
  refine RL.slice2 (T := 33) (e := 27) (S := Aa0) (n := (a0.take (a1).toNat ++ a0.drop (a2).toNat).length) (cap := ca0) (lo := ((a0.take (a1).toNat ++ a0.drop (a2).toNat).length : Int)) (hi := (a0.length : Int)) 1 .i64 .i64 (some 31) (by kernel_rfl) (by kernel_rfl) (by kernel_rfl) (by kernel_rfl) (by omega) (by simp only [List.length_append, List.length_take, List.length_drop]; omega) (fun w hs => by omega) (K' := [(31, .slice (slA Aa0 (((a0.take (a1).toNat ++ a0.drop (a2).toNat).length : Int)).toNat ca0 1) (((a0.length : Int)).toNat - (((a0.take (a1).toNat ++ a0.drop (a2).toNat).length : Int)).toNat) (ca0 - (((a0.take (a1).toNat ++ a0.drop (a2).toNat).length : Int)).toNat)), (30, i6 (a0.length : Int)), (29, i6 ((a0.take (a1).toNat ++ a0.drop (a2).toNat).length : Int)), (27, .slice Aa0 ((a0.take (a1).toNat ++ a0.drop (a2).toNat).length) ca0), (0, .slice Aa0 ((a0.take (a1).toNat ++ a0.drop (a2).toNat).length) ca0)]) (by kernel_rfl) ?_
  refine RL.clearT (T := 33) (e := 27) 1 0 (a0.length - (a0.take (a1).toNat ++ a0.drop (a2).toNat).length) 0 (S := Aa0) (n := (a0.take (a1).toNat ++ a0.drop (a2).toNat).length) (cap := ca0) (cs := cs1) (.slice none 0 0) (by kernel_rfl) (by kernel_rfl) (by kernel_rfl) (by kernel_rfl) (by kernel_rfl) (by decide) (by kernel_rfl) (by simp only [List.length_append, List.length_take, List.length_drop]; omega) ?_
  refine RL.norm (K' := [(31, .slice (slA Aa0 (((a0.take (a1).toNat ++ a0.drop (a2).toNat).length : Int)).toNat ca0 1) (((a0.length : Int)).toNat - (((a0.take (a1).toNat ++ a0.drop (a2).toNat).length : Int)).toNat) (ca0 - (((a0.take (a1).toNat ++ a0.drop (a2).toNat).length : Int)).toNat)), (30, i6 (a0.length : Int)), (29, i6 ((a0.take (a1).toNat ++ a0.drop (a2).toNat).length : Int)), (27, .slice Aa0 ((a0.take (a1).toNat ++ a0.drop (a2).toNat).length) ca0), (0, .slice Aa0 ((a0.take (a1).toNat ++ a0.drop (a2).toNat).length) ca0)]) (by kernel_rfl) rfl rfl rfl ?_
  refine RL.nil (by kernel_rfl) ?_
  refine QN.sub (K' := [(0, .slice Aa0 ((a0.take (a1).toNat ++ a0.drop (a2).toNat).length) ca0)]) (L' := []) (by kernel_rfl) .slnil (.refl _) ?_
  refine QN.then_ ?_
  refine OK.sr ?_
  refine RL.st 2 [(6, .slice Aa0 ((a0.take (a1).toNat ++ a0.drop (a2).toNat).length) ca0)] ?_
  refine OK.re ?_
  obtain rfl := Option.some.inj H
  refine QN.body rfl [] (RFacts.nil _ _ _) (.no) (.slice Aa0 ((a0.take (a1).toNat ++ a0.drop (a2).toNat).length) ca0) (by kernel_rfl) (by kernel_rfl) (by kernel_rfl) ?_ _ (.inr rfl)
  exact fun w' hs' => ⟨_, rfl, I1, Aa0, ca0, cs1, rfl, ((hs'.fin.selB [] (by kernel_rfl)).sel [0] (by kernel_rfl)), hp1⟩

end Go.Proofs.Ytihmbmeelheinaa
namespace Go.Proofs.Ytihmbmeelheinaa
open Go Go.Proofs.Ytihmbmeelheinaa.RW
set_option linter.unusedVariables false
set_option maxRecDepth 100000
set_option maxHeartbeats 8000000

/-! ### slices_Clone_int64_int64: function 37, slices.Clone[[][]int64,[]int64] -/
noncomputable def K37_0 : Code := cBody Try.f37
noncomputable def K37_8 : Code := cL (cR (cL (cR K37_0)))
noncomputable def K37_12 : Code := cR (cR (cL (cR K37_0)))
def slices_Clone_int64_int64.f (a0 : List (List Int)) : Option (List (List Int)) := (if a0 = [] then (some []) else (if (([] : List (List Int)).length + a0.length) * 24 ≤ 140737488355328 then (some (([] : List (List Int)) ++ a0)) else none))
def slices_Clone_int64_int64.Post (I : Imm) (w : World) (r : List (List Int)) (v : Value) (w' : World) : Prop :=
 ∃ (J : Imm) (A0 : Option Addr) (c0 : Nat) (cs0 : List Value), v = .slice A0 r.length c0 ∧ Got w w' I J [orow 27 1 A0 r.length c0 cs0] ∧ Reps (Ty.slice (Ty.int .i64)) J r cs0
theorem slices_Clone_int64_int64.calls (I0 : Imm) (a0 : List (List Int)) (Ap0 : Option Addr) (cp0 : Nat) (w : World) (hI : I0.at_ w) (hlp0 : a0.length ≤ cp0) (hrp0 : Rd (Ty.slice (Ty.int .i64)) I0 Ap0 a0) (r : List (List Int)) (h : slices_Clone_int64_int64.f a0 = some r) :
  Calls Try.prog 37 [.slice Ap0 a0.length cp0].toArray w fun e w' => ∃ v, e = .returned v ∧ slices_Clone_int64_int64.Post I0 w r v w' := by
 have H : (if a0 = [] then (some []) else (if (([] : List (List Int)).length + a0.length) * 24 ≤ 140737488355328 then (some (([] : List (List Int)) ++ a0)) else none)) = some r := h
 clear h
 refine calls_body Try.func37 (by kernel_rfl) 8 (by kernel_rfl) (by kernel_rfl) ⟨w, fun _ => False, I0⟩ I0 [] [(0, .slice Ap0 a0.length cp0)] (by kernel_rfl) (Sat.start w _ I0 hI) ?_
 generalize w.heap.size = nx0
 show OK _ K37_0 _ _ _ _ _ _ _ _
 refine OK.sr ?_
 refine RL.st 1 [(0, .slice Ap0 a0.length cp0)] ?_
 refine OK.sq ?_
 refine OK.sr ?_
 refine RL.s 1 [(3, .slice Ap0 a0.length cp0), (0, .slice Ap0 a0.length cp0)] ?_
 rcases Ap0 with _ | ad_1
 ·have hn1 : a0 = [] := rd_isNone hrp0
  rw [if_pos hn1] at H
  refine RL.s 1 [(4, .bool true), (3, .slice none a0.length cp0), (0, .slice none a0.length cp0)] ?_
  refine RL.nil (by kernel_rfl) ?_
  refine QN.sub (K' := [(4, .bool true), (0, .slice none a0.length cp0)]) (L' := []) (by kernel_rfl) .slnil (.refl _) ?_
  refine QN.then_ ?_
  refine OK.condT (.tmp 4) K37_8 K37_12 (by kernel_rfl) (by kernel_rfl) (by kernel_rfl) ?_
  refine OK.sr ?_
  refine RL.st 1 [(2, .slice none 0 0)] ?_
  refine OK.re ?_
  refine QN.thenR ?_
  obtain rfl := Option.some.inj H
  refine QN.body rfl [] (RFacts.nil _ _ _) (.no) (.slice none 0 0) (by kernel_rfl) (by kernel_rfl) (by kernel_rfl) ?_ _ (.inr rfl)
  exact fun w' hs' => ⟨_, rfl, I0, none, 0, [], rfl, gotNil1 (hs'.got [] (List.nil_sublist _)), rfl⟩
 ·replace H : (if (([] : List (List Int)).length + a0.length) * 24 ≤ 140737488355328 then (some (([] : List (List Int)) ++ a0)) else none) = some r := by
   by_cases hn1 : a0 = []
   ·rw [if_pos hn1] at H; rw [hn1]; simpa using H
   ·rwa [if_neg hn1] at H
  refine RL.s 1 [(4, .bool false), (3, .slice (some ad_1) a0.length cp0), (0, .slice (some ad_1) a0.length cp0)] ?_
  refine RL.nil (by kernel_rfl) ?_
  refine QN.sub (K' := [(4, .bool false), (0, .slice (some ad_1) a0.length cp0)]) (L' := []) (by kernel_rfl) .slnil (.refl _) ?_
  refine QN.then_ ?_
  refine OK.condF (.tmp 4) K37_8 K37_12 (by kernel_rfl) (by kernel_rfl) (by kernel_rfl) ?_
  refine OK.skt ?_
  refine OK.sr ?_
  refine RL.sp 2 [(6, .slice (some ad_1) a0.length cp0), (5, .slice (some ⟨nx0, 0, none⟩) 0 0)] (nx0 + 1) [⟨nx0, [], 27⟩] ?_
  refine RL.toRow (b := ⟨nx0, [], 27⟩) 0 0 1 (by kernel_rfl) (by kernel_rfl) (by decide) ?_
  have hp1 : Reps (Ty.slice (Ty.int .i64)) I0 ([] : List (List Int)) [] := rfl
  refine RL.norm (L' := []) (X' := [orow 27 1 (some ⟨nx0, 0, none⟩) (([] : List (List Int)).length) 0 []]) rfl rfl (by kernel_rfl) (by kernel_rfl) ?_
  obtain ⟨hz1, H⟩ := ifs H
  refine RL.appendR (T := 33) (e := 27) (S := (some ⟨nx0, 0, none⟩)) (S2 := (some ad_1)) 1 24 33 0 cp0 [] (Ty.slice (Ty.int .i64)) ([] : List (List Int)) a0 0 (some 7) (by kernel_rfl) (by kernel_rfl) (by kernel_rfl) (by kernel_rfl) (by kernel_rfl) (by decide) (by kernel_rfl) hp1 hrp0 hz1 (by omega) (fun A1 c1 nx1 cs1 hp2 => ?_)
  refine RL.sub (K' := [(7, .slice A1 ((([] : List (List Int)) ++ a0).length) c1), (6, .slice (some ad_1) a0.length cp0), (5, .slice (some ⟨nx0, 0, none⟩) 0 0)]) (L' := []) (X' := [orow 27 1 A1 ((([] : List (List Int)) ++ a0).length) c1 cs1]) (by kernel_rfl) (.refl _) (.refl _) ?_
  refine RL.st 1 [(2, .slice A1 ((([] : List (List Int)) ++ a0).length) c1)] ?_
  refine OK.re ?_
  obtain rfl := Option.some.inj H
  refine QN.body rfl [] (RFacts.nil _ _ _) (.no) (.slice A1 ((([] : List (List Int)) ++ a0).length) c1) (by kernel_rfl) (by kernel_rfl) (by kernel_rfl) ?_ _ (.inr rfl)
  exact fun w' hs' => ⟨_, rfl, I0, A1, c1, cs1, rfl, hs'.got _ (.cons_cons _ .slnil), hp2⟩

end Go.Proofs.Ytihmbmeelheinaa
namespace Go.Proofs.Ytihmbmeelheinaa
open Go Go.Proofs.Ytihmbmeelheinaa.RW
set_option linter.unusedVariables false
set_option maxRecDepth 100000
set_option maxHeartbeats 8000000

/-! ### auction_total: function 38, armillary/auction.total -/
noncomputable def K38_0 : Code := cBody Try.f38
def auction_total.f (k : Nat) (a0 : List (List Int)) : Option (Int) := ((assign_Solve.f k a0).bind fun t1 => ((assign_Value.f k a0 t1.1).bind fun t2 => (some t2.1)))
def auction_total.Post (I : Imm) (w : World) (r : Int) (v : Value) (w' : World) : Prop :=
 ∃ (J : Imm), v = .int .i64 r ∧ Got w w' I J []
theorem auction_total.calls (k : Nat) (I0 : Imm) (a0 : List (List Int)) (Ap0 : Option Addr) (cp0 : Nat) (w : World) (hI : I0.at_ w) (hlp0 : a0.length ≤ cp0) (hrp0 : Rd (Ty.slice (Ty.int .i64)) I0 Ap0 a0) (r : Int) (h : auction_total.f k a0 = some r) :
  Calls Try.prog 38 [.slice Ap0 a0.length cp0].toArray w fun e w' => ∃ v, e = .returned v ∧ auction_total.Post I0 w r v w' := by
 have H : ((assign_Solve.f k a0).bind fun t1 => ((assign_Value.f k a0 t1.1).bind fun t2 => (some t2.1))) = some r := h
 clear h
 refine calls_body Try.func38 (by kernel_rfl) 19 (by kernel_rfl) (by kernel_rfl) ⟨w, fun _ => False, I0⟩ I0 [] [(0, .slice Ap0 a0.length cp0)] (by kernel_rfl) (Sat.start w _ I0 hI) ?_
 generalize w.heap.size = nx0
 show OK _ K38_0 _ _ _ _ _ _ _ _
 refine OK.sr ?_
 refine RL.st 1 [(0, .slice Ap0 a0.length cp0)] ?_
 refine OK.sr ?_
 refine RL.s 1 [(8, .slice Ap0 a0.length cp0), (0, .slice Ap0 a0.length cp0)] ?_
 obtain ⟨t1, hA1, H⟩ := bnd H
 refine RL.callP 33 [.slice Ap0 a0.length cp0] (some 9) (fun w => assign_Solve.Post I0 w t1) (by kernel_rfl) (by kernel_rfl) (fun w hs => assign_Solve.calls k I0 a0 Ap0 cp0 w hs.im hlp0 hrp0 t1 hA1) ?_
 rintro w v w' hs ⟨I1, A1, c1, cs1, A2, c2, cs2, A3, c3, cs3, rfl, hg, hp1, hp2, hp3⟩
 have hi1 := hg.le
 refine RL.resume (X' := [orow 3 1 A1 t1.1.length c1 cs1, orow 2 1 A2 t1.2.f0.length c2 cs2, orow 2 1 A3 t1.2.f1.length c3 cs3]) rfl (hs.call hg) ?_
 clear hs hg
 generalize w'.heap.size = nx1
 clear w w'
 refine RL.freeze (e := 2) (sz := 1) (S := A2) (n := t1.2.f0.length) (cap := c2) 1 (by kernel_rfl) hp2 rfl (fun I2 hi2 hl1 hr1 => ?_)
 skip
 refine RL.freeze (e := 2) (sz := 1) (S := A3) (n := t1.2.f1.length) (cap := c3) 1 (by kernel_rfl) (Reps.ext hi2 hp3) rfl (fun I3 hi3 hl2 hr2 => ?_)
 skip
 refine RL.simP (K' := [(3, .slice A1 t1.1.length c1), (0, .slice Ap0 a0.length cp0)]) (nx' := nx1 + 1) (L' := [⟨nx1, [.slice A2 t1.2.f0.length c2, .slice A3 t1.2.f1.length c3], 62⟩]) [] (RFacts.nil _ _ _) 6 [.no, .no, .no, .no, .no, .l 0] (by kernel_rfl) (by kernel_rfl) ?_
 refine RL.nt ?_
 refine OK.sr ?_
 refine RL.s 2 [(14, .slice A1 t1.1.length c1), (13, .slice Ap0 a0.length cp0)] ?_
 obtain ⟨t2, hA2, H⟩ := bnd H
 refine RL.callP 34 [.slice Ap0 a0.length cp0, .slice A1 t1.1.length c1] (some 15) (fun w v w' => ∃ I', Imm.le I3 I' ∧ assign_Value.Post I' w t2 v w') (by kernel_rfl) (by kernel_rfl) (fun w hs => ?_) ?_
 ·skip
  obtain ⟨JL1, hj1, hn1, hw1, hs⟩ := Sat.freeze (e := 3) (sz := 1) (S := A1) (n := t1.1.length) (cap := c1) (m := 0) hs (by kernel_rfl) (Reps.ext (Imm.le_trans hi2 hi3) hp1) rfl
  exact (assign_Value.calls k JL1 a0 Ap0 cp0 t1.1 A1 c1 _ hs.im hlp0 (Rd.ext hj1 (Rd.ext (Imm.le_trans (Imm.le_trans hi1 hi2) hi3) hrp0)) hn1 hw1 t2 hA2).mono (fun e w' ⟨v, hv, hp⟩ => ⟨v, hv, JL1, hj1, hp⟩)
 rintro w v w' hs ⟨I', hle, J, rfl, hg⟩
 refine RL.resume (X' := [orow 3 1 A1 t1.1.length c1 cs1]) rfl (hs.call (hg.back hle)) ?_
 clear hs hg hle I' J
 generalize w'.heap.size = nx2
 clear w w'
 refine RL.st 5 [(5, i6 t2.1)] ?_
 refine OK.sr ?_
 refine RL.st 2 [(2, i6 t2.1)] ?_
 refine OK.re ?_
 obtain rfl := Option.some.inj H
 refine QN.body rfl [] (RFacts.nil _ _ _) (.no) (i6 t2.1) (by kernel_rfl) (by kernel_rfl) (by kernel_rfl) ?_ _ (.inr rfl)
 exact fun w' hs' => ⟨_, rfl, I3, rfl, hs'.got _ (.cons _ .slnil)⟩

end Go.Proofs.Ytihmbmeelheinaa
namespace Go.Proofs.Ytihmbmeelheinaa
open Go Go.Proofs.Ytihmbmeelheinaa.RW
set_option linter.unusedVariables false
set_option maxRecDepth 100000
set_option maxHeartbeats 8000000

/-! ### auction_Clear_1s0: function 35, armillary/auction.Clear$1 -/
noncomputable def K35s0_0 : Code := cBody Try.f35
noncomputable def O35s0_7 : List Oper := cOps (cL (cR (cR K35s0_0)))
def auction_Clear_1s0.f (k : Nat) (a0 : Int) (a1 : Int) (b0 : List (List Int)) (b1 : Int) : Option (Int) := ((slices_Clone_int64_int64.f b0).bind fun t1 => ((slices_Delete_int64_int64s0.f t1 a0 (W .i64 (a0 + 1))).bind fun t2 => ((auction_total.f k t2).bind fun t3 => (some (W .i64 (t3 - (W .i64 (b1 - a1))))))))
def auction_Clear_1s0.Post (S : Nat → Prop) (gb0 : Nat) (gb1 : Nat) (a0 : Int) (a1 : Int) (b0 : List (List Int)) (Ab0 : Option Addr) (cb0 : Nat) (b1 : Int) (I : Imm) (w : World) (r : Int) (v : Value) (w' : World) : Prop :=
 ∃ (J : Imm), v = .int .i64 r ∧ Sat ⟨w, S, I⟩ J w'.heap.size [⟨gb0, [.slice Ab0 b0.length cb0], 33⟩, ⟨gb1, [.int .i64 b1], 2⟩] [] w'
noncomputable def a35s0_7n : List Nat := [0, 1, 0, 0, 12, 31, 63]
theorem a35s0_7 : ancs O35s0_7 [] = a35s0_7n := by kernel_rfl
theorem a35s0_7o : drawOk O35s0_7 a35s0_7n 5 = true := by kernel_rfl
noncomputable def u35d1l (t3 : Int) : List Ld :=
 [⟨1, fun x => i6 t3, fun x => [], fun x J => True, fun x J J' h f => trivial⟩]
noncomputable def u35d1g  : List (Nat × ((Nat → Wt) → Value)) := []
noncomputable def u35d1q (gb0 : Nat) (gb1 : Nat) (a1 : Int) (b0 : List (List Int)) (Ab0 : Option Addr) (cb0 : Nat) (b1 : Int) (t2 : List (List Int)) (A2 : Option Addr) (c2 : Nat) (t3 : Int) (u : Nat → Wt) : Option (List Value × List (Nat × Value) × List (Nat × Nat)) := qSim Try.prog [] [⟨gb0, [.slice Ab0 b0.length cb0], 33⟩, ⟨gb1, [i6 b1], 2⟩] O35s0_7 ⟨20, []⟩ (Ld.vl (u35d1l t3)) u35d1g u [.no, .no, .l 1, .no, .no] 0 (O35s0_7.take 5) [(7, .slice A2 t2.length c2), (1, i6 a1), (3, pt gb1 0)]
noncomputable def u35d1s (a1 : Int) (b1 : Int) (t2 : List (List Int)) (A2 : Option Addr) (c2 : Nat) (t3 : Int) (u : Nat → Wt) : List Value := [.slice A2 t2.length c2, i6 t3, i6 b1, i6 a1, i6 (W .i64 (b1 - a1))]
noncomputable def u35d1f (gb1 : Nat) (a1 : Int) (b1 : Int) (t2 : List (List Int)) (A2 : Option Addr) (c2 : Nat) (t3 : Int) (i : Nat) (u : Nat → Wt) : List (Nat × Value) := foldPut ⟨20, []⟩ [(7, .slice A2 t2.length c2), (1, i6 a1), (3, pt gb1 0)] (O35s0_7.take i) (((u35d1s a1 b1 t2 A2 c2 t3) u).take i)
theorem u35d1v (gb0 : Nat) (gb1 : Nat) (a1 : Int) (b0 : List (List Int)) (Ab0 : Option Addr) (cb0 : Nat) (b1 : Int) (t2 : List (List Int)) (A2 : Option Addr) (c2 : Nat) (t3 : Int) (u : Nat → Wt) : (u35d1q gb0 gb1 a1 b0 Ab0 cb0 b1 t2 A2 c2 t3 u).map (fun x => (x.1, x.2.1)) = some ((u35d1s a1 b1 t2 A2 c2 t3) u, (u35d1f gb1 a1 b1 t2 A2 c2 t3 5) u) := by kernel_rfl
theorem u35d1e (gb0 : Nat) (gb1 : Nat) (a1 : Int) (b0 : List (List Int)) (Ab0 : Option Addr) (cb0 : Nat) (b1 : Int) (t2 : List (List Int)) (A2 : Option Addr) (c2 : Nat) (t3 : Int) (u : Nat → Wt) : (u35d1q gb0 gb1 a1 b0 Ab0 cb0 b1 t2 A2 c2 t3 u).map (fun x => x.2.2.map (·.1)) = (u35d1q gb0 gb1 a1 b0 Ab0 cb0 b1 t2 A2 c2 t3 u).map (fun x => x.2.2.map (·.2)) := by kernel_rfl
theorem auction_Clear_1s0.calls (k : Nat) (I0 : Imm) (gb0 : Nat) (gb1 : Nat) (a0 : Int) (a1 : Int) (b0 : List (List Int)) (Ab0 : Option Addr) (cb0 : Nat) (b1 : Int) (w : World) (hs : Sat ⟨w, SM [⟨gb0, [.slice Ab0 b0.length cb0], 33⟩, ⟨gb1, [i6 b1], 2⟩] [], I0⟩ I0 w.heap.size [⟨gb0, [.slice Ab0 b0.length cb0], 33⟩, ⟨gb1, [i6 b1], 2⟩] [] w) (hlb0 : b0.length ≤ cb0) (hrb0 : Rd (Ty.slice (Ty.int .i64)) I0 Ab0 b0) (r : Int) (h : auction_Clear_1s0.f k a0 a1 b0 b1 = some r) :
  Calls Try.prog 35 [i6 a0, i6 a1, pt gb0 0, pt gb1 0].toArray w fun e w' => ∃ v, e = .returned v ∧ auction_Clear_1s0.Post (SM [⟨gb0, [.slice Ab0 b0.length cb0], 33⟩, ⟨gb1, [i6 b1], 2⟩] []) gb0 gb1 a0 a1 b0 Ab0 cb0 b1 I0 w r v w' := by
 have H : ((slices_Clone_int64_int64.f b0).bind fun t1 => ((slices_Delete_int64_int64s0.f t1 a0 (W .i64 (a0 + 1))).bind fun t2 => ((auction_total.f k t2).bind fun t3 => (some (W .i64 (t3 - (W .i64 (b1 - a1)))))))) = some r := h
 clear h
 refine calls_bodyL Try.func35 (by kernel_rfl) 20 (by kernel_rfl) (by kernel_rfl) ⟨w, SM [⟨gb0, [.slice Ab0 b0.length cb0], 33⟩, ⟨gb1, [i6 b1], 2⟩] [], I0⟩ I0 [⟨gb0, [.slice Ab0 b0.length cb0], 33⟩, ⟨gb1, [i6 b1], 2⟩] [] [(0, i6 a0), (1, i6 a1), (2, pt gb0 0), (3, pt gb1 0)] (by kernel_rfl) hs ?_
 generalize w.heap.size = nx0
 show OK _ K35s0_0 _ _ _ _ _ _ _ _
 refine OK.sr ?_
 refine RL.st 1 [(0, i6 a0), (1, i6 a1), (2, pt gb0 0), (3, pt gb1 0)] ?_
 refine OK.sr ?_
 refine RL.simK (K' := [(8, .slice Ab0 b0.length cb0), (0, i6 a0), (1, i6 a1), (3, pt gb1 0)]) [] (RFacts.nil _ _ _) 1 [.l 0] (by kernel_rfl) (by kernel_rfl) ?_
 obtain ⟨t1, hA1, H⟩ := bnd H
 refine RL.callP 37 [.slice Ab0 b0.length cb0] (some 9) (fun w => slices_Clone_int64_int64.Post I0 w t1) (by kernel_rfl) (by kernel_rfl) (fun w hs => slices_Clone_int64_int64.calls I0 b0 Ab0 cb0 w hs.im hlb0 hrb0 t1 hA1) ?_
 rintro w v w' hs ⟨I1, A1, c1, cs1, rfl, hg, hp1⟩
 have hi1 := hg.le
 refine RL.resume (X' := [orow 27 1 A1 t1.length c1 cs1]) rfl (hs.call hg) ?_
 clear hs hg
 generalize w'.heap.size = nx1
 clear w w'
 refine RL.s 3 [(12, i6 (W .i64 (a0 + 1))), (10, i6 a0), (9, .slice A1 t1.length c1), (1, i6 a1), (3, pt gb1 0)] ?_
 obtain ⟨t2, hA2, H⟩ := bnd H
 refine RL.callM (L1 := []) (L2 := [⟨gb0, [.slice Ab0 b0.length cb0], 33⟩, ⟨gb1, [i6 b1], 2⟩]) (X1 := [orow 27 1 A1 t1.length c1 cs1]) (X2 := []) rfl rfl 36 [.slice A1 t1.length c1, i6 a0, i6 (W .i64 (a0 + 1))] (some 13) (fun w => slices_Delete_int64_int64s0.Post (SM [] [orow 27 1 A1 t1.length c1 cs1]) t1 A1 c1 cs1 a0 (W .i64 (a0 + 1)) I1 w t2) (by kernel_rfl) (by kernel_rfl) (fun w hs => slices_Delete_int64_int64s0.calls I1 t1 A1 c1 cs1 a0 (W .i64 (a0 + 1)) w hs hp1 t2 hA2) ?_
 rintro w v w' hs ⟨I2, A2, c2, cs2, rfl, hg, hp2⟩
 have hi2 : Imm.le I1 I2 := hg.le
 refine RL.resume (L' := [⟨gb0, [.slice Ab0 b0.length cb0], 33⟩, ⟨gb1, [i6 b1], 2⟩]) (X' := [orow 27 1 A2 t2.length c2 cs2]) rfl (hs.outof hg) ?_
 clear hs hg
 generalize w'.heap.size = nx2
 clear w w'
 refine RL.sub (K' := [(13, .slice A2 t2.length c2), (12, i6 (W .i64 (a0 + 1))), (10, i6 a0), (1, i6 a1), (3, pt gb1 0)]) (L' := [⟨gb0, [.slice Ab0 b0.length cb0], 33⟩, ⟨gb1, [i6 b1], 2⟩]) (X' := [orow 27 1 A2 t2.length c2 cs2]) (by kernel_rfl) (.refl _) (.refl _) ?_
 refine RL.st 1 [(7, .slice A2 t2.length c2), (1, i6 a1), (3, pt gb1 0)] ?_
 refine OK.sq ?_
 obtain ⟨t3, hA3, H⟩ := bnd H
 refine OK.drawnC 2 5 O35s0_7 a35s0_7n (by kernel_rfl) (by kernel_rfl) (u35d1l t3) u35d1g [] (RI.nil _) [.no, .no, .l 1, .no, .no] a35s0_7 a35s0_7o (by kernel_rfl) (by kernel_rfl) (u35d1s a1 b1 t2 A2 c2 t3) (u35d1f gb1 a1 b1 t2 A2 c2 t3 5) (u35d1v gb0 gb1 a1 b0 Ab0 cb0 b1 t2 A2 c2 t3) (u35d1e gb0 gb1 a1 b0 Ab0 cb0 b1 t2 A2 c2 t3) [u35d1f gb1 a1 b1 t2 A2 c2 t3 1] (framesOk.cons (fun u => rfl) framesOk.nil) ?_ [] framesOk.nil ?_ ?_
 ·refine LoudsG.cons ?_ (LoudsG.nil)
  ·intro D u J w hp hJ hs hF
   obtain ⟨JL1, hj1, hn1, hw1, hs⟩ := Sat.freeze (e := 27) (sz := 1) (S := A2) (n := t2.length) (cap := c2) (m := 0) hs (by kernel_rfl) (Reps.ext hJ hp2) rfl
   refine Does.call 38 [.slice A2 t2.length c2] (by kernel_rfl) ((auction_total.calls k JL1 t2 A2 c2 w hs.im hn1 hw1 t3 hA3).mono ?_)
   rintro e w' ⟨v, rfl, J2, rfl, hg⟩
   exact ⟨_, rfl, fun _ => (none, 0, []), J, rfl, hg.back hj1, trivial⟩
 ·refine Givens.nil
 intro u I3 nx3 hi3 hF
 clear hF
 refine RL.norm (K' := [(18, i6 (W .i64 (b1 - a1))), (17, i6 a1), (16, i6 b1), (15, i6 t3), (14, .slice A2 t2.length c2), (7, .slice A2 t2.length c2), (1, i6 a1), (3, pt gb1 0)]) (X' := [orow 27 1 A2 t2.length c2 cs2]) (by kernel_rfl) rfl rfl rfl ?_
 refine RL.st 2 [(6, i6 (W .i64 (t3 - (W .i64 (b1 - a1)))))] ?_
 refine OK.re ?_
 obtain rfl := Option.some.inj H
 refine QN.body rfl [] (RFacts.nil _ _ _) (.no) (i6 (W .i64 (t3 - (W .i64 (b1 - a1))))) (by kernel_rfl) (by kernel_rfl) (by kernel_rfl) ?_ _ (.inr rfl)
 exact fun w' hs' => ⟨_, rfl, I3, rfl, ((hs'.fin.selB [0, 1] (by kernel_rfl)).sel [] (by kernel_rfl))⟩

end Go.Proofs.Ytihmbmeelheinaa
