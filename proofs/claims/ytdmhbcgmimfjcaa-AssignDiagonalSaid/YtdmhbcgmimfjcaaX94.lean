/- Words of the walk, the functions' walks and plain laws, joined; no conditions beyond those that the theorems name. -/
import Derived.Test.YtdmhbcgmimfjcaaX92
import Derived.Test.YtdmhbcgmimfjcaaX93
namespace Go.Proofs.Ytdmhbcgmimfjcaa
open Go Go.Proofs.Ytdmhbcgmimfjcaa.RW
set_option linter.unusedVariables false
set_option maxRecDepth 100000
set_option maxHeartbeats 8000000

/-! ### assign_solution_values0: function 32, (*armillary/assign.solution).value -/
noncomputable def K32s0_0 : Code := cBody Try.f32
noncomputable def K32s0_1 : Code := cL K32s0_0
noncomputable def O32s0_1 : List Oper := cOps K32s0_1
noncomputable def K32s0_3 : Code := cR K32s0_0
noncomputable def K32s0_4 : Code := cL K32s0_3
noncomputable def O32s0_4 : List Oper := cOps K32s0_4
noncomputable def K32s0_6 : Code := cR K32s0_3
noncomputable def K32s0_7 : Code := cL K32s0_6
noncomputable def K32s0_8 : Code := cL K32s0_7
noncomputable def O32s0_8 : List Oper := cOps K32s0_8
noncomputable def K32s0_10 : Code := cR K32s0_7
noncomputable def K32s0_11 : Code := cL K32s0_10
noncomputable def K32s0_12 : Code := cL K32s0_11
noncomputable def K32s0_13 : Code := cL K32s0_12
noncomputable def O32s0_13 : List Oper := cOps K32s0_13
noncomputable def K32s0_15 : Code := cR K32s0_12
noncomputable def K32s0_16 : Code := cL K32s0_15
noncomputable def K32s0_17 : Code := cL K32s0_16
noncomputable def K32s0_18 : Code := cR K32s0_16
noncomputable def K32s0_19 : Code := cR K32s0_15
noncomputable def K32s0_20 : Code := cL K32s0_19
noncomputable def K32s0_21 : Code := cL K32s0_20
noncomputable def K32s0_22 : Code := cL K32s0_21
noncomputable def O32s0_22 : List Oper := cOps K32s0_22
noncomputable def K32s0_24 : Code := cR K32s0_21
noncomputable def O32s0_24 : List Oper := cOps K32s0_24
noncomputable def K32s0_26 : Code := cR K32s0_19
noncomputable def O32s0_26 : List Oper := cOps K32s0_26
noncomputable def K32s0_28 : Code := cR K32s0_6
noncomputable def K32s0_29 : Code := cL K32s0_28
noncomputable def O32s0_29 : List Oper := cOps K32s0_29
noncomputable def K32s0_31 : Code := cR K32s0_28
def assign_solution_values0.k1  (x1 : Int) : Option (Int) := (some x1)
def assign_solution_values0.l1 (b0 : S58) (b1 : List Int) : Nat → Int → Int → Option (Int)
 | 0, _, _ => none
 | k + 1, x2, x3 => (if x3 < 12 then (if 0 ≤ x3 then (if x3 < (12 : Int) then (if 0 ≤ (b0.f0.getD ((x3).toNat) 0) then (if (b0.f0.getD ((x3).toNat) 0) < (12 : Int) then (if 0 ≤ x3 then (if x3 < (12 : Int) then (assign_solution_values0.l1 b0 b1 k (W .i64 (x2 + (b1.getD (((b0.f0.getD ((x3).toNat) 0)).toNat * 12 + (x3).toNat) 0))) (W .i64 (x3 + 1))) else none) else none) else none) else none) else none) else none) else (some x2))
def assign_solution_values0.f (k : Nat) (b0 : S58) (b1 : List Int) : Option (Int) := ((assign_solution_values0.l1 b0 b1 k 0 0).bind (assign_solution_values0.k1))
def assign_solution_values0.Post (S : Nat → Prop) (gb0 : Nat) (gb1 : Nat) (b0 : S58) (b1 : List Int) (I : Imm) (w : World) (r : Int) (v : Value) (w' : World) : Prop :=
 ∃ (J : Imm), v = .int .i64 r ∧ Sat ⟨w, S, I⟩ J w'.heap.size [⟨gb0, ((arrV (Value.int .i64) 0 12 b0.f0) ++ ((arrV (Value.int .i64) 0 12 b0.f1) ++ (arrV (Value.int .i64) 0 12 b0.f2))), 58⟩, ⟨gb1, arrV (Value.int .i64) 0 144 b1, 54⟩] [] w'
theorem assign_solution_values0.calls (k : Nat) (I0 : Imm) (gb0 : Nat) (gb1 : Nat) (b0 : S58) (b1 : List Int) (w : World) (hs : Sat ⟨w, SM [⟨gb0, ((arrV (Value.int .i64) 0 12 b0.f0) ++ ((arrV (Value.int .i64) 0 12 b0.f1) ++ (arrV (Value.int .i64) 0 12 b0.f2))), 58⟩, ⟨gb1, arrV (Value.int .i64) 0 144 b1, 54⟩] [], I0⟩ I0 w.heap.size [⟨gb0, ((arrV (Value.int .i64) 0 12 b0.f0) ++ ((arrV (Value.int .i64) 0 12 b0.f1) ++ (arrV (Value.int .i64) 0 12 b0.f2))), 58⟩, ⟨gb1, arrV (Value.int .i64) 0 144 b1, 54⟩] [] w) (hzb0_0 : 12 ≤ b0.f0.length) (hzb0_1 : 12 ≤ b0.f1.length) (hzb0_2 : 12 ≤ b0.f2.length) (hzb1 : 144 ≤ b1.length) (r : Int) (h : assign_solution_values0.f k b0 b1 = some r) :
  Calls Try.prog 32 [.pointer (some ⟨gb0, 0, none⟩), .pointer (some ⟨gb1, 0, none⟩)].toArray w fun e w' => ∃ v, e = .returned v ∧ assign_solution_values0.Post (SM [⟨gb0, ((arrV (Value.int .i64) 0 12 b0.f0) ++ ((arrV (Value.int .i64) 0 12 b0.f1) ++ (arrV (Value.int .i64) 0 12 b0.f2))), 58⟩, ⟨gb1, arrV (Value.int .i64) 0 144 b1, 54⟩] []) gb0 gb1 b0 b1 I0 w r v w' := by
 have H : ((assign_solution_values0.l1 b0 b1 k 0 0).bind (assign_solution_values0.k1)) = some r := h
 clear h
 refine calls_bodyL Try.func32 (by kernel_rfl) 27 (by kernel_rfl) (by kernel_rfl) ⟨w, SM [⟨gb0, ((arrV (Value.int .i64) 0 12 b0.f0) ++ ((arrV (Value.int .i64) 0 12 b0.f1) ++ (arrV (Value.int .i64) 0 12 b0.f2))), 58⟩, ⟨gb1, arrV (Value.int .i64) 0 144 b1, 54⟩] [], I0⟩ I0 [⟨gb0, ((arrV (Value.int .i64) 0 12 b0.f0) ++ ((arrV (Value.int .i64) 0 12 b0.f1) ++ (arrV (Value.int .i64) 0 12 b0.f2))), 58⟩, ⟨gb1, arrV (Value.int .i64) 0 144 b1, 54⟩] [] [(0, .pointer (some ⟨gb0, 0, none⟩)), (1, .pointer (some ⟨gb1, 0, none⟩))] (by kernel_rfl) hs ?_
 generalize w.heap.size = nx0
 show OK _ K32s0_0 _ _ _ _ _ _ _ _
 refine OK.seq K32s0_1 K32s0_3 (by kernel_rfl) ?_
 refine OK.region 0 O32s0_1 (by kernel_rfl) ?_
 refine RL.simK (K' := [(0, .pointer (some ⟨gb0, 0, none⟩)), (1, .pointer (some ⟨gb1, 0, none⟩))]) [] (RFacts.nil _ _ _) 1 [.no] (by kernel_rfl) (by kernel_rfl) ?_
 refine RL.nil (by kernel_rfl) ?_
 refine QN.then_ ?_
 refine OK.seq K32s0_4 K32s0_6 (by kernel_rfl) ?_
 refine OK.region 1 O32s0_4 (by kernel_rfl) ?_
 refine RL.simK (K' := [(5, .int .i64 0), (0, .pointer (some ⟨gb0, 0, none⟩)), (1, .pointer (some ⟨gb1, 0, none⟩))]) [] (RFacts.nil _ _ _) 1 [.no] (by kernel_rfl) (by kernel_rfl) ?_
 refine RL.nil (by kernel_rfl) ?_
 refine QN.then_ ?_
 refine OK.seq K32s0_7 K32s0_28 (by kernel_rfl) ?_
 refine OK.seq K32s0_8 K32s0_10 (by kernel_rfl) ?_
 refine OK.region 2 O32s0_8 (by kernel_rfl) ?_
 refine RL.simK (K' := [(12, .int .i64 0), (11, .agg (arrV (Value.int .i64) 0 12 b0.f0).toArray), (5, .int .i64 0), (1, .pointer (some ⟨gb1, 0, none⟩))]) [] (RFacts.nil _ _ _) 5 [.no, .no, .no, .l 0, .no] (by kernel_rfl) (by kernel_rfl) ?_
 refine RL.nil (by kernel_rfl) ?_
 refine QN.then_ ?_
 refine OK.join (fun K' I' _ L' X' => ∃ (x1 : Int), K' = [(5, .int .i64 x1)] ∧ L' = [⟨gb0, ((arrV (Value.int .i64) 0 12 b0.f0) ++ ((arrV (Value.int .i64) 0 12 b0.f1) ++ (arrV (Value.int .i64) 0 12 b0.f2))), 58⟩, ⟨gb1, arrV (Value.int .i64) 0 144 b1, 54⟩] ∧ X' = [] ∧ Imm.le I0 I' ∧ assign_solution_values0.k1 x1 = some r) ?_ ?_
 ·rintro _ I1 nx1 _ _ ⟨x1, rfl, rfl, rfl, hi1, H⟩
  replace H : (some x1) = some r := H
  refine QN.then_ ?_
  refine OK.seq K32s0_29 K32s0_31 (by kernel_rfl) ?_
  refine OK.region 7 O32s0_29 (by kernel_rfl) ?_
  refine RL.simK (K' := [(4, .int .i64 x1)]) [] (RFacts.nil _ _ _) 2 [.no, .no] (by kernel_rfl) (by kernel_rfl) ?_
  refine RL.nil (by kernel_rfl) ?_
  refine QN.then_ ?_
  refine OK.ret (by kernel_rfl) ?_
  obtain rfl := Option.some.inj H
  refine QN.body rfl [] (RFacts.nil _ _ _) (.no) (.int .i64 x1) (by kernel_rfl) (by kernel_rfl) (by kernel_rfl) ?_ _ (.inr rfl)
  exact fun w' hs' => ⟨_, rfl, I1, rfl, ((hs'.fin.selB [0, 1] (by kernel_rfl)).sel [] (by kernel_rfl))⟩
 ·intro Q_1 hJ1 hQ1
  obtain ⟨y1, H, HK1⟩ := Option.bind_eq_some_iff.mp H
  refine OK.block 0 K32s0_11 (by kernel_rfl) ?_
  refine OK.sub (K' := [(1, .pointer (some ⟨gb1, 0, none⟩)), (5, .int .i64 0), (11, .agg (arrV (Value.int .i64) 0 12 b0.f0).toArray), (12, .int .i64 0)]) (L' := [⟨gb0, ((arrV (Value.int .i64) 0 12 b0.f0) ++ ((arrV (Value.int .i64) 0 12 b0.f1) ++ (arrV (Value.int .i64) 0 12 b0.f2))), 58⟩, ⟨gb1, arrV (Value.int .i64) 0 144 b1, 54⟩]) (by kernel_rfl) (.cons_cons _ (.cons_cons _ .slnil)) (.refl _) ?_
  refine OK.loopInv K32s0_12 (by kernel_rfl) (fun n_ K' I' _ L' X' => ∃ (x2 : Int) (x3 : Int), K' = [(1, .pointer (some ⟨gb1, 0, none⟩)), (5, .int .i64 x2), (11, .agg (arrV (Value.int .i64) 0 12 b0.f0).toArray), (12, .int .i64 x3)] ∧ L' = [⟨gb0, ((arrV (Value.int .i64) 0 12 b0.f0) ++ ((arrV (Value.int .i64) 0 12 b0.f1) ++ (arrV (Value.int .i64) 0 12 b0.f2))), 58⟩, ⟨gb1, arrV (Value.int .i64) 0 144 b1, 54⟩] ∧ X' = [] ∧ Imm.le I0 I' ∧ assign_solution_values0.l1 b0 b1 n_ x2 x3 = some y1) k ⟨0, 0, rfl, rfl, rfl, (Imm.le_refl _), H⟩ ?_ ?_
  ·rintro _ _ _ _ _ ⟨x2, x3, rfl, rfl, rfl, _, H⟩
   cases H
  ·rintro kq1 _ I2 nx2 _ _ ⟨x2, x3, rfl, rfl, rfl, hi2, H⟩ Q_l1 hJ2 hQ2
   replace H : (if x3 < 12 then (if 0 ≤ x3 then (if x3 < (12 : Int) then (if 0 ≤ (b0.f0.getD ((x3).toNat) 0) then (if (b0.f0.getD ((x3).toNat) 0) < (12 : Int) then (if 0 ≤ x3 then (if x3 < (12 : Int) then (assign_solution_values0.l1 b0 b1 kq1 (W .i64 (x2 + (b1.getD (((b0.f0.getD ((x3).toNat) 0)).toNat * 12 + (x3).toNat) 0))) (W .i64 (x3 + 1))) else none) else none) else none) else none) else none) else none) else (some x2)) = some y1 := H
   refine OK.seq K32s0_13 K32s0_15 (by kernel_rfl) ?_
   refine OK.region 3 O32s0_13 (by kernel_rfl) ?_
   refine RL.simK (K' := [(13, .bool (decide (x3 < 12))), (1, .pointer (some ⟨gb1, 0, none⟩)), (5, .int .i64 x2), (11, .agg (arrV (Value.int .i64) 0 12 b0.f0).toArray), (12, .int .i64 x3)]) [] (RFacts.nil _ _ _) 1 [.no] (by kernel_rfl) (by kernel_rfl) ?_
   refine RL.nil (by kernel_rfl) ?_
   refine QN.then_ ?_
   refine OK.seq K32s0_16 K32s0_19 (by kernel_rfl) ?_
   refine OK.cond (.tmp 13) K32s0_17 K32s0_18 (decide (x3 < 12)) (by kernel_rfl) (by kernel_rfl) (by kernel_rfl) (fun hb => ?_) (fun hb => ?_)
   ·skip
    have hc := (of_decide_eq_true hb)
    rw [if_pos hc] at H
    clear hb
    refine OK.skip (by kernel_rfl) ?_
    refine QN.then_ ?_
    refine OK.seq K32s0_20 K32s0_26 (by kernel_rfl) ?_
    refine OK.block 1 K32s0_21 (by kernel_rfl) ?_
    refine OK.seq K32s0_22 K32s0_24 (by kernel_rfl) ?_
    refine OK.region 4 O32s0_22 (by kernel_rfl) ?_
    refine RL.simK (K' := [(14, .int .i64 x3), (1, .pointer (some ⟨gb1, 0, none⟩)), (5, .int .i64 x2), (11, .agg (arrV (Value.int .i64) 0 12 b0.f0).toArray), (12, .int .i64 x3)]) [] (RFacts.nil _ _ _) 1 [.no] (by kernel_rfl) (by kernel_rfl) ?_
    by_cases hib0 : 0 ≤ x3
    case neg => rw [if_neg hib0] at H; cases H
    rw [if_pos hib0] at H
    by_cases hib1 : x3 < (12 : Int)
    case neg => rw [if_neg hib1] at H; cases H
    rw [if_pos hib1] at H
    refine RL.idxAgg (T := 56) (e := 3) (cs := (arrV (Value.int .i64) 0 12 b0.f0).toArray) (Value.int .i64) 0 12 12 b0.f0 .i64 x3 (some 15) (by kernel_rfl) (by kernel_rfl) (by kernel_rfl) (by kernel_rfl) rfl (by kernel_rfl) (by kernel_rfl) hib0 hib1 (K' := [(15, .int .i64 (b0.f0.getD ((x3).toNat) 0)), (14, .int .i64 x3), (1, .pointer (some ⟨gb1, 0, none⟩)), (5, .int .i64 x2), (11, .agg (arrV (Value.int .i64) 0 12 b0.f0).toArray), (12, .int .i64 x3)]) (by kernel_rfl) ?_
    refine RL.simK (K' := [(7, .int .i64 (b0.f0.getD ((x3).toNat) 0)), (6, .int .i64 x3), (1, .pointer (some ⟨gb1, 0, none⟩)), (5, .int .i64 x2), (11, .agg (arrV (Value.int .i64) 0 12 b0.f0).toArray), (12, .int .i64 x3)]) [] (RFacts.nil _ _ _) 2 [.no, .no] (by kernel_rfl) (by kernel_rfl) ?_
    refine RL.nil (by kernel_rfl) ?_
    refine QN.then_ ?_
    refine OK.region 5 O32s0_24 (by kernel_rfl) ?_
    refine RL.simK (K' := [(20, .pointer (some ⟨gb1, 0, none⟩)), (19, .int .i64 x3), (18, .int .i64 (b0.f0.getD ((x3).toNat) 0)), (16, .int .i64 x2), (1, .pointer (some ⟨gb1, 0, none⟩)), (5, .int .i64 x2), (11, .agg (arrV (Value.int .i64) 0 12 b0.f0).toArray), (12, .int .i64 x3)]) [] (RFacts.nil _ _ _) 5 [.no, .no, .no, .no, .no] (by kernel_rfl) (by kernel_rfl) ?_
    by_cases hib0 : 0 ≤ (b0.f0.getD ((x3).toNat) 0)
    case neg => rw [if_neg hib0] at H; cases H
    rw [if_pos hib0] at H
    by_cases hib1 : (b0.f0.getD ((x3).toNat) 0) < (12 : Int)
    case neg => rw [if_neg hib1] at H; cases H
    rw [if_pos hib1] at H
    have ha01 := hib0; have ha11 := hib1
    refine RL.idxArr (T := 54) (e := 52) 12 .i64 (b0.f0.getD ((x3).toNat) 0) gb1 (0) 12 (some 21) (by kernel_rfl) (by kernel_rfl) (by kernel_rfl) (by kernel_rfl) hib0 hib1 (K' := [(21, .pointer (some ⟨gb1, 0 + ((b0.f0.getD ((x3).toNat) 0)).toNat * 12, none⟩)), (20, .pointer (some ⟨gb1, 0, none⟩)), (19, .int .i64 x3), (18, .int .i64 (b0.f0.getD ((x3).toNat) 0)), (16, .int .i64 x2), (1, .pointer (some ⟨gb1, 0, none⟩)), (5, .int .i64 x2), (11, .agg (arrV (Value.int .i64) 0 12 b0.f0).toArray), (12, .int .i64 x3)]) (by kernel_rfl) ?_
    by_cases hib0 : 0 ≤ x3
    case neg => rw [if_neg hib0] at H; cases H
    rw [if_pos hib0] at H
    by_cases hib1 : x3 < (12 : Int)
    case neg => rw [if_neg hib1] at H; cases H
    rw [if_pos hib1] at H
    have ha02 := hib0; have ha12 := hib1
    refine RL.idxArr (T := 52) (e := 2) 1 .i64 x3 gb1 (0 + ((b0.f0.getD ((x3).toNat) 0)).toNat * 12) 12 (some 22) (by kernel_rfl) (by kernel_rfl) (by kernel_rfl) (by kernel_rfl) hib0 hib1 (K' := [(22, .pointer (some ⟨gb1, 0 + ((b0.f0.getD ((x3).toNat) 0)).toNat * 12 + (x3).toNat * 1, none⟩)), (21, .pointer (some ⟨gb1, 0 + ((b0.f0.getD ((x3).toNat) 0)).toNat * 12, none⟩)), (20, .pointer (some ⟨gb1, 0, none⟩)), (19, .int .i64 x3), (18, .int .i64 (b0.f0.getD ((x3).toNat) 0)), (16, .int .i64 x2), (1, .pointer (some ⟨gb1, 0, none⟩)), (5, .int .i64 x2), (11, .agg (arrV (Value.int .i64) 0 12 b0.f0).toArray), (12, .int .i64 x3)]) (by kernel_rfl) ?_
    refine RL.ldA (g := gb1) (ty := 54) (cs := arrV (Value.int .i64) 0 144 b1) (Value.int .i64) 0 144 b1 [] [] 0 (((b0.f0.getD ((x3).toNat) 0)).toNat * 12 + (x3).toNat) 1 (by kernel_rfl) (by kernel_rfl) (by kernel_rfl) (by omega) (0 + ((b0.f0.getD ((x3).toNat) 0)).toNat * 12 + (x3).toNat * 1) (by omega) (some 23) (by kernel_rfl) (by kernel_rfl) (by kernel_rfl) (K' := [(23, .int .i64 (b1.getD (((b0.f0.getD ((x3).toNat) 0)).toNat * 12 + (x3).toNat) 0)), (22, .pointer (some ⟨gb1, 0 + ((b0.f0.getD ((x3).toNat) 0)).toNat * 12 + (x3).toNat * 1, none⟩)), (21, .pointer (some ⟨gb1, 0 + ((b0.f0.getD ((x3).toNat) 0)).toNat * 12, none⟩)), (20, .pointer (some ⟨gb1, 0, none⟩)), (19, .int .i64 x3), (18, .int .i64 (b0.f0.getD ((x3).toNat) 0)), (16, .int .i64 x2), (1, .pointer (some ⟨gb1, 0, none⟩)), (5, .int .i64 x2), (11, .agg (arrV (Value.int .i64) 0 12 b0.f0).toArray), (12, .int .i64 x3)]) (by kernel_rfl) ?_
    refine RL.simK (K' := [(5, .int .i64 (W .i64 (x2 + (b1.getD (((b0.f0.getD ((x3).toNat) 0)).toNat * 12 + (x3).toNat) 0)))), (1, .pointer (some ⟨gb1, 0, none⟩)), (11, .agg (arrV (Value.int .i64) 0 12 b0.f0).toArray), (12, .int .i64 x3)]) [] (RFacts.nil _ _ _) 2 [.no, .no] (by kernel_rfl) (by kernel_rfl) ?_
    refine RL.nil (by kernel_rfl) ?_
    refine QN.blkN ?_
    refine QN.then_ ?_
    refine OK.region 6 O32s0_26 (by kernel_rfl) ?_
    refine RL.simK (K' := [(12, .int .i64 (W .i64 (x3 + 1))), (5, .int .i64 (W .i64 (x2 + (b1.getD (((b0.f0.getD ((x3).toNat) 0)).toNat * 12 + (x3).toNat) 0)))), (1, .pointer (some ⟨gb1, 0, none⟩)), (11, .agg (arrV (Value.int .i64) 0 12 b0.f0).toArray)]) [] (RFacts.nil _ _ _) 2 [.no, .no] (by kernel_rfl) (by kernel_rfl) ?_
    refine RL.nil (by kernel_rfl) ?_
    refine QN.sub (K' := [(1, .pointer (some ⟨gb1, 0, none⟩)), (5, .int .i64 (W .i64 (x2 + (b1.getD (((b0.f0.getD ((x3).toNat) 0)).toNat * 12 + (x3).toNat) 0)))), (11, .agg (arrV (Value.int .i64) 0 12 b0.f0).toArray), (12, .int .i64 (W .i64 (x3 + 1)))]) (L' := [⟨gb0, ((arrV (Value.int .i64) 0 12 b0.f0) ++ ((arrV (Value.int .i64) 0 12 b0.f1) ++ (arrV (Value.int .i64) 0 12 b0.f2))), 58⟩, ⟨gb1, arrV (Value.int .i64) 0 144 b1, 54⟩]) (by kernel_rfl) (.cons_cons _ (.cons_cons _ .slnil)) (.refl _) ?_
    exact hJ2 _ _ _ _ _ ⟨W .i64 (x2 + (b1.getD (((b0.f0.getD ((x3).toNat) 0)).toNat * 12 + (x3).toNat) 0)), W .i64 (x3 + 1), rfl, rfl, rfl, hi2, H⟩
   ·skip
    have hc := (of_decide_eq_false hb)
    rw [if_neg hc] at H
    clear hb
    refine OK.exit 0 (by kernel_rfl) ?_
    refine QN.thenE ?_
    refine QN.outE hQ2 ?_
    refine QN.blkE ?_
    obtain rfl := Option.some.inj H
    refine QN.sub (K' := [(5, .int .i64 x2)]) (L' := [⟨gb0, ((arrV (Value.int .i64) 0 12 b0.f0) ++ ((arrV (Value.int .i64) 0 12 b0.f1) ++ (arrV (Value.int .i64) 0 12 b0.f2))), 58⟩, ⟨gb1, arrV (Value.int .i64) 0 144 b1, 54⟩]) (by kernel_rfl) (.cons_cons _ (.cons_cons _ .slnil)) (.refl _) ?_
    exact hJ1 _ _ _ _ _ ⟨x2, rfl, rfl, rfl, hi2, HK1⟩

end Go.Proofs.Ytdmhbcgmimfjcaa
namespace Go.Proofs.Ytdmhbcgmimfjcaa.hun
open Go Go.Proofs.Ytdmhbcgmimfjcaa Go.Proofs.Ytdmhbcgmimfjcaa.RW
set_option linter.unusedVariables false
set_option maxRecDepth 100000
/-! ### numbers and lists -/
theorem W64 {x : Int} (h1 : -9223372036854775808 ≤ x) (h2 : x ≤ 9223372036854775807) : W .i64 x = x := by
  show IntKind.i64.wrap x = x
  rw [IntKind.wrap_i64]
  omega
theorem Wn {n : Nat} (h : n < 1000000) : W .i64 ((n : Int) + 1) = ((n + 1 : Nat) : Int) := by
  rw [W64 (by omega) (by omega)]; rfl
abbrev g (l : List Int) (j : Nat) : Int := l.getD j 0
abbrev gb (l : List Bool) (j : Nat) : Bool := l.getD j false
theorem gset {l : List Int} {i : Nat} (h : i < l.length) (x : Int) (j : Nat) : g (l.set i x) j = if j = i then x else g l j := by
  unfold g
  rw [List.getD_eq_getElem?_getD, List.getD_eq_getElem?_getD, List.getElem?_set]
  by_cases e : i = j
  · subst e; simp [h]
  · rw [if_neg e, if_neg (fun h => e h.symm)]
theorem gbset {l : List Bool} {i : Nat} (h : i < l.length) (x : Bool) (j : Nat) : gb (l.set i x) j = if j = i then x else gb l j := by
  unfold gb
  rw [List.getD_eq_getElem?_getD, List.getD_eq_getElem?_getD, List.getElem?_set]
  by_cases e : i = j
  · subst e; simp [h]
  · rw [if_neg e, if_neg (fun h => e h.symm)]
theorem tn (n : Nat) : ((n : Int)).toNat = n := Int.toNat_natCast n

/-! ### the potentials' shift -/
/-- The rows of the tree are lowered. -/
theorem shift_rows (a0 : Int) (tree : List Int) : ∀ (d k n : Nat) (u : List Int), d + n = tree.length → d < k → tree.length ≤ 100 → u.length = 12 → (∀ m, m < tree.length → 0 ≤ g tree m ∧ g tree m < 12) →
    (∀ (r : Nat), r < 12 → g u r ≤ 4000000000000000000) → 0 ≤ a0 → (∀ m m', m < tree.length → m' < tree.length → g tree m = g tree m' → m = m') →
    (∀ m, n ≤ m → m < tree.length → -4000000000000000000 ≤ g u (g tree m).toNat - a0) →
    ∃ u', assign_solution_augment_1s0.l2 a0 tree k u (n : Int) = some u' ∧ u'.length = 12 ∧ ∀ (r : Nat), r < 12 → ((∃ m, n ≤ m ∧ m < tree.length ∧ g tree m = (r : Int)) → g u' r = g u r - a0) ∧ ((¬ ∃ m, n ≤ m ∧ m < tree.length ∧ g tree m = (r : Int)) → g u' r = g u r) := by
  intro d
  induction d with
  | zero =>
    intro k n u hd hk htl hu ht hb ha0 hinj hlow
    obtain ⟨k, rfl⟩ : ∃ m, k = m + 1 := ⟨k - 1, by omega⟩
    refine ⟨u, ?_, hu, fun r hr => ⟨?_, fun _ => rfl⟩⟩
    · simp only [assign_solution_augment_1s0.l2]
      rw [if_neg (by omega)]
    · rintro ⟨m, h1, h2, _⟩
      omega
  | succ d ih =>
    intro k n u hd hk htl hu ht hb ha0 hinj hlow
    obtain ⟨k, rfl⟩ : ∃ m, k = m + 1 := ⟨k - 1, by omega⟩
    have hn' : n < tree.length := by omega
    have h1 := ht n hn'
    obtain ⟨q, hq⟩ : ∃ q : Nat, g tree n = (q : Int) := ⟨(g tree n).toNat, by omega⟩
    have hq12 : q < 12 := by omega
    have hlow' := hlow n (Nat.le_refl _) hn'
    have hq' : tree.getD n 0 = (q : Int) := hq
    rw [hq, tn] at hlow'
    have hbq := hb q hq12
    simp only [assign_solution_augment_1s0.l2]
    simp only [tn, hq']
    rw [if_pos (by omega), if_pos (by omega), if_pos (by omega), if_pos (by omega), if_pos (by omega), if_pos (by omega), if_pos (by omega), Wn (by omega)]
    rw [show W .i64 (u.getD q 0 - a0) = g u q - a0 from W64 (by show _ ≤ g u q - a0; omega) (by show g u q - a0 ≤ _; omega)]
    have key : ∀ (r : Nat), g (u.set q (g u q - a0)) r = if r = q then g u q - a0 else g u r := fun (r : Nat) => gset (by omega) _ r
    obtain ⟨u', e, hl, hr⟩ := ih k (n + 1) (u.set q (g u q - a0)) (by omega) (by omega) htl (by simp [hu]) ht (fun r hr => by
      rw [key r]
      have := hb r hr
      split <;> omega) ha0 hinj (fun m h2 h3 => by
      have h4 := ht m h3
      rw [key]
      split
      · rename_i e1
        have := hinj m n h3 hn' (by rw [hq]; omega)
        omega
      · exact hlow m (by omega) h3)
    refine ⟨u', e, hl, fun r hr' => ?_⟩
    have h5 := hr r hr'
    rw [key r] at h5
    by_cases e1 : r = q
    · subst e1
      rw [if_pos rfl] at h5
      have h6 : ¬ ∃ m, n + 1 ≤ m ∧ m < tree.length ∧ g tree m = (r : Int) := by
        rintro ⟨m, h2, h3, h4⟩
        have := hinj m n h3 hn' (by rw [h4, hq])
        omega
      exact ⟨fun _ => h5.2 h6, fun h => absurd ⟨n, Nat.le_refl _, hn', hq⟩ h⟩
    · rw [if_neg e1] at h5
      refine ⟨fun ⟨m, h2, h3, h4⟩ => h5.1 ⟨m, ?_, h3, h4⟩, fun h => h5.2 (fun ⟨m, h2, h3, h4⟩ => h ⟨m, by omega, h3, h4⟩)⟩
      rcases Nat.lt_or_ge n m with h7 | h7
      · exact h7
      · have : m = n := by omega
        subst this
        rw [hq] at h4
        omega
/-- The done columns are raised, the others' slacks lowered. -/
theorem shift_cols (a0 : Int) (done : List Bool) (h0 : 0 ≤ a0) (h1 : a0 ≤ 2000000000000000000) : ∀ (d k n : Nat) (v sl : List Int), d + n = 12 → d < k → v.length = 12 → sl.length = 12 →
    (∀ (j : Nat), n ≤ j → j < 12 → -2000000000000000000 ≤ g v j ∧ g v j ≤ 2000000000000000000) → (∀ (j : Nat), n ≤ j → j < 12 → -2000000000000000000 ≤ g sl j ∧ g sl j ≤ 2000000000000000000) →
    ∃ v' sl', assign_solution_augment_1s0.l1 a0 done k v sl (n : Int) = some (v', sl') ∧ v'.length = 12 ∧ sl'.length = 12 ∧
      ∀ (j : Nat), j < 12 → (n ≤ j → gb done j = true → g v' j = g v j + a0 ∧ g sl' j = g sl j) ∧ (n ≤ j → gb done j = false → g v' j = g v j ∧ g sl' j = g sl j - a0) ∧ (j < n → g v' j = g v j ∧ g sl' j = g sl j) := by
  intro d
  induction d with
  | zero =>
    intro k n v sl hd hk hv hs hb hb2
    obtain ⟨k, rfl⟩ : ∃ m, k = m + 1 := ⟨k - 1, by omega⟩
    refine ⟨v, sl, ?_, hv, hs, fun j hj => ⟨fun h => ?_, fun h => ?_, fun _ => ⟨rfl, rfl⟩⟩⟩
    · simp only [assign_solution_augment_1s0.l1]
      rw [if_neg (by omega)]
    · omega
    · omega
  | succ d ih =>
    intro k n v sl hd hk hv hs hb hb2
    obtain ⟨k, rfl⟩ : ∃ m, k = m + 1 := ⟨k - 1, by omega⟩
    have hn : n < 12 := by omega
    have hbn := hb n (Nat.le_refl _) hn
    have hbn2 := hb2 n (Nat.le_refl _) hn
    simp only [assign_solution_augment_1s0.l1, tn]
    rw [if_pos (by omega), if_pos (by omega), if_pos (by omega), Wn (by omega)]
    cases hd' : gb done n with
    | true =>
      rw [if_pos hd', if_pos (by omega), if_pos (by omega), if_pos (by omega), if_pos (by omega), Option.bind_some]
      rw [show W .i64 (v.getD n 0 + a0) = g v n + a0 from W64 (by show _ ≤ g v n + a0; omega) (by show g v n + a0 ≤ _; omega)]
      have key : ∀ (r : Nat), g (v.set n (g v n + a0)) r = if r = n then g v n + a0 else g v r := fun (r : Nat) => gset (by omega) _ r
      obtain ⟨v', sl', e, hl1, hl2, hr⟩ := ih k (n + 1) (v.set n (g v n + a0)) sl (by omega) (by omega) (by simp [hv]) hs (fun j h2 h3 => by
        rw [key, if_neg (by omega)]
        exact hb j (by omega) h3) (fun j h2 h3 => hb2 j (by omega) h3)
      refine ⟨v', sl', e, hl1, hl2, fun j hj => ?_⟩
      have h5 := hr j hj
      rw [key j] at h5
      by_cases e1 : j = n
      · subst e1
        rw [if_pos rfl] at h5
        refine ⟨fun _ _ => h5.2.2 (by omega), fun _ h => ?_, fun h => by omega⟩
        rw [hd'] at h; cases h
      · rw [if_neg e1] at h5
        exact ⟨fun h => h5.1 (by omega), fun h => h5.2.1 (by omega), fun h => h5.2.2 (by omega)⟩
    | false =>
      rw [if_neg (by show ¬ gb done n = true; rw [hd']; decide), if_pos (by omega), if_pos (by omega), if_pos (by omega), if_pos (by omega), Option.bind_some]
      rw [show W .i64 (sl.getD n 0 - a0) = g sl n - a0 from W64 (by show _ ≤ g sl n - a0; omega) (by show g sl n - a0 ≤ _; omega)]
      have key : ∀ (r : Nat), g (sl.set n (g sl n - a0)) r = if r = n then g sl n - a0 else g sl r := fun (r : Nat) => gset (by omega) _ r
      obtain ⟨v', sl', e, hl1, hl2, hr⟩ := ih k (n + 1) v (sl.set n (g sl n - a0)) (by omega) (by omega) hv (by simp [hs]) (fun j h2 h3 => hb j (by omega) h3) (fun j h2 h3 => by
        rw [key, if_neg (by omega)]
        exact hb2 j (by omega) h3)
      refine ⟨v', sl', e, hl1, hl2, fun j hj => ?_⟩
      have h5 := hr j hj
      rw [key j] at h5
      by_cases e1 : j = n
      · subst e1
        rw [if_pos rfl] at h5
        refine ⟨fun _ h => ?_, fun _ _ => h5.2.2 (by omega), fun h => by omega⟩
        rw [hd'] at h; cases h
      · rw [if_neg e1] at h5
        exact ⟨fun h => h5.1 (by omega), fun h => h5.2.1 (by omega), fun h => h5.2.2 (by omega)⟩
/-- The shift, whole. -/
theorem shift (k : Nat) (hk : 200 ≤ k) (a0 : Int) (tree : List Int) (s : S58) (done : List Bool) (sl : List Int) (h0 : 0 ≤ a0) (h1 : a0 ≤ 1000000000000000000) (htl : tree.length ≤ 100) (hu : s.f1.length = 12) (hv : s.f2.length = 12) (hs : sl.length = 12)
    (ht : ∀ m, m < tree.length → 0 ≤ g tree m ∧ g tree m < 12) (hinj : ∀ m m', m < tree.length → m' < tree.length → g tree m = g tree m' → m = m')
    (hbu : ∀ (r : Nat), r < 12 → -1000000000000000000 ≤ g s.f1 r ∧ g s.f1 r ≤ 1000000000000000000) (hbv : ∀ (j : Nat), j < 12 → -1000000000000000000 ≤ g s.f2 j ∧ g s.f2 j ≤ 1000000000000000000) (hbs : ∀ (j : Nat), j < 12 → -1000000000000000000 ≤ g sl j ∧ g sl j ≤ 2000000000000000000) :
    ∃ u' v' sl', assign_solution_augment_1s0.f k a0 tree s done sl = some (⟨s.f0, u', v'⟩, sl') ∧ u'.length = 12 ∧ v'.length = 12 ∧ sl'.length = 12 ∧
      (∀ (r : Nat), r < 12 → ((∃ m, m < tree.length ∧ g tree m = (r : Int)) → g u' r = g s.f1 r - a0) ∧ ((¬ ∃ m, m < tree.length ∧ g tree m = (r : Int)) → g u' r = g s.f1 r)) ∧
      ∀ (j : Nat), j < 12 → (gb done j = true → g v' j = g s.f2 j + a0 ∧ g sl' j = g sl j) ∧ (gb done j = false → g v' j = g s.f2 j ∧ g sl' j = g sl j - a0) := by
  obtain ⟨u', e1, hl1, hr1⟩ := shift_rows a0 tree tree.length k 0 s.f1 (by omega) (by omega) htl hu ht (fun r hr => by have := hbu r hr; omega) h0 hinj (fun m _ hm => by
    have h2 := ht m hm
    have := hbu (g tree m).toNat (by omega)
    omega)
  obtain ⟨v', sl', e2, hl2, hl3, hr2⟩ := shift_cols a0 done h0 (by omega) 12 k 0 s.f2 sl rfl (by omega) hv hs (fun j _ hj => by have := hbv j hj; omega) (fun j _ hj => by have := hbs j hj; omega)
  refine ⟨u', v', sl', ?_, hl1, hl2, hl3, fun r hr => ⟨fun ⟨m, h2, h3⟩ => (hr1 r hr).1 ⟨m, Nat.zero_le _, h2, h3⟩, fun h => (hr1 r hr).2 (fun ⟨m, _, h2, h3⟩ => h ⟨m, h2, h3⟩)⟩, fun j hj => ⟨fun h => (hr2 j hj).1 (Nat.zero_le _) h, fun h => (hr2 j hj).2.1 (Nat.zero_le _) h⟩⟩
  unfold assign_solution_augment_1s0.f
  rw [show assign_solution_augment_1s0.l2 a0 tree k s.f1 0 = some u' from e1, Option.bind_some]
  unfold assign_solution_augment_1s0.k3
  rw [show assign_solution_augment_1s0.l1 a0 done k s.f2 sl 0 = some (v', sl') from e2, Option.bind_some]
  rfl
/-! ### the next column -/
/-- The slacks by one more row, and the least of them. -/
theorem scan (b1 u v : List Int) (done : List Bool) (last : Int) (c : Nat) (hc : c < 12) : ∀ (d k n : Nat) (sl fr : List Int) (best : Int), d + n = 12 → d < k → sl.length = 12 → fr.length = 12 →
    (∀ (j : Nat), j < 12 → -1000000000000000000 ≤ g u c + g v j ∧ g u c + g v j ≤ 1000000000000000000) → (∀ (j : Nat), j < 12 → 0 ≤ g b1 (c * 12 + j) ∧ g b1 (c * 12 + j) ≤ 1000000000000000000) →
    (best = -1 ∧ (∀ (j : Nat), j < n → gb done j = true) ∨ ∃ q : Nat, best = (q : Int) ∧ q < n ∧ gb done q = false ∧ ∀ (j : Nat), j < n → gb done j = false → g sl q ≤ g sl j) →
    ∃ sl' fr' best', assign_solution_augments0.l3 b1 u v done last (c : Int) k sl fr best (n : Int) = some (sl', fr', best') ∧ sl'.length = 12 ∧ fr'.length = 12 ∧
      (∀ (j : Nat), j < 12 → (j < n → g sl' j = g sl j ∧ g fr' j = g fr j) ∧ (n ≤ j → gb done j = true → g sl' j = g sl j ∧ g fr' j = g fr j) ∧
        (n ≤ j → gb done j = false → (g u c + g v j - g b1 (c * 12 + j) < g sl j ∧ g sl' j = g u c + g v j - g b1 (c * 12 + j) ∧ g fr' j = last) ∨ (g sl j ≤ g u c + g v j - g b1 (c * 12 + j) ∧ g sl' j = g sl j ∧ g fr' j = g fr j))) ∧
      (best' = -1 ∧ (∀ (j : Nat), j < 12 → gb done j = true) ∨ ∃ q : Nat, best' = (q : Int) ∧ q < 12 ∧ gb done q = false ∧ ∀ (j : Nat), j < 12 → gb done j = false → g sl' q ≤ g sl' j) := by
  intro d
  induction d with
  | zero =>
    intro k n sl fr best hd hk hs hf hb hw hbest
    obtain ⟨k, rfl⟩ : ∃ m, k = m + 1 := ⟨k - 1, by omega⟩
    obtain rfl : n = 12 := by omega
    refine ⟨sl, fr, best, ?_, hs, hf, fun j hj => ⟨fun _ => ⟨rfl, rfl⟩, fun h => ?_, fun h => ?_⟩, hbest⟩
    · simp only [assign_solution_augments0.l3]
      rw [if_neg (by omega)]
    · omega
    · omega
  | succ d ih =>
    intro k n sl fr best hd hk hs hf hb hw hbest
    obtain ⟨k, rfl⟩ : ∃ m, k = m + 1 := ⟨k - 1, by omega⟩
    have hn : n < 12 := by omega
    have hbn := hb n hn
    have hwn := hw n hn
    simp only [assign_solution_augments0.l3, tn]
    rw [if_pos (by omega), if_pos (by omega), if_pos (by omega), Wn (by omega)]
    cases hd' : gb done n with
    | true =>
      rw [if_pos hd', Option.bind_some]
      obtain ⟨sl', fr', best', e, h1, h2, h3, h4⟩ := ih k (n + 1) sl fr best (by omega) (by omega) hs hf hb hw (by
        rcases hbest with ⟨h5, h6⟩ | ⟨q, h5, h6, h7, h8⟩
        · refine .inl ⟨h5, fun j hj => ?_⟩
          by_cases e : j = n
          · rw [e, hd']
          · exact h6 j (by omega)
        · refine .inr ⟨q, h5, by omega, h7, fun j hj hj2 => h8 j ?_ hj2⟩
          rcases Nat.lt_or_ge j n with h9 | h9
          · exact h9
          · have : j = n := by omega
            rw [this, hd'] at hj2
            cases hj2)
      refine ⟨sl', fr', best', e, h1, h2, fun j hj => ?_, h4⟩
      have h5 := h3 j hj
      refine ⟨fun h => h5.1 (by omega), fun h h' => ?_, fun h h' => ?_⟩
      · by_cases e1 : j = n
        · exact h5.1 (by omega)
        · exact h5.2.1 (by omega) h'
      · by_cases e1 : j = n
        · rw [e1, hd'] at h'; cases h'
        · exact h5.2.2 (by omega) h'
    | false =>
      rw [if_neg (by show ¬ gb done n = true; rw [hd']; decide)]
      rw [if_pos (by omega), if_pos (by omega), if_pos (by omega), if_pos (by omega), if_pos (by omega), if_pos (by omega), if_pos (by omega), if_pos (by omega), if_pos (by omega), if_pos (by omega)]
      rw [show W .i64 (u.getD c 0 + v.getD n 0) = g u c + g v n from W64 (by show _ ≤ g u c + g v n; omega) (by show g u c + g v n ≤ _; omega)]
      rw [show W .i64 (g u c + g v n - b1.getD (c * 12 + n) 0) = g u c + g v n - g b1 (c * 12 + n) from W64 (by show _ ≤ g u c + g v n - g b1 (c * 12 + n); omega) (by show g u c + g v n - g b1 (c * 12 + n) ≤ _; omega)]
      generalize hx : g u c + g v n - g b1 (c * 12 + n) = x
      -- the row's slack is held against the least so far
      have step : ∀ sl2 fr2 : List Int, sl2.length = 12 → fr2.length = 12 → (∀ (j : Nat), j ≠ n → g sl2 j = g sl j ∧ g fr2 j = g fr j) → g sl2 n ≤ g sl n →
          ((x < g sl n ∧ g sl2 n = x ∧ g fr2 n = last) ∨ (g sl n ≤ x ∧ g sl2 n = g sl n ∧ g fr2 n = g fr n)) →
          ∃ sl' fr' best', ((assign_solution_augments0.k8 best (n : Int) (sl2, fr2)).bind fun z => assign_solution_augments0.l3 b1 u v done last (c : Int) k z.1 z.2.1 z.2.2 ((n + 1 : Nat) : Int)) = some (sl', fr', best') ∧ sl'.length = 12 ∧ fr'.length = 12 ∧
            (∀ (j : Nat), j < 12 → (j < n → g sl' j = g sl j ∧ g fr' j = g fr j) ∧ (n ≤ j → gb done j = true → g sl' j = g sl j ∧ g fr' j = g fr j) ∧
              (n ≤ j → gb done j = false → (g u c + g v j - g b1 (c * 12 + j) < g sl j ∧ g sl' j = g u c + g v j - g b1 (c * 12 + j) ∧ g fr' j = last) ∨ (g sl j ≤ g u c + g v j - g b1 (c * 12 + j) ∧ g sl' j = g sl j ∧ g fr' j = g fr j))) ∧
            (best' = -1 ∧ (∀ (j : Nat), j < 12 → gb done j = true) ∨ ∃ q : Nat, best' = (q : Int) ∧ q < 12 ∧ gb done q = false ∧ ∀ (j : Nat), j < 12 → gb done j = false → g sl' q ≤ g sl' j) := by
        intro sl2 fr2 hl hfl hoth hle hcase
        -- the least column
        have hnext : ∃ b2 : Int, (assign_solution_augments0.k8 best (n : Int) (sl2, fr2)) = some (sl2, fr2, b2) ∧ ∃ q : Nat, b2 = (q : Int) ∧ q < n + 1 ∧ gb done q = false ∧ ∀ (j : Nat), j < n + 1 → gb done j = false → g sl2 q ≤ g sl2 j := by
          rcases hbest with ⟨h5, h6⟩ | ⟨q, h5, h6, h7, h8⟩
          · refine ⟨(n : Int), ?_, n, rfl, by omega, hd', fun j hj hj2 => ?_⟩
            · simp only [assign_solution_augments0.k8, h5, if_pos, Option.bind_some, assign_solution_augments0.k7, assign_solution_augments0.k6]
            · rcases Nat.lt_or_ge j n with h9 | h9
              · rw [h6 j h9] at hj2; cases hj2
              · have : j = n := by omega
                rw [this]; exact Int.le_refl _
          · subst h5
            have e0 : ¬ (q : Int) = -1 := by omega
            by_cases hlt : g sl2 n < g sl2 q
            · refine ⟨(n : Int), ?_, n, rfl, by omega, hd', fun j hj hj2 => ?_⟩
              · simp only [assign_solution_augments0.k8, if_neg e0, tn]
                rw [if_pos (by omega), if_pos (by omega), if_pos (by omega), if_pos (by omega), Option.bind_some]
                simp only [assign_solution_augments0.k7]
                rw [if_pos (by simpa using hlt)]
                simp only [Option.bind_some, assign_solution_augments0.k6]
              · rcases Nat.lt_or_ge j n with h9 | h9
                · have := h8 j h9 hj2
                  rw [(hoth q (by omega)).1] at hlt
                  rw [(hoth j (by omega)).1]
                  omega
                · have : j = n := by omega
                  rw [this]; exact Int.le_refl _
            · refine ⟨(q : Int), ?_, q, rfl, by omega, h7, fun j hj hj2 => ?_⟩
              · simp only [assign_solution_augments0.k8, if_neg e0, tn]
                rw [if_pos (by omega), if_pos (by omega), if_pos (by omega), if_pos (by omega), Option.bind_some]
                simp only [assign_solution_augments0.k7]
                rw [if_neg (by simpa using hlt)]
                simp only [Option.bind_some, assign_solution_augments0.k6]
              · rcases Nat.lt_or_ge j n with h9 | h9
                · have := h8 j h9 hj2
                  rw [(hoth q (by omega)).1, (hoth j (by omega)).1]
                  exact this
                · have : j = n := by omega
                  rw [this]; omega
        obtain ⟨b2, eb, hb2⟩ := hnext
        rw [eb, Option.bind_some]
        obtain ⟨sl', fr', best', e, h1, h2, h3, h4⟩ := ih k (n + 1) sl2 fr2 b2 (by omega) (by omega) hl hfl hb hw (.inr hb2)
        refine ⟨sl', fr', best', e, h1, h2, fun j hj => ?_, h4⟩
        have h5 := h3 j hj
        by_cases e1 : j = n
        · have h6 := h5.1 (by omega)
          refine ⟨fun h => by omega, fun _ h => ?_, fun _ _ => ?_⟩
          · rw [e1, hd'] at h; cases h
          · rw [h6.1, h6.2, e1, hx]
            exact hcase
        · rw [(hoth j e1).1, (hoth j e1).2] at h5
          exact ⟨fun h => h5.1 (by omega), fun h => h5.2.1 (by omega), fun h => h5.2.2 (by omega)⟩
      by_cases hlt : x < g sl n
      · rw [if_pos hlt, if_pos (by omega), if_pos (by omega), if_pos (by omega), if_pos (by omega), Option.bind_some]
        exact step _ _ (by simp [hs]) (by simp [hf]) (fun j hj => ⟨by rw [gset (by omega), if_neg hj], by rw [gset (by omega), if_neg hj]⟩) (by rw [gset (by omega), if_pos rfl]; omega) (.inl ⟨hlt, by rw [gset (by omega), if_pos rfl], by rw [gset (by omega), if_pos rfl]⟩)
      · rw [if_neg hlt, Option.bind_some]
        exact step _ _ hs hf (fun _ _ => ⟨rfl, rfl⟩) (Int.le_refl _) (.inr ⟨by omega, rfl, rfl⟩)
end Go.Proofs.Ytdmhbcgmimfjcaa.hun
namespace Go.Proofs.Ytdmhbcgmimfjcaa.hun
open Go Go.Proofs.Ytdmhbcgmimfjcaa Go.Proofs.Ytdmhbcgmimfjcaa.RW
set_option linter.unusedVariables false
set_option maxRecDepth 100000
/-! ### more pigeons than holes -/
theorem pigeon : ∀ (n : Nat) (f : Nat → Nat), (∀ j, j < n + 1 → f j < n) → ∃ a b, a < b ∧ b < n + 1 ∧ f a = f b := by
  intro n
  induction n with
  | zero => intro f h; have := h 0 (by omega); omega
  | succ n ih =>
    intro f h
    by_cases hv : ∃ a, a < n + 1 ∧ f a = f (n + 1)
    · obtain ⟨a, h1, h2⟩ := hv
      exact ⟨a, n + 1, h1, by omega, h2⟩
    · obtain ⟨a, b, h1, h2, h3⟩ := ih (fun j => if f j = n then f (n + 1) else f j) (fun j hj => by
        have h4 := h j (by omega)
        have h5 := h (n + 1) (by omega)
        show (if f j = n then f (n + 1) else f j) < n
        split
        · rename_i e
          have : f (n + 1) ≠ n := fun e2 => hv ⟨j, hj, by rw [e, e2]⟩
          omega
        · omega)
      refine ⟨a, b, h1, by omega, ?_⟩
      split at h3 <;> split at h3
      · rename_i e1 e2; rw [e1, e2]
      · exact absurd ⟨b, by omega, h3.symm⟩ hv
      · exact absurd ⟨a, by omega, h3⟩ hv
      · exact h3

abbrev wt (b : List Int) (r j : Nat) : Int := g b (r * 12 + j)
abbrev red (b u v : List Int) (r j : Nat) : Int := g u r + g v j - wt b r j
/-- The rows below i are matched, each with a column. -/
structure Mt (i : Nat) (R : List Int) : Prop where
  len : R.length = 12
  rng : ∀ j, j < 12 → g R j = -1 ∨ (0 ≤ g R j ∧ g R j < (i : Int))
  inj : ∀ j j', j < 12 → j' < 12 → 0 ≤ g R j → g R j = g R j' → j = j'
  onto : ∀ r, r < i → ∃ j, j < 12 ∧ g R j = (r : Int)
/-- Potentials of the rows below i, with equality on the matching. -/
structure Pt (M : Int) (i : Nat) (b R u v : List Int) : Prop where
  ul : u.length = 12
  vl : v.length = 12
  feas : ∀ r j, r < i → j < 12 → 0 ≤ red b u v r j
  tight : ∀ j (r : Nat), j < 12 → g R j = (r : Int) → red b u v r j = 0
  vpos : ∀ j, j < 12 → 0 ≤ g v j
  vzero : ∀ j, j < 12 → g R j = -1 → g v j = 0
  uzero : ∀ r, i ≤ r → r < 12 → g u r = 0
  vb : ∀ j, j < 12 → g v j ≤ i * M
  ub : ∀ r, r < 12 → -(i * M) ≤ g u r ∧ g u r ≤ M
theorem Mt.free {i : Nat} {R : List Int} (h : Mt i R) (hi : i < 12) : ∃ j, j < 12 ∧ g R j = -1 := by
  by_cases hx : ∃ j, j < 12 ∧ g R j = -1
  · exact hx
  · have hall : ∀ j, j < 12 → 0 ≤ g R j ∧ g R j < (i : Int) := fun j hj => (h.rng j hj).resolve_left (fun e => hx ⟨j, hj, e⟩)
    obtain ⟨a, c, h1, h2, h3⟩ := pigeon i (fun j => (g R j).toNat) (fun j hj => by have := hall j (by omega); show (g R j).toNat < i; omega)
    have h4 := hall a (by omega)
    have h5 := hall c (by omega)
    have := h.inj a c (by omega) (by omega) h4.1 (by have h6 : (g R a).toNat = (g R c).toNat := h3; omega)
    omega
/-- The path's edges: each done column comes by a tight edge from the new row, or from the row of an earlier column. -/
def PathOK (i : Nat) (b R u v fr : List Int) : List Nat → Prop
  | [] => True
  | c :: ds => c < 12 ∧ (g fr c = -1 ∧ red b u v i c = 0 ∨ ∃ p, p ∈ ds ∧ g fr c = (p : Int) ∧ red b u v (g R p).toNat c = 0) ∧ c ∉ ds ∧ PathOK i b R u v fr ds
/-- What stands at the head of a round. -/
structure Av (M : Int) (i : Nat) (b R u v sl fr : List Int) (done : List Bool) (tree : List Int) (last cur : Int) (ds : List Nat) (U : Int) : Prop where
  ul : u.length = 12
  vl : v.length = 12
  sll : sl.length = 12
  frl : fr.length = 12
  dl : done.length = 12
  feas : ∀ r j, r ≤ i → j < 12 → 0 ≤ red b u v r j
  tight : ∀ j (r : Nat), j < 12 → g R j = (r : Int) → red b u v r j = 0
  vpos : ∀ j, j < 12 → 0 ≤ g v j
  vzero : ∀ j, j < 12 → g R j = -1 → g v j = 0
  uzero : ∀ r, i < r → r < 12 → g u r = 0
  ui : 0 ≤ g u i ∧ g u i ≤ U ∧ U ≤ M
  vb : ∀ j, j < 12 → g v j ≤ i * M + (U - g u i)
  ub : ∀ r, r < 12 → -(i * M + (U - g u i)) ≤ g u r ∧ g u r ≤ M
  dn : ∀ j, j < 12 → (gb done j = true ↔ j ∈ ds)
  dm : ∀ c, c ∈ ds → c < 12 ∧ 0 ≤ g R c
  tl : tree.length = ds.length + 1
  tr : ∀ m, m < tree.length → 0 ≤ g tree m ∧ g tree m < 12
  tm : ∀ r : Nat, (∃ m, m < tree.length ∧ g tree m = (r : Int)) ↔ r = i ∨ ∃ c, c ∈ ds ∧ g R c = (r : Int)
  ti : ∀ m m', m < tree.length → m' < tree.length → g tree m = g tree m' → m = m'
  hl : (ds = [] ∧ last = -1 ∧ cur = (i : Int)) ∨ ∃ c ds', ds = c :: ds' ∧ last = (c : Int) ∧ cur = g R c
  path : PathOK i b R u v fr ds
  slb : ∀ j, j < 12 → -1 ≤ g sl j ∧ g sl j ≤ 1152921504606846976
  sT : ∀ j r, j < 12 → gb done j = false → (r = i ∨ ∃ c, c ∈ ds ∧ g R c = (r : Int)) → (r : Int) ≠ cur → g sl j ≤ red b u v r j
  sE : ∀ j, j < 12 → gb done j = false → ds ≠ [] → (g fr j = -1 ∧ g sl j = red b u v i j) ∨ ∃ p, p ∈ ds ∧ g fr j = (p : Int) ∧ g sl j = red b u v (g R p).toNat j
  far : ds = [] → ∀ j, j < 12 → g sl j = 1152921504606846976
def und (done : List Bool) : Nat := cntF (fun j => !gb done j) 12
/-- What stands behind the last round: the new row's path. -/
structure Fin (M : Int) (i : Nat) (b R u v fr : List Int) (ds : List Nat) (U : Int) : Prop where
  ul : u.length = 12
  vl : v.length = 12
  feas : ∀ r j, r ≤ i → j < 12 → 0 ≤ red b u v r j
  tight : ∀ j (r : Nat), j < 12 → g R j = (r : Int) → red b u v r j = 0
  vpos : ∀ j, j < 12 → 0 ≤ g v j
  vzero : ∀ j, j < 12 → g R j = -1 → g v j = 0
  uzero : ∀ r, i < r → r < 12 → g u r = 0
  ui : 0 ≤ g u i ∧ g u i ≤ U ∧ U ≤ M
  vb : ∀ j, j < 12 → g v j ≤ i * M + (U - g u i)
  ub : ∀ r, r < 12 → -(i * M + (U - g u i)) ≤ g u r ∧ g u r ≤ M
  path : PathOK i b R u v fr ds
  pm : ∀ p, p ∈ ds.tail → p < 12 ∧ 0 ≤ g R p
theorem path_mem {i : Nat} {b R u v fr : List Int} : ∀ {ds : List Nat}, PathOK i b R u v fr ds → ∀ c, c ∈ ds → c < 12 ∧ (g fr c = -1 ∧ red b u v i c = 0 ∨ ∃ p, p ∈ ds ∧ g fr c = (p : Int) ∧ red b u v (g R p).toNat c = 0)
  | d :: ds, h, c, hc => by
    obtain ⟨h1, h2, h3, h4⟩ := h
    rcases List.mem_cons.1 hc with rfl | hc
    · refine ⟨h1, h2.imp id (fun ⟨p, hp, h5⟩ => ⟨p, List.mem_cons_of_mem _ hp, h5⟩)⟩
    · have h5 := path_mem h4 c hc
      exact ⟨h5.1, h5.2.imp id (fun ⟨p, hp, h6⟩ => ⟨p, List.mem_cons_of_mem _ hp, h6⟩)⟩
/-- The path's edges stay tight where rows of the tree and done columns are shifted against each other. -/
theorem path_shift {i : Nat} {b R u v u' v' fr fr' : List Int} {x : Int} : ∀ {ds : List Nat} (all : List Nat), (∀ c, c ∈ ds → c ∈ all) → PathOK i b R u v fr ds → (g u' i = g u i - x) → (∀ p, p ∈ all → g u' (g R p).toNat = g u (g R p).toNat - x) → (∀ c, c ∈ all → g v' c = g v c + x) → (∀ c, c ∈ all → g fr' c = g fr c) → PathOK i b R u' v' fr' ds
  | [], _, _, _, _, _, _, _ => trivial
  | d :: ds, all, hs, h, hi, hp, hc, hf => by
    obtain ⟨h1, h2, h3, h4⟩ := h
    have hd := hs d List.mem_cons_self
    refine ⟨h1, ?_, h3, path_shift all (fun c hc => hs c (List.mem_cons_of_mem _ hc)) h4 hi hp hc hf⟩
    rw [hf d hd]
    rcases h2 with ⟨h5, h6⟩ | ⟨p, h5, h6, h7⟩
    · refine .inl ⟨h5, ?_⟩
      have h8 := hc d hd
      show g u' i + g v' d - _ = 0
      have h9 : g u i + g v d - wt b i d = 0 := h6
      omega
    · refine .inr ⟨p, h5, h6, ?_⟩
      have h8 := hc d hd
      have h10 := hp p (hs p (List.mem_cons_of_mem _ h5))
      show g u' (g R p).toNat + g v' d - _ = 0
      have h9 : g u (g R p).toNat + g v d - wt b (g R p).toNat d = 0 := h7
      omega
end Go.Proofs.Ytdmhbcgmimfjcaa.hun
namespace Go.Proofs.Ytdmhbcgmimfjcaa.hun
open Go Go.Proofs.Ytdmhbcgmimfjcaa Go.Proofs.Ytdmhbcgmimfjcaa.RW
set_option linter.unusedVariables false
set_option maxRecDepth 100000
set_option maxHeartbeats 2000000
section
variable {M : Int} {i : Nat} {b R u v sl fr : List Int} {done : List Bool} {tree : List Int} {last cur : Int} {ds : List Nat} {U : Int}
theorem Av.cur_mem (av : Av M i b R u v sl fr done tree last cur ds U) (mt : Mt i R) : ∃ c : Nat, cur = (c : Int) ∧ c ≤ i ∧ (c = i ∨ ∃ d, d ∈ ds ∧ g R d = (c : Int)) := by
  rcases av.hl with ⟨h1, h2, h3⟩ | ⟨c, ds', h1, h2, h3⟩
  · exact ⟨i, h3, Nat.le_refl _, .inl rfl⟩
  · have hc := av.dm c (by rw [h1]; exact List.mem_cons_self)
    have h4 := mt.rng c hc.1
    refine ⟨(g R c).toNat, by omega, by omega, .inr ⟨c, by rw [h1]; exact List.mem_cons_self, by omega⟩⟩
/-- The numbers' bounds. -/
theorem Av.bounds (av : Av M i b R u v sl fr done tree last cur ds U) (hi : i < 12) (hM0 : 0 ≤ M) (hM : M ≤ 1073741824) : (∀ r, r < 12 → -14000000000 ≤ g u r ∧ g u r ≤ 1073741824) ∧ ∀ j, j < 12 → 0 ≤ g v j ∧ g v j ≤ 14000000000 := by
  have hiM : 0 ≤ (i : Int) * M ∧ (i : Int) * M ≤ 11811160064 := by
    have h1 : (i : Int) * M ≤ 11 * M := Int.mul_le_mul_of_nonneg_right (by omega) hM0
    have h2 : 0 ≤ (i : Int) * M := Int.mul_nonneg (by omega) hM0
    omega
  have h3 := av.ui
  refine ⟨fun r hr => ?_, fun j hj => ?_⟩
  · have := av.ub r hr
    omega
  · have := av.vb j hj
    have := av.vpos j hj
    omega
/-- What the scan leaves: the next column, by how much is shifted. -/
structure Sc (i : Nat) (b R u v sl fr : List Int) (done : List Bool) (ds : List Nat) (q : Nat) : Prop where
  sll : sl.length = 12
  frl : fr.length = 12
  q12 : q < 12
  qu : gb done q = false
  qm : ∀ j, j < 12 → gb done j = false → g sl q ≤ g sl j
  sT : ∀ j r, j < 12 → gb done j = false → (r = i ∨ ∃ c, c ∈ ds ∧ g R c = (r : Int)) → g sl j ≤ red b u v r j
  sE : ∀ j, j < 12 → gb done j = false → (g fr j = -1 ∧ g sl j = red b u v i j) ∨ ∃ p, p ∈ ds ∧ g fr j = (p : Int) ∧ g sl j = red b u v (g R p).toNat j
theorem Av.scan (av : Av M i b R u v sl fr done tree last cur ds U) (mt : Mt i R) (hi : i < 12) (hM0 : 0 ≤ M) (hM : M ≤ 1073741824) (hw : ∀ r j, r < 12 → j < 12 → 0 ≤ wt b r j ∧ wt b r j ≤ M) {k : Nat} (hk : 200 ≤ k) :
    ∃ (sl' fr' : List Int) (q : Nat), assign_solution_augments0.l3 b u v done last cur k sl fr (-1) 0 = some (sl', fr', (q : Int)) ∧ Sc i b R u v sl' fr' done ds q ∧ ∀ j, j < 12 → gb done j = true → g sl' j = g sl j ∧ g fr' j = g fr j := by
  obtain ⟨c, hc, hci, hcm⟩ := av.cur_mem mt
  obtain ⟨hbu, hbv⟩ := av.bounds hi hM0 hM
  have hb : ∀ (j : Nat), j < 12 → -1000000000000000000 ≤ g u c + g v j ∧ g u c + g v j ≤ 1000000000000000000 := fun j hj => by
    have h1 := hbu c (by omega)
    have h2 := hbv j hj
    omega
  obtain ⟨sl', fr', best', e, h1, h2, h3, h4⟩ := hun.scan b u v done last c (by omega) 12 k 0 sl fr (-1) rfl (by omega) av.sll av.frl hb (fun j hj => by have := hw c j (by omega) hj; show 0 ≤ wt b c j ∧ wt b c j ≤ _; omega) (.inl ⟨rfl, fun j hj => by omega⟩)
  -- a column that isn't matched isn't done
  obtain ⟨j0, hj0, hf0⟩ := mt.free hi
  have hu0 : gb done j0 = false := by
    cases hd : gb done j0 with
    | false => rfl
    | true =>
      have := av.dm j0 ((av.dn j0 hj0).1 hd)
      omega
  obtain ⟨q, hq, hq12, hqu, hqm⟩ := h4.resolve_left (fun h => by rw [h.2 j0 hj0] at hu0; cases hu0)
  subst hq; subst hc
  have hpos : ∀ j, j < 12 → -2000000000 ≤ red b u v c j := fun j hj => by have := av.feas c j hci hj; omega
  have hcur : ∀ r : Nat, (r : Int) ≠ (c : Int) ↔ r ≠ c := fun r => by omega
  refine ⟨sl', fr', q, e, ⟨h1, h2, hq12, hqu, hqm, fun j r hj hd hr => ?_, fun j hj hd => ?_⟩, fun j hj hd => (h3 j hj).2.1 (Nat.zero_le _) hd⟩
  · have h5 := (h3 j hj).2.2 (Nat.zero_le _) hd
    by_cases hrc : r = c
    · subst hrc
      rcases h5 with ⟨_, h6, _⟩ | ⟨h6, h7, _⟩
      · show g sl' j ≤ g u r + g v j - g b (r * 12 + j); omega
      · show g sl' j ≤ g u r + g v j - g b (r * 12 + j); omega
    · have h6 := av.sT j r hj hd hr (by omega)
      rcases h5 with ⟨h7, h8, _⟩ | ⟨h7, h8, _⟩ <;> omega
  · have h5 := (h3 j hj).2.2 (Nat.zero_le _) hd
    rcases h5 with ⟨_, h6, h7⟩ | ⟨h6, h7, h8⟩
    · -- by the current row
      rcases av.hl with ⟨h9, h10, h11⟩ | ⟨d, ds', h9, h10, h11⟩
      · refine .inl ⟨by rw [h7, h10], ?_⟩
        have : c = i := by omega
        rw [h6, this]
      · refine .inr ⟨d, by rw [h9]; exact List.mem_cons_self, by rw [h7, h10], ?_⟩
        have : (g R d).toNat = c := by omega
        rw [h6, this]
    · -- by an earlier one
      by_cases hds : ds = []
      · have h9 := av.far hds j hj
        have h10 := hbu c (by omega)
        have h11 := hbv j hj
        have h12 := hw c j (by omega) hj
        exfalso
        have h13 : wt b c j = g b (c * 12 + j) := rfl
        omega
      · rcases av.sE j hj hd hds with ⟨h9, h10⟩ | ⟨p, h9, h10, h11⟩
        · exact .inl ⟨by rw [h8, h9], by rw [h7, h10]⟩
        · exact .inr ⟨p, h9, by rw [h8, h10], by rw [h7, h11]⟩
end
end Go.Proofs.Ytdmhbcgmimfjcaa.hun
namespace Go.Proofs.Ytdmhbcgmimfjcaa.hun
open Go Go.Proofs.Ytdmhbcgmimfjcaa Go.Proofs.Ytdmhbcgmimfjcaa.RW
set_option linter.unusedVariables false
set_option maxRecDepth 100000
set_option maxHeartbeats 4000000
section
variable {M : Int} {i : Nat} {b R u v sl fr : List Int} {done : List Bool} {tree : List Int} {last cur : Int} {ds : List Nat} {U : Int}
theorem gapp {l : List Int} {x : Int} {m : Nat} : g (l ++ [x]) m = if m < l.length then g l m else if m = l.length then x else 0 := by
  unfold g
  rw [List.getD_eq_getElem?_getD, List.getD_eq_getElem?_getD, List.getElem?_append]
  split
  · rfl
  · rename_i h
    by_cases e : m = l.length
    · subst e; simp
    · rw [if_neg e]
      have : m - l.length ≠ 0 := by omega
      obtain ⟨q, hq⟩ : ∃ q, m - l.length = q + 1 := ⟨m - l.length - 1, by omega⟩
      rw [hq]; rfl
/-- Who is in the tree. -/
def inT (i : Nat) (R : List Int) (ds : List Nat) (r : Nat) : Prop := r = i ∨ ∃ c, c ∈ ds ∧ g R c = (r : Int)
theorem Av.step (av : Av M i b R u v sl fr done tree last cur ds U) (mt : Mt i R) (hi : i < 12) (hM0 : 0 ≤ M) (hM : M ≤ 1073741824) (hw : ∀ r j, r < 12 → j < 12 → 0 ≤ wt b r j ∧ wt b r j ≤ M)
    {sl1 fr1 : List Int} {q : Nat} (sc : Sc i b R u v sl1 fr1 done ds q) (hkeep : ∀ j, j < 12 → gb done j = true → g sl1 j = g sl j ∧ g fr1 j = g fr j) {u1 v1 sl2 : List Int} (hul : u1.length = 12) (hvl : v1.length = 12) (hsl : sl2.length = 12)
    (hu1 : ∀ r, r < 12 → inT i R ds r → g u1 r = g u r - g sl1 q) (hu2 : ∀ r, r < 12 → ¬ inT i R ds r → g u1 r = g u r)
    (hv1 : ∀ j, j < 12 → gb done j = true → g v1 j = g v j + g sl1 q ∧ g sl2 j = g sl1 j) (hv2 : ∀ j, j < 12 → gb done j = false → g v1 j = g v j ∧ g sl2 j = g sl1 j - g sl1 q) :
    Fin M i b R u1 v1 fr1 (q :: ds) U ∧ (g R q ≠ -1 → Av M i b R u1 v1 sl2 fr1 (done.set q true) (tree ++ [g R q]) (q : Int) (g R q) (q :: ds) U) := by
  obtain ⟨hbu, hbv⟩ := av.bounds hi hM0 hM
  -- by how much is shifted
  obtain ⟨j0, hj0, hf0⟩ := mt.free hi
  have hu0 : gb done j0 = false := by
    cases hd : gb done j0 with
    | false => rfl
    | true => have := av.dm j0 ((av.dn j0 hj0).1 hd); omega
  have hx0 : 0 ≤ g sl1 q := by
    rcases sc.sE q sc.q12 sc.qu with ⟨_, h2⟩ | ⟨p, h1, _, h3⟩
    · rw [h2]; exact av.feas i q (Nat.le_refl _) sc.q12
    · have h4 := av.dm p h1
      have h5 := mt.rng p h4.1
      rw [h3]; exact av.feas _ q (by omega) sc.q12
  have hxu : g sl1 q ≤ g u i := by
    have h1 := sc.qm j0 hj0 hu0
    have h2 := sc.sT j0 i hj0 hu0 (.inl rfl)
    have h3 := av.vzero j0 hj0 hf0
    have h4 := hw i j0 hi hj0
    have h5 : red b u v i j0 = g u i + g v j0 - wt b i j0 := rfl
    omega
  have hui := av.ui
  generalize hx : g sl1 q = x at *
  have hu1i := hu1 i hi (.inl rfl)
  have tree12 : ∀ r, inT i R ds r → r < 12 := fun r hr => by
    rcases hr with rfl | ⟨c, hc, hrc⟩
    · exact hi
    · have := mt.rng c (av.dm c hc).1; omega
  have hnd : ∀ j, j < 12 → gb done j = true ∨ gb done j = false := fun j _ => by cases gb done j <;> simp
  have feas1 : ∀ r j, r ≤ i → j < 12 → 0 ≤ red b u1 v1 r j := by
    intro r j hr hj
    have hf := av.feas r j hr hj
    have e1 : red b u v r j = g u r + g v j - wt b r j := rfl
    show 0 ≤ g u1 r + g v1 j - wt b r j
    by_cases hT : inT i R ds r
    · have h1 := hu1 r (by omega) hT
      rcases hnd j hj with hd | hd
      · have h2 := hv1 j hj hd; omega
      · have h2 := hv2 j hj hd
        have h3 := sc.qm j hj hd
        have h4 := sc.sT j r hj hd hT
        omega
    · have h1 := hu2 r (by omega) hT
      rcases hnd j hj with hd | hd
      · have h2 := hv1 j hj hd; omega
      · have h2 := hv2 j hj hd; omega
  have tight1 : ∀ j (r : Nat), j < 12 → g R j = (r : Int) → red b u1 v1 r j = 0 := by
    intro j r hj hr
    have hf := av.tight j r hj hr
    have e1 : red b u v r j = g u r + g v j - wt b r j := rfl
    have hri := mt.rng j hj
    show g u1 r + g v1 j - wt b r j = 0
    rcases hnd j hj with hd | hd
    · have h1 := hu1 r (by omega) (.inr ⟨j, (av.dn j hj).1 hd, hr⟩)
      have h2 := hv1 j hj hd
      omega
    · have h1 := hu2 r (by omega) (by
        rintro (h3 | ⟨c, hc, hrc⟩)
        · omega
        · have h4 := mt.inj c j (av.dm c hc).1 hj (by omega) (by omega)
          subst h4
          rw [(av.dn c hj).2 hc] at hd
          cases hd)
      have h2 := hv2 j hj hd
      omega
  have hpath : PathOK i b R u1 v1 fr1 ds := by
    refine path_shift (x := x) ds (fun c hc => hc) av.path hu1i (fun p hp => ?_) (fun c hc => (hv1 c (av.dm c hc).1 ((av.dn c (av.dm c hc).1).2 hc)).1) (fun c hc => (hkeep c (av.dm c hc).1 ((av.dn c (av.dm c hc).1).2 hc)).2)
    have h1 := av.dm p hp
    have h2 := mt.rng p h1.1
    exact hu1 _ (by omega) (.inr ⟨p, hp, by omega⟩)
  have hqds : q ∉ ds := fun h => by
    have := (av.dn q sc.q12).2 h
    rw [sc.qu] at this
    cases this
  have hvq := hv2 q sc.q12 sc.qu
  have hpath1 : PathOK i b R u1 v1 fr1 (q :: ds) := by
    refine ⟨sc.q12, ?_, hqds, hpath⟩
    rcases sc.sE q sc.q12 sc.qu with ⟨h1, h2⟩ | ⟨p, h1, h2, h3⟩
    · refine .inl ⟨h1, ?_⟩
      have e1 : red b u v i q = g u i + g v q - wt b i q := rfl
      show g u1 i + g v1 q - wt b i q = 0
      omega
    · refine .inr ⟨p, h1, h2, ?_⟩
      have h4 := av.dm p h1
      have h5 := mt.rng p h4.1
      have h6 := hu1 (g R p).toNat (by omega) (.inr ⟨p, h1, by omega⟩)
      have e1 : red b u v (g R p).toNat q = g u (g R p).toNat + g v q - wt b (g R p).toNat q := rfl
      show g u1 (g R p).toNat + g v1 q - wt b (g R p).toNat q = 0
      omega
  have vpos1 : ∀ j, j < 12 → 0 ≤ g v1 j := fun j hj => by
    have := av.vpos j hj
    rcases hnd j hj with hd | hd
    · have := hv1 j hj hd; omega
    · have := hv2 j hj hd; omega
  have vzero1 : ∀ j, j < 12 → g R j = -1 → g v1 j = 0 := fun j hj hr => by
    have h1 := av.vzero j hj hr
    rcases hnd j hj with hd | hd
    · have := av.dm j ((av.dn j hj).1 hd); omega
    · have := hv2 j hj hd; omega
  have uzero1 : ∀ r, i < r → r < 12 → g u1 r = 0 := fun r hr hr2 => by
    rw [hu2 r hr2 (by
      rintro (h3 | ⟨c, hc, hrc⟩)
      · omega
      · have := mt.rng c (av.dm c hc).1; omega)]
    exact av.uzero r hr hr2
  have ui1 : 0 ≤ g u1 i ∧ g u1 i ≤ U ∧ U ≤ M := by omega
  have vb1 : ∀ j, j < 12 → g v1 j ≤ i * M + (U - g u1 i) := fun j hj => by
    have h1 := av.vb j hj
    rcases hnd j hj with hd | hd
    · have := hv1 j hj hd; omega
    · have := hv2 j hj hd; omega
  have ub1 : ∀ r, r < 12 → -(i * M + (U - g u1 i)) ≤ g u1 r ∧ g u1 r ≤ M := fun r hr => by
    have h1 := av.ub r hr
    by_cases hT : inT i R ds r
    · have := hu1 r hr hT; omega
    · have := hu2 r hr hT; omega
  refine ⟨⟨hul, hvl, feas1, tight1, vpos1, vzero1, uzero1, ui1, vb1, ub1, hpath1, av.dm⟩, fun hq => ?_⟩
  have hq0 : 0 ≤ g R q ∧ g R q < (i : Int) := (mt.rng q sc.q12).resolve_left hq
  have hdone : ∀ j, gb (done.set q true) j = if j = q then true else gb done j := fun j => gbset (by rw [av.dl]; exact sc.q12) true j
  have hdf : ∀ j, gb (done.set q true) j = false → j ≠ q ∧ gb done j = false := fun j h => by
    rw [hdone j] at h
    split at h
    · cases h
    · rename_i e; exact ⟨e, h⟩
  have hTq : ∀ r : Nat, (r = i ∨ ∃ c, c ∈ q :: ds ∧ g R c = (r : Int)) → (r : Int) ≠ g R q → inT i R ds r := fun r hr hne => by
    rcases hr with hr | ⟨c, hc, hrc⟩
    · exact .inl hr
    · rcases List.mem_cons.1 hc with rfl | hc
      · omega
      · exact .inr ⟨c, hc, hrc⟩
  refine ⟨hul, hvl, hsl, sc.frl, by rw [List.length_set]; exact av.dl, feas1, tight1, vpos1, vzero1, uzero1, ui1, vb1, ub1, ?_, ?_, ?_, ?_, ?_, ?_, .inr ⟨q, ds, rfl, rfl, rfl⟩, hpath1, ?_, ?_, ?_, fun h => by cases h⟩
  · intro j hj
    rw [hdone j]
    by_cases e : j = q
    · subst e; simp
    · rw [if_neg e, av.dn j hj]
      simp [e]
  · intro c hc
    rcases List.mem_cons.1 hc with rfl | hc
    · exact ⟨sc.q12, hq0.1⟩
    · exact av.dm c hc
  · rw [List.length_append, av.tl]; rfl
  · intro m hm
    rw [List.length_append] at hm
    simp only [List.length_cons, List.length_nil] at hm
    rw [gapp]
    split
    · rename_i h; exact av.tr m h
    · rw [if_pos (by omega)]; omega
  · intro r
    have htm := av.tm r
    constructor
    · rintro ⟨m, hm, hr⟩
      rw [List.length_append] at hm
      simp only [List.length_cons, List.length_nil] at hm
      rw [gapp] at hr
      split at hr
      · rename_i h
        rcases htm.1 ⟨m, h, hr⟩ with h2 | ⟨c, hc, hrc⟩
        · exact .inl h2
        · exact .inr ⟨c, List.mem_cons_of_mem _ hc, hrc⟩
      · rw [if_pos (by omega)] at hr
        exact .inr ⟨q, List.mem_cons_self, hr⟩
    · intro h
      have hold : (r = i ∨ ∃ c, c ∈ ds ∧ g R c = (r : Int)) → ∃ m, m < (tree ++ [g R q]).length ∧ g (tree ++ [g R q]) m = (r : Int) := fun h => by
        obtain ⟨m, hm, hr⟩ := htm.2 h
        refine ⟨m, by rw [List.length_append]; omega, ?_⟩
        rw [gapp, if_pos hm]
        exact hr
      rcases h with h | ⟨c, hc, hrc⟩
      · exact hold (.inl h)
      · rcases List.mem_cons.1 hc with rfl | hc
        · refine ⟨tree.length, by rw [List.length_append]; simp, ?_⟩
          rw [gapp, if_neg (by omega), if_pos rfl]
          exact hrc
        · exact hold (.inr ⟨c, hc, hrc⟩)
  · -- no row comes twice
    have hnew : ∀ m, m < tree.length → g tree m ≠ g R q := fun m hm e => by
      have h1 := av.tr m hm
      rcases (av.tm (g tree m).toNat).1 ⟨m, hm, by omega⟩ with h2 | ⟨c, hc, hrc⟩
      · omega
      · have h3 := mt.inj c q (av.dm c hc).1 sc.q12 (by omega) (by omega)
        exact hqds (h3 ▸ hc)
    intro m m' hm hm' e
    rw [List.length_append] at hm hm'
    simp only [List.length_cons, List.length_nil] at hm hm'
    rw [gapp, gapp] at e
    by_cases h1 : m < tree.length
    · rw [if_pos h1] at e
      by_cases h2 : m' < tree.length
      · rw [if_pos h2] at e
        exact av.ti m m' h1 h2 e
      · rw [if_neg h2, if_pos (by omega)] at e
        exact absurd e (hnew m h1)
    · rw [if_neg h1, if_pos (by omega)] at e
      by_cases h2 : m' < tree.length
      · rw [if_pos h2] at e
        exact absurd e.symm (hnew m' h2)
      · omega
  · intro j hj
    rcases hnd j hj with hd | hd
    · have h3 := hv1 j hj hd
      have h4 := hkeep j hj hd
      have h5 := av.slb j hj
      omega
    · have h3 := hv2 j hj hd
      have h4 := sc.qm j hj hd
      have h5 := sc.sT j i hj hd (.inl rfl)
      have h6 : red b u v i j = g u i + g v j - wt b i j := rfl
      have h7 := hw i j hi hj
      have h8 := hbv j hj
      omega
  · intro j r hj hd hr hne
    obtain ⟨h1, h2⟩ := hdf j hd
    have hT := hTq r hr hne
    have h3 := hv2 j hj h2
    have h4 := sc.sT j r hj h2 hT
    have h5 := hu1 r (tree12 r hT) hT
    have h6 : red b u v r j = g u r + g v j - wt b r j := rfl
    show g sl2 j ≤ g u1 r + g v1 j - wt b r j
    omega
  · intro j hj hd _
    obtain ⟨h1, h2⟩ := hdf j hd
    have h3 := hv2 j hj h2
    rcases sc.sE j hj h2 with ⟨h4, h5⟩ | ⟨p, h4, h5, h6⟩
    · refine .inl ⟨h4, ?_⟩
      have e1 : red b u v i j = g u i + g v j - wt b i j := rfl
      show g sl2 j = g u1 i + g v1 j - wt b i j
      omega
    · refine .inr ⟨p, List.mem_cons_of_mem _ h4, h5, ?_⟩
      have h7 := av.dm p h4
      have h8 := mt.rng p h7.1
      have h9 := hu1 (g R p).toNat (by omega) (.inr ⟨p, h4, by omega⟩)
      have e1 : red b u v (g R p).toNat j = g u (g R p).toNat + g v j - wt b (g R p).toNat j := rfl
      show g sl2 j = g u1 (g R p).toNat + g v1 j - wt b (g R p).toNat j
      omega
/-- The search, from any round on. -/
theorem search (mt : Mt i R) (hi : i < 12) (hM0 : 0 ≤ M) (hM : M ≤ 1073741824) (hw : ∀ r j, r < 12 → j < 12 → 0 ≤ wt b r j ∧ wt b r j ≤ M) : ∀ (n k : Nat) (u v sl fr : List Int) (done : List Bool) (tree : List Int) (last cur : Int) (ds : List Nat),
    Av M i b R u v sl fr done tree last cur ds U → und done ≤ n → ds.length + und done ≤ 12 → n + 300 ≤ k →
    ∃ (u' v' sl' fr' : List Int) (done' : List Bool) (tree' : List Int) (q : Nat) (ds' : List Nat), assign_solution_augments0.l2 b k R u v sl fr done tree last cur = some (R, u', v', sl', fr', done', tree', (q : Int)) ∧ Fin M i b R u' v' fr' (q :: ds') U ∧ g R q = -1 := by
  intro n
  induction n with
  | zero =>
    intro k u v sl fr done tree last cur ds av hn hdn hk
    exfalso
    obtain ⟨j0, hj0, hf0⟩ := mt.free hi
    have hu0 : gb done j0 = false := by
      cases hd : gb done j0 with
      | false => rfl
      | true => have := av.dm j0 ((av.dn j0 hj0).1 hd); omega
    have := cntF_lt (f := fun j => !gb done j) (g := fun j => if j = j0 then false else !gb done j) (i := j0) (by show (!gb done j0) = true; rw [hu0]; rfl) (by simp) (fun j hj => if_neg hj) 12 hj0
    unfold und at hn
    omega
  | succ n ih =>
    intro k u v sl fr done tree last cur ds av hn hdn hk
    obtain ⟨k, rfl⟩ : ∃ m, k = m + 1 := ⟨k - 1, by omega⟩
    obtain ⟨sl1, fr1, q, e, sc, hkeep⟩ := av.scan mt hi hM0 hM hw (k := k) (by omega)
    obtain ⟨hbu, hbv⟩ := av.bounds hi hM0 hM
    obtain ⟨j0, hj0, hf0⟩ := mt.free hi
    have hu0 : gb done j0 = false := by
      cases hd : gb done j0 with
      | false => rfl
      | true => have := av.dm j0 ((av.dn j0 hj0).1 hd); omega
    have hx0 : 0 ≤ g sl1 q ∧ g sl1 q ≤ 16000000000 := by
      have h1 := sc.sT q i sc.q12 sc.qu (.inl rfl)
      have h2 := hbu i hi
      have h3 := hbv q sc.q12
      have h4 := hw i q hi sc.q12
      have h5 : red b u v i q = g u i + g v q - wt b i q := rfl
      refine ⟨?_, by omega⟩
      rcases sc.sE q sc.q12 sc.qu with ⟨_, h6⟩ | ⟨p, h6, _, h7⟩
      · rw [h6]; exact av.feas i q (Nat.le_refl _) sc.q12
      · have h8 := av.dm p h6
        have h9 := mt.rng p h8.1
        rw [h7]; exact av.feas _ q (by omega) sc.q12
    have hsb : ∀ (j : Nat), j < 12 → gb done j = false → 0 ≤ g sl1 j ∧ g sl1 j ≤ 16000000000 := fun j hj hd => by
      have h1 := sc.sT j i hj hd (.inl rfl)
      have h2 := hbu i hi
      have h3 := hbv j hj
      have h4 := hw i j hi hj
      have h5 : red b u v i j = g u i + g v j - wt b i j := rfl
      have h6 := sc.qm j hj hd
      omega
    obtain ⟨u1, v1, sl2, e2, hul, hvl, hsl, hru, hrv⟩ := shift k (by omega) (g sl1 q) tree ⟨R, u, v⟩ done sl1 hx0.1 (by omega) (by rw [av.tl]; omega) av.ul av.vl sc.sll av.tr av.ti
      (fun r hr => by have := hbu r hr; show _ ≤ g u r ∧ g u r ≤ _; omega) (fun j hj => by have := hbv j hj; show _ ≤ g v j ∧ g v j ≤ _; omega) (fun j hj => by
        cases hd : gb done j with
        | true => have h1 := hkeep j hj hd; have h2 := av.slb j hj; omega
        | false => have := hsb j hj hd; omega)
    obtain ⟨hfin, hav⟩ := av.step mt hi hM0 hM hw sc hkeep hul hvl hsl (fun r hr hT => (hru r hr).1 ((av.tm r).2 hT)) (fun r hr hT => (hru r hr).2 (fun h => hT ((av.tm r).1 h))) (fun j hj hd => (hrv j hj).1 hd) (fun j hj hd => (hrv j hj).2 hd)
    have hq := sc.q12
    simp only [assign_solution_augments0.l2]
    rw [e, Option.bind_some]
    simp only [tn]
    rw [if_pos (by omega), if_pos (by omega), show assign_solution_augment_1s0.f k (sl1.getD q 0) tree ⟨R, u, v⟩ done sl1 = _ from e2, Option.bind_some]
    rw [if_pos (by omega), if_pos (by omega), if_pos (by omega), if_pos (by omega)]
    by_cases hf : g R q = -1
    · rw [if_pos hf]
      exact ⟨_, _, _, _, _, _, q, ds, rfl, hfin, hf⟩
    · have hr := (mt.rng q hq).resolve_left hf
      have hdl := av.tl
      rw [if_neg hf, if_pos (by omega), if_pos (by omega), if_pos (by simp only [List.length_cons, List.length_nil]; omega)]
      have hund : und (done.set q true) < und done := cntF_lt (i := q) (by show (!gb done q) = true; rw [sc.qu]; rfl) (by show (!gb (done.set q true) q) = false; rw [gbset (by rw [av.dl]; exact hq), if_pos rfl]; rfl) (fun j hj => by show (!gb (done.set q true) j) = !gb done j; rw [gbset (by rw [av.dl]; exact hq), if_neg hj]) 12 hq
      exact ih k u1 v1 sl2 fr1 (done.set q true) (tree ++ [g R q]) (q : Int) (g R q) (q :: ds) (hav hf) (by omega) (by simp only [List.length_cons]; omega) (by omega)
end
end Go.Proofs.Ytdmhbcgmimfjcaa.hun
namespace Go.Proofs.Ytdmhbcgmimfjcaa.hun
open Go Go.Proofs.Ytdmhbcgmimfjcaa Go.Proofs.Ytdmhbcgmimfjcaa.RW
set_option linter.unusedVariables false
set_option maxRecDepth 100000
set_option maxHeartbeats 4000000
section
variable {M : Int} {i : Nat} {b R u v fr : List Int}
/-- The rows below i are matched without column c. -/
structure Vac (i : Nat) (b u v x : List Int) (c : Nat) : Prop where
  len : x.length = 12
  c12 : c < 12
  rng : ∀ j, j < 12 → j ≠ c → g x j = -1 ∨ (0 ≤ g x j ∧ g x j < (i : Int))
  inj : ∀ j j', j < 12 → j' < 12 → j ≠ c → j' ≠ c → 0 ≤ g x j → g x j = g x j' → j = j'
  onto : ∀ r, r < i → ∃ j, j < 12 ∧ j ≠ c ∧ g x j = (r : Int)
  tight : ∀ j (r : Nat), j < 12 → j ≠ c → g x j = (r : Int) → red b u v r j = 0
  zero : ∀ j, j < 12 → j ≠ c → g x j = -1 → g v j = 0
theorem path_from : ∀ {ds : List Nat}, PathOK i b R u v fr ds → ∀ p, p ∈ ds → ∃ ds2, PathOK i b R u v fr (p :: ds2) ∧ (∀ q, q ∈ ds2 → q ∈ ds) ∧ ds2.length < ds.length
  | d :: ds, h, p, hp => by
    rcases List.mem_cons.1 hp with rfl | hp
    · exact ⟨ds, h, fun q hq => List.mem_cons_of_mem _ hq, by simp⟩
    · obtain ⟨ds2, h1, h2, h3⟩ := path_from h.2.2.2 p hp
      exact ⟨ds2, h1, fun q hq => List.mem_cons_of_mem _ (h2 q hq), by simp only [List.length_cons]; omega⟩
theorem flip (hi : i < 12) : ∀ (n k : Nat) (x : List Int) (c : Nat) (ds : List Nat), ds.length ≤ n → n + 2 < k → PathOK i b R u v fr (c :: ds) → Vac i b u v x c → (∀ p, p ∈ ds → g x p = g R p ∧ p < 12 ∧ 0 ≤ g R p) →
    ∃ x', assign_solution_augments0.l1 (i : Int) fr k x (c : Int) = some x' ∧ Mt (i + 1) x' ∧ (∀ j (r : Nat), j < 12 → g x' j = (r : Int) → red b u v r j = 0) ∧ ∀ j, j < 12 → g x' j = -1 → g v j = 0 := by
  intro n
  induction n with
  | zero =>
    intro k x c ds hn hk hp hv hR
    obtain rfl : ds = [] := List.eq_nil_of_length_eq_zero (by omega)
    obtain ⟨k, rfl⟩ : ∃ m, k = m + 2 := ⟨k - 2, by omega⟩
    obtain ⟨h1, h2, h3, h4⟩ := hp
    rcases h2 with ⟨h5, h6⟩ | ⟨p, h5, _⟩
    · have hkey : ∀ j, g (x.set c (i : Int)) j = if j = c then (i : Int) else g x j := fun j => gset (by rw [hv.len]; exact h1) _ j
      refine ⟨x.set c (i : Int), ?_, ⟨by rw [List.length_set]; exact hv.len, fun j hj => ?_, fun j j' hj hj' h0 he => ?_, fun r hr => ?_⟩, fun j r hj hr => ?_, fun j hj hr => ?_⟩
      · have h5' : fr.getD c 0 = -1 := h5
        simp only [assign_solution_augments0.l1, tn]
        rw [if_pos (by omega), if_pos (by omega), if_pos (by omega), h5', if_pos rfl, if_pos (by omega), if_pos (by omega), Option.bind_some]
        simp
      · rw [hkey]
        split
        · exact .inr ⟨by omega, by omega⟩
        · rename_i e
          exact (hv.rng j hj e).imp id (fun h => by omega)
      · rw [hkey, hkey] at he
        rw [hkey] at h0
        by_cases e1 : j = c <;> by_cases e2 : j' = c
        · omega
        · rw [if_pos e1, if_neg e2] at he
          have := hv.rng j' hj' e2
          omega
        · rw [if_neg e1, if_pos e2] at he
          have := hv.rng j hj e1
          omega
        · rw [if_neg e1, if_neg e2] at he
          rw [if_neg e1] at h0
          exact hv.inj j j' hj hj' e1 e2 h0 he
      · by_cases e : r = i
        · exact ⟨c, h1, by rw [hkey, if_pos rfl, e]⟩
        · obtain ⟨j, hj, hjc, hjr⟩ := hv.onto r (by omega)
          exact ⟨j, hj, by rw [hkey, if_neg hjc, hjr]⟩
      · rw [hkey] at hr
        split at hr
        · rename_i e
          have : r = i := by omega
          rw [e, this]; exact h6
        · rename_i e; exact hv.tight j r hj e hr
      · rw [hkey] at hr
        split at hr
        · omega
        · rename_i e; exact hv.zero j hj e hr
    · cases h5
  | succ n ih =>
    intro k x c ds hn hk hp hv hR
    obtain ⟨h1, h2, h3, h4⟩ := hp
    rcases h2 with ⟨h5, h6⟩ | ⟨p, h5, h6, h7⟩
    · exact ih k x c [] (by simp) (by omega) ⟨h1, .inl ⟨h5, h6⟩, by simp, trivial⟩ hv (fun p hp => by cases hp) |>.elim fun x' h => ⟨x', h⟩
    · obtain ⟨k, rfl⟩ : ∃ m, k = m + 1 := ⟨k - 1, by omega⟩
      obtain ⟨hxp, hp12, hp0⟩ := hR p h5
      have hpc : p ≠ c := fun e => h3 (e ▸ h5)
      obtain ⟨ds2, h8, h9, h10⟩ := path_from h4 p h5
      have hkey : ∀ j, g (x.set c (g x p)) j = if j = c then g x p else g x j := fun j => gset (by rw [hv.len]; exact h1) _ j
      have hpi := (hv.rng p hp12 hpc).resolve_left (by omega)
      have hv2 : Vac i b u v (x.set c (g x p)) p := by
        refine ⟨by rw [List.length_set]; exact hv.len, hp12, fun j hj hjp => ?_, fun j j' hj hj' hjp hjp' h0 he => ?_, fun r hr => ?_, fun j r hj hjp hr => ?_, fun j hj hjp hr => ?_⟩
        · rw [hkey]
          split
          · exact .inr hpi
          · rename_i e; exact hv.rng j hj e
        · rw [hkey, hkey] at he
          rw [hkey] at h0
          by_cases e1 : j = c <;> by_cases e2 : j' = c
          · omega
          · rw [if_pos e1, if_neg e2] at he
            exact absurd (hv.inj p j' hp12 hj' hpc e2 hpi.1 he) (fun e => hjp' e.symm)
          · rw [if_neg e1, if_pos e2] at he
            rw [if_neg e1] at h0
            exact absurd (hv.inj j p hj hp12 e1 hpc h0 he) hjp
          · rw [if_neg e1, if_neg e2] at he
            rw [if_neg e1] at h0
            exact hv.inj j j' hj hj' e1 e2 h0 he
        · obtain ⟨j, hj, hjc, hjr⟩ := hv.onto r hr
          by_cases e : j = p
          · exact ⟨c, h1, fun e2 => hpc e2.symm, by rw [hkey, if_pos rfl, ← e, hjr]⟩
          · exact ⟨j, hj, e, by rw [hkey, if_neg hjc, hjr]⟩
        · rw [hkey] at hr
          split at hr
          · rename_i e
            rw [e]
            have : r = (g R p).toNat := by omega
            rw [this]; exact h7
          · rename_i e; exact hv.tight j r hj e hr
        · rw [hkey] at hr
          split at hr
          · omega
          · rename_i e; exact hv.zero j hj e hr
      obtain ⟨x', e, hx⟩ := ih k (x.set c (g x p)) p ds2 (by omega) (by omega) h8 hv2 (fun q hq => by
        have hq1 := h9 q hq
        have hqc : q ≠ c := fun e => h3 (e ▸ hq1)
        rw [hkey, if_neg hqc]
        exact hR q hq1)
      refine ⟨x', ?_, hx⟩
      have h6' : fr.getD c 0 = (p : Int) := h6
      simp only [assign_solution_augments0.l1, tn]
      rw [if_pos (by omega), if_pos (by omega), if_pos (by omega), h6', if_neg (by omega), if_pos (by omega), if_pos (by omega), if_pos (by omega), if_pos (by omega), Option.bind_some]
      exact e
/-! ### the new row's potential -/
theorem raise (i : Nat) (hi : i < 12) (R u v b : List Int) (M : Int) (hM0 : 0 ≤ M) (hM : M ≤ 1073741824) (hv : ∀ j, j < 12 → 0 ≤ g v j ∧ g v j ≤ 14000000000) (hw : ∀ r j, r < 12 → j < 12 → 0 ≤ wt b r j ∧ wt b r j ≤ M) : ∀ (d k n : Nat) (x : List Int), d + n = 12 → d < k → x.length = 12 → 0 ≤ g x i ∧ g x i ≤ M →
    ∃ x', assign_solution_augments0.l4 (i : Int) ⟨R, u, v⟩ b k x (n : Int) = some x' ∧ x'.length = 12 ∧ (∀ r, r ≠ i → g x' r = g x r) ∧ g x i ≤ g x' i ∧ g x' i ≤ M ∧ ∀ j, n ≤ j → j < 12 → wt b i j - g v j ≤ g x' i := by
  intro d
  induction d with
  | zero =>
    intro k n x hd hk hx hb
    obtain ⟨k, rfl⟩ : ∃ m, k = m + 1 := ⟨k - 1, by omega⟩
    refine ⟨x, ?_, hx, fun _ _ => rfl, Int.le_refl _, hb.2, fun j h1 h2 => by omega⟩
    simp only [assign_solution_augments0.l4]
    rw [if_neg (by omega)]
  | succ d ih =>
    intro k n x hd hk hx hb
    obtain ⟨k, rfl⟩ : ∃ m, k = m + 1 := ⟨k - 1, by omega⟩
    have hn : n < 12 := by omega
    have h1 := hv n hn
    have h2 := hw i n hi hn
    have e1 : W .i64 (b.getD (i * 12 + n) 0 - v.getD n 0) = wt b i n - g v n := W64 (by show _ ≤ wt b i n - g v n; omega) (by show wt b i n - g v n ≤ _; omega)
    have hmax : ∀ a c : Int, iMax a c = if c > a then c else a := fun _ _ => rfl
    have hkey : ∀ j, g (x.set i (iMax (g x i) (wt b i n - g v n))) j = if j = i then iMax (g x i) (wt b i n - g v n) else g x j := fun j => gset (by omega) _ j
    have hm : g x i ≤ iMax (g x i) (wt b i n - g v n) ∧ wt b i n - g v n ≤ iMax (g x i) (wt b i n - g v n) ∧ iMax (g x i) (wt b i n - g v n) ≤ M := by rw [hmax]; split <;> omega
    obtain ⟨x', e, h3, h4, h5, h6, h7⟩ := ih k (n + 1) (x.set i (iMax (g x i) (wt b i n - g v n))) (by omega) (by omega) (by rw [List.length_set]; exact hx) (by rw [hkey, if_pos rfl]; omega)
    refine ⟨x', ?_, h3, fun r hr => ?_, ?_, h6, fun j hj hj2 => ?_⟩
    · simp only [assign_solution_augments0.l4, tn]
      rw [if_pos (by omega), if_pos (by omega), if_pos (by omega), if_pos (by omega), if_pos (by omega), if_pos (by omega), if_pos (by omega), if_pos (by omega), if_pos (by omega), if_pos (by omega), if_pos (by omega), Wn (by omega), e1]
      exact e
    · rw [h4 r hr, hkey, if_neg hr]
    · rw [hkey, if_pos rfl] at h5; omega
    · rw [hkey, if_pos rfl] at h5
      by_cases e2 : j = n
      · rw [e2]; omega
      · exact h7 j (by omega) hj2
end
end Go.Proofs.Ytdmhbcgmimfjcaa.hun
namespace Go.Proofs.Ytdmhbcgmimfjcaa.hun
open Go Go.Proofs.Ytdmhbcgmimfjcaa Go.Proofs.Ytdmhbcgmimfjcaa.RW
set_option linter.unusedVariables false
set_option maxRecDepth 100000
set_option maxHeartbeats 4000000
theorem far_lists (k : Nat) : assign_solution_augments0.l5 (k + 13) (List.replicate 12 0) (List.replicate 12 0) 0 = some (List.replicate 12 1152921504606846976, List.replicate 12 (-1)) := by kernel_rfl
theorem grep {n : Nat} {x : Int} {j : Nat} (h : j < n) : g (List.replicate n x) j = x := by
  unfold g; rw [List.getD_eq_getElem?_getD, List.getElem?_replicate, if_pos h]; rfl
theorem gbrep {n : Nat} {x : Bool} {j : Nat} (h : j < n) : gb (List.replicate n x) j = x := by
  unfold gb; rw [List.getD_eq_getElem?_getD, List.getElem?_replicate, if_pos h]; rfl
theorem mul_succ (i : Nat) (M : Int) : ((i + 1 : Nat) : Int) * M = i * M + M := by rw [Int.natCast_add, Int.add_mul]; simp
theorem augment {M : Int} {i : Nat} {b R u v : List Int} (mt : Mt i R) (pt : Pt M i b R u v) (hi : i < 12) (hM0 : 0 ≤ M) (hM : M ≤ 1073741824) (hw : ∀ r j, r < 12 → j < 12 → 0 ≤ wt b r j ∧ wt b r j ≤ M) {k : Nat} (hk : 400 ≤ k) :
    ∃ R' u' v', assign_solution_augments0.f k (i : Int) ⟨R, u, v⟩ b = some ⟨R', u', v'⟩ ∧ Mt (i + 1) R' ∧ Pt M (i + 1) b R' u' v' := by
  have hiM : 0 ≤ (i : Int) * M ∧ (i : Int) * M ≤ 11811160064 := by
    have h1 : (i : Int) * M ≤ 11 * M := Int.mul_le_mul_of_nonneg_right (by omega) hM0
    have h2 : 0 ≤ (i : Int) * M := Int.mul_nonneg (by omega) hM0
    omega
  have hvb : ∀ j, j < 12 → 0 ≤ g v j ∧ g v j ≤ 14000000000 := fun j hj => by have h1 := pt.vpos j hj; have h2 := pt.vb j hj; omega
  have hui := pt.uzero i (Nat.le_refl _) hi
  obtain ⟨u0, e0, hu0l, hu0, hu0i, hu0M, hu0f⟩ := raise i hi R u v b M hM0 hM hvb hw 12 k 0 u rfl (by omega) pt.ul (by omega)
  have hother : ∀ r, r < 12 → r ≠ i → g u0 r = g u r := fun r _ h => hu0 r h
  have av : Av M i b R u0 v (List.replicate 12 1152921504606846976) (List.replicate 12 (-1)) (List.replicate 12 false) [(i : Int)] (-1) (i : Int) [] (g u0 i) := by
    refine ⟨hu0l, pt.vl, rfl, rfl, rfl, fun r j hr hj => ?_, fun j r hj hr => ?_, pt.vpos, pt.vzero, fun r hr hr2 => ?_, ⟨by omega, Int.le_refl _, hu0M⟩, fun j hj => ?_, fun r hr => ?_, fun j hj => ?_, (fun c hc => by cases hc), rfl, fun m hm => ?_, fun r => ?_, fun m m' hm hm' _ => ?_, .inl ⟨rfl, rfl, rfl⟩, trivial, fun j hj => ?_, fun j r hj hd hr hne => ?_, fun j hj hd h => absurd rfl h, fun _ j hj => grep hj⟩
    · show 0 ≤ g u0 r + g v j - wt b r j
      by_cases e : r = i
      · subst e
        have := hu0f j (Nat.zero_le _) hj
        omega
      · rw [hu0 r e]
        exact pt.feas r j (by omega) hj
    · have hri := mt.rng j hj
      show g u0 r + g v j - wt b r j = 0
      rw [hu0 r (by omega)]
      exact pt.tight j r hj hr
    · rw [hu0 r (by omega)]
      exact pt.uzero r (by omega) hr2
    · have := pt.vb j hj; omega
    · by_cases e : r = i
      · subst e; omega
      · rw [hu0 r e]
        have := pt.ub r hr; omega
    · rw [gbrep hj]; simp
    · simp only [List.length_cons, List.length_nil] at hm
      obtain rfl : m = 0 := by omega
      show 0 ≤ (i : Int) ∧ (i : Int) < 12
      omega
    · constructor
      · rintro ⟨m, hm, hr⟩
        simp only [List.length_cons, List.length_nil] at hm
        obtain rfl : m = 0 := by omega
        have h1 : (i : Int) = (r : Int) := hr
        exact .inl (by omega)
      · rintro (h | ⟨c, hc, _⟩)
        · exact ⟨0, by simp, by rw [h]; rfl⟩
        · cases hc
    · simp only [List.length_cons, List.length_nil] at hm hm'
      omega
    · rw [grep hj]; omega
    · rcases hr with h | ⟨c, hc, _⟩
      · exact absurd (by rw [h]) hne
      · cases hc
  obtain ⟨u', v', sl', fr', done', tree', q, ds', e1, fin, hq⟩ := search mt hi hM0 hM hw 12 k u0 v _ _ _ _ _ _ [] av (Nat.le_refl _) (Nat.le_refl _) (by omega)
  have hpath := fin.path
  have hq12 : q < 12 := hpath.1
  have vac : Vac i b u' v' R q := by
    refine ⟨mt.len, hq12, fun j hj _ => mt.rng j hj, fun j j' hj hj' _ _ h0 he => mt.inj j j' hj hj' h0 he, fun r hr => ?_, fun j r hj _ hr => fin.tight j r hj hr, fun j hj _ hr => fin.vzero j hj hr⟩
    obtain ⟨j, hj, hjr⟩ := mt.onto r hr
    exact ⟨j, hj, fun e => by rw [e, hq] at hjr; omega, hjr⟩
  have hds : ds'.length ≤ 100 := by
    -- no column comes twice on the path
    have hnd : ∀ (l : List Nat), PathOK i b R u' v' fr' l → ∀ (f : Nat → Bool), (∀ c, c ∈ l → f c = true) → l.length ≤ cntF f 12 := by
      intro l
      induction l with
      | nil => intro _ f _; exact Nat.zero_le _
      | cons c l ih =>
        intro h f hf
        have h1 := ih h.2.2.2 (fun j => if j = c then false else f j) (fun c' hc' => by
          have : c' ≠ c := fun e => h.2.2.1 (e ▸ hc')
          rw [if_neg this]
          exact hf c' (List.mem_cons_of_mem _ hc'))
        have h2 := cntF_lt (f := f) (g := fun j => if j = c then false else f j) (i := c) (hf c List.mem_cons_self) (if_pos rfl) (fun j hj => if_neg hj) 12 h.1
        simp only [List.length_cons]
        omega
    have h1 := hnd _ hpath (fun _ => true) (fun _ _ => rfl)
    have h2 : cntF (fun _ => true) 12 = 12 := by rfl
    simp only [List.length_cons] at h1
    omega
  obtain ⟨R', e2, mt', tight', zero'⟩ := flip hi ds'.length k R q ds' (Nat.le_refl _) (by omega) hpath vac (fun p hp => ⟨rfl, (fin.pm p hp).1, (fin.pm p hp).2⟩)
  refine ⟨R', u', v', ?_, mt', fin.ul, fin.vl, fun r j hr hj => fin.feas r j (by omega) hj, tight', fin.vpos, zero', fun r hr hr2 => fin.uzero r (by omega) hr2, fun j hj => ?_, fun r hr => ?_⟩
  · unfold assign_solution_augments0.f
    obtain ⟨k', rfl⟩ : ∃ m, k = m + 13 := ⟨k - 13, by omega⟩
    rw [far_lists, Option.bind_some]
    simp only [assign_solution_augments0.k10]
    rw [show assign_solution_augments0.l4 (i : Int) ⟨R, u, v⟩ b (k' + 13) u 0 = some u0 from e0, Option.bind_some]
    simp only [assign_solution_augments0.k9]
    rw [e1, Option.bind_some]
    simp only [assign_solution_augments0.k3]
    rw [e2, Option.bind_some]
    rfl
  · have h1 := fin.vb j hj
    have h2 := fin.ui
    rw [mul_succ]; omega
  · have h1 := fin.ub r hr
    have h2 := fin.ui
    rw [mul_succ]; omega
/-- All twelve rows. -/
theorem rows {M : Int} {b : List Int} (hM0 : 0 ≤ M) (hM : M ≤ 1073741824) (hw : ∀ r j, r < 12 → j < 12 → 0 ≤ wt b r j ∧ wt b r j ≤ M) : ∀ (d k i : Nat) (R u v : List Int), d + i = 12 → d + 401 ≤ k → Mt i R → Pt M i b R u v →
    ∃ R' u' v', assign_hungarians0.l1 b k R u v (i : Int) = some (R', u', v') ∧ Mt 12 R' ∧ Pt M 12 b R' u' v' := by
  intro d
  induction d with
  | zero =>
    intro k i R u v hd hk mt pt
    obtain ⟨k, rfl⟩ : ∃ m, k = m + 1 := ⟨k - 1, by omega⟩
    obtain rfl : i = 12 := by omega
    refine ⟨R, u, v, ?_, mt, pt⟩
    simp only [assign_hungarians0.l1]
    rw [if_neg (by omega)]
  | succ d ih =>
    intro k i R u v hd hk mt pt
    obtain ⟨k, rfl⟩ : ∃ m, k = m + 1 := ⟨k - 1, by omega⟩
    obtain ⟨R1, u1, v1, e1, mt1, pt1⟩ := augment mt pt (by omega) hM0 hM hw (k := k) (by omega)
    obtain ⟨R', u', v', e, mt', pt'⟩ := ih k (i + 1) R1 u1 v1 (by omega) (by omega) mt1 pt1
    refine ⟨R', u', v', ?_, mt', pt'⟩
    simp only [assign_hungarians0.l1]
    rw [if_pos (by omega), e1, Option.bind_some, Wn (by omega)]
    exact e
theorem rows0 (k : Nat) : assign_hungarians0.l2 (k + 13) (List.replicate 12 0) 0 = some (List.replicate 12 (-1)) := by kernel_rfl
theorem hungarian {M : Int} {b : List Int} (hM0 : 0 ≤ M) (hM : M ≤ 1073741824) (hw : ∀ r j, r < 12 → j < 12 → 0 ≤ wt b r j ∧ wt b r j ≤ M) {k : Nat} (hk : 500 ≤ k) :
    ∃ s : S58, assign_hungarians0.f k b = some s ∧ Mt 12 s.f0 ∧ Pt M 12 b s.f0 s.f1 s.f2 := by
  have mt : Mt 0 (List.replicate 12 (-1)) := ⟨rfl, fun j hj => .inl (grep hj), fun j j' hj _ h0 _ => by rw [grep hj] at h0; omega, fun r hr => by omega⟩
  have pt : Pt M 0 b (List.replicate 12 (-1)) (List.replicate 12 0) (List.replicate 12 0) := by
    refine ⟨rfl, rfl, fun r j hr => by omega, fun j r hj hr => ?_, fun j hj => ?_, fun j hj _ => grep hj, fun r _ hr => grep hr, fun j hj => ?_, fun r hr => ?_⟩
    · rw [grep hj] at hr; omega
    · rw [grep hj]; exact Int.le_refl _
    · rw [grep hj]; simp
    · rw [grep hr]; simp; exact hM0
  obtain ⟨R', u', v', e, mt', pt'⟩ := rows hM0 hM hw 12 k 0 _ _ _ rfl (by omega) mt pt
  refine ⟨⟨R', u', v'⟩, ?_, mt', pt'⟩
  unfold assign_hungarians0.f
  obtain ⟨k', rfl⟩ : ∃ m, k = m + 13 := ⟨k - 13, by omega⟩
  rw [rows0, Option.bind_some]
  simp only [assign_hungarians0.k2]
  rw [show assign_hungarians0.l1 b (k' + 13) (List.replicate 12 (-1)) (List.replicate 12 0) (List.replicate 12 0) 0 = _ from e, Option.bind_some]
  rfl
/-! ### sums -/
def sm (f : Nat → Int) : Nat → Int
  | 0 => 0
  | n + 1 => sm f n + f n
theorem sm_congr {f h : Nat → Int} : ∀ n, (∀ j, j < n → f j = h j) → sm f n = sm h n
  | 0, _ => rfl
  | n + 1, e => by simp only [sm]; rw [sm_congr n (fun j hj => e j (by omega)), e n (by omega)]
theorem sm_le {f h : Nat → Int} : ∀ n, (∀ j, j < n → f j ≤ h j) → sm f n ≤ sm h n
  | 0, _ => Int.le_refl _
  | n + 1, e => by have h1 := sm_le n (fun j hj => e j (by omega)); have h2 := e n (by omega); simp only [sm]; omega
theorem sm_add (f h : Nat → Int) : ∀ n, sm (fun j => f j + h j) n = sm f n + sm h n
  | 0 => rfl
  | n + 1 => by simp only [sm]; rw [sm_add f h n]; omega
theorem sm_bounds {f : Nat → Int} {B : Int} : ∀ n, (∀ j, j < n → 0 ≤ f j ∧ f j ≤ B) → 0 ≤ sm f n ∧ sm f n ≤ n * B
  | 0, _ => by simp [sm]
  | n + 1, e => by
    have h1 := sm_bounds n (fun j hj => e j (by omega))
    have h2 := e n (by omega)
    simp only [sm]
    rw [mul_succ]
    omega
/-- The matching's value. -/
theorem value {M : Int} {b : List Int} {s : S58} (hM0 : 0 ≤ M) (hM : M ≤ 1073741824) (hw : ∀ r j, r < 12 → j < 12 → 0 ≤ wt b r j ∧ wt b r j ≤ M) (mt : Mt 12 s.f0) {k : Nat} (hk : 14 ≤ k) : assign_solution_values0.f k s b = some (sm (fun j => wt b (g s.f0 j).toNat j) 12) := by
  have hall : ∀ j, j < 12 → 0 ≤ g s.f0 j ∧ g s.f0 j < 12 := fun j hj => by
    rcases mt.rng j hj with h | h
    · obtain ⟨j', hj', e⟩ : ∃ j', j' < 12 ∧ g s.f0 j' = -1 := ⟨j, hj, h⟩
      -- twelve rows, eleven columns
      exfalso
      have hch : ∀ (r : Nat), r < 12 → ∃ c, c < 12 ∧ g s.f0 c = (r : Int) := mt.onto
      have hex : ∃ f : Nat → Nat, ∀ (r : Nat), r < 12 → f r < 12 ∧ g s.f0 (f r) = (r : Int) := ⟨fun r => if h : r < 12 then (hch r h).choose else 0, fun r hr => by simp only [hr, dif_pos]; exact (hch r hr).choose_spec⟩
      obtain ⟨f, hf⟩ := hex
      obtain ⟨a, c, h1, h2, h3⟩ := pigeon 11 (fun r => if f r < j then f r else f r - 1) (fun r hr => by
        have h4 := hf r (by omega)
        have h5 : f r ≠ j := fun e2 => by rw [e2, h] at h4; omega
        show (if f r < j then f r else f r - 1) < 11
        split <;> omega)
      have h4 := hf a (by omega)
      have h5 := hf c (by omega)
      have h6 : f a ≠ j := fun e2 => by rw [e2, h] at h4; omega
      have h7 : f c ≠ j := fun e2 => by rw [e2, h] at h5; omega
      have h8 : f a = f c := by
        have h3' : (if f a < j then f a else f a - 1) = (if f c < j then f c else f c - 1) := h3
        split at h3' <;> split at h3' <;> omega
      rw [h8] at h4
      omega
    · exact h
  have key : ∀ (d k n : Nat) (x : Int), d + n = 12 → d < k → x = sm (fun j => wt b (g s.f0 j).toNat j) n → assign_solution_values0.l1 s b k x (n : Int) = some (sm (fun j => wt b (g s.f0 j).toNat j) 12) := by
    intro d
    induction d with
    | zero =>
      intro k n x hd hk hx
      obtain ⟨k, rfl⟩ : ∃ m, k = m + 1 := ⟨k - 1, by omega⟩
      obtain rfl : n = 12 := by omega
      simp only [assign_solution_values0.l1]
      rw [if_neg (by omega), hx]
    | succ d ih =>
      intro k n x hd hk hx
      obtain ⟨k, rfl⟩ : ∃ m, k = m + 1 := ⟨k - 1, by omega⟩
      have hn : n < 12 := by omega
      have h1 := hall n hn
      have h2 := hw (g s.f0 n).toNat n (by omega) hn
      have h3 := sm_bounds (f := fun j => wt b (g s.f0 j).toNat j) (B := M) n (fun j hj => hw _ j (by have := hall j (by omega); omega) (by omega))
      have h4 : (n : Int) * M ≤ 12 * M := Int.mul_le_mul_of_nonneg_right (by omega) hM0
      have h5 : 0 ≤ s.f0.getD n 0 ∧ s.f0.getD n 0 < 12 := h1
      simp only [assign_solution_values0.l1, tn]
      rw [if_pos (by omega), if_pos (by omega), if_pos (by omega), if_pos (by omega), if_pos (by omega), if_pos (by omega), if_pos (by omega), Wn (by omega)]
      rw [show W .i64 (x + b.getD ((s.f0.getD n 0).toNat * 12 + n) 0) = x + wt b (g s.f0 n).toNat n from W64 (by show _ ≤ x + wt b (g s.f0 n).toNat n; omega) (by show x + wt b (g s.f0 n).toNat n ≤ _; omega)]
      exact ih k (n + 1) _ (by omega) (by omega) (by rw [hx]; rfl)
  unfold assign_solution_values0.f
  rw [show assign_solution_values0.l1 s b k 0 0 = _ from key 12 k 0 0 rfl (by omega) rfl, Option.bind_some]
  rfl
end Go.Proofs.Ytdmhbcgmimfjcaa.hun
namespace Go.Proofs.Ytdmhbcgmimfjcaa
open Go Go.Proofs.Ytdmhbcgmimfjcaa.RW
set_option linter.unusedVariables false
set_option maxRecDepth 100000
set_option maxHeartbeats 8000000

/-! ### assign_pad: function 30, armillary/assign.pad -/
noncomputable def K30_0 : Code := cBody Try.f30
noncomputable def K30_1 : Code := cL K30_0
noncomputable def O30_1 : List Oper := cOps K30_1
noncomputable def K30_3 : Code := cR K30_0
noncomputable def K30_4 : Code := cL K30_3
noncomputable def O30_4 : List Oper := cOps K30_4
noncomputable def K30_6 : Code := cR K30_3
noncomputable def K30_7 : Code := cL K30_6
noncomputable def K30_8 : Code := cL K30_7
noncomputable def O30_8 : List Oper := cOps K30_8
noncomputable def K30_10 : Code := cR K30_7
noncomputable def K30_11 : Code := cL K30_10
noncomputable def K30_12 : Code := cL K30_11
noncomputable def K30_13 : Code := cL K30_12
noncomputable def K30_14 : Code := cL K30_13
noncomputable def O30_14 : List Oper := cOps K30_14
noncomputable def K30_16 : Code := cR K30_13
noncomputable def K30_17 : Code := cL K30_16
noncomputable def K30_18 : Code := cR K30_16
noncomputable def K30_19 : Code := cR K30_12
noncomputable def K30_20 : Code := cL K30_19
noncomputable def K30_21 : Code := cL K30_20
noncomputable def K30_22 : Code := cL K30_21
noncomputable def O30_22 : List Oper := cOps K30_22
noncomputable def K30_24 : Code := cR K30_21
noncomputable def K30_25 : Code := cL K30_24
noncomputable def K30_26 : Code := cL K30_25
noncomputable def K30_27 : Code := cL K30_26
noncomputable def O30_27 : List Oper := cOps K30_27
noncomputable def K30_29 : Code := cR K30_26
noncomputable def K30_30 : Code := cL K30_29
noncomputable def K30_31 : Code := cL K30_30
noncomputable def K30_32 : Code := cR K30_30
noncomputable def K30_33 : Code := cR K30_29
noncomputable def K30_34 : Code := cL K30_33
noncomputable def K30_35 : Code := cL K30_34
noncomputable def K30_36 : Code := cL K30_35
noncomputable def O30_36 : List Oper := cOps K30_36
noncomputable def K30_38 : Code := cR K30_35
noncomputable def K30_39 : Code := cL K30_38
noncomputable def O30_39 : List Oper := cOps K30_39
noncomputable def K30_41 : Code := cR K30_38
noncomputable def K30_42 : Code := cL K30_41
noncomputable def O30_42 : List Oper := cOps K30_42
noncomputable def K30_44 : Code := cR K30_41
noncomputable def K30_45 : Code := cR K30_33
noncomputable def O30_45 : List Oper := cOps K30_45
noncomputable def K30_47 : Code := cR K30_19
noncomputable def O30_47 : List Oper := cOps K30_47
noncomputable def K30_49 : Code := cR K30_6
noncomputable def K30_50 : Code := cL K30_49
noncomputable def O30_50 : List Oper := cOps K30_50
noncomputable def K30_52 : Code := cR K30_49
def assign_pad.k1  (x1 : List Int) : Option (List Int) := (some x1)
def assign_pad.k3  (x5 : List Int) : Option (List Int) := (some x5)
def assign_pad.l2 (a0 : List (List Int)) (a2 : List Bool) (x3 : Int) : Nat → (List Int) → Int → Option (List Int)
 | 0, _, _ => none
 | k + 1, x6, x7 => (if x7 < ((a0.getD (x3).toNat []).length : Int) then (if 0 ≤ x7 then (if x7 < ((a0.getD (x3).toNat []).length : Int) then (if 0 ≤ x7 then (if x7 < (a2.length : Int) then ((if (a2.getD (x7).toNat false) = true then (some x6) else (if 0 ≤ x3 then (if x3 < (12 : Int) then (if 0 ≤ x7 then (if x7 < (12 : Int) then (some (x6.set ((x3).toNat * 12 + (x7).toNat) ((a0.getD (x3).toNat []).getD (x7).toNat 0))) else none) else none) else none) else none)).bind (fun x8 => (assign_pad.l2 a0 a2 x3 k x8 (W .i64 (x7 + 1))))) else none) else none) else none) else none) else (some x6))
def assign_pad.l1 (a0 : List (List Int)) (a2 : List Bool) : Nat → (List Int) → Int → Option (List Int)
 | 0, _, _ => none
 | k + 1, x2, x3 => (if x3 < (a0.length : Int) then ((if 0 ≤ x3 then (if x3 < (a0.length : Int) then ((assign_pad.l2 a0 a2 x3 k x2 0).bind (assign_pad.k3)) else none) else none).bind (fun x4 => (assign_pad.l1 a0 a2 k x4 (W .i64 (x3 + 1))))) else (some x2))
def assign_pad.f (k : Nat) (a0 : List (List Int)) (a1 : Int) (a2 : List Bool) : Option (List Int) := ((assign_pad.l1 a0 a2 k (List.replicate 144 0) a1).bind (assign_pad.k1))
def assign_pad.Post (I : Imm) (w : World) (r : List Int) (v : Value) (w' : World) : Prop :=
 ∃ (J : Imm), v = .agg (arrV (Value.int .i64) 0 144 r).toArray ∧ Got w w' I J [] ∧ 144 ≤ r.length
theorem assign_pad.calls (k : Nat) (I0 : Imm) (a0 : List (List Int)) (Ap0 : Option Addr) (cp0 : Nat) (a1 : Int) (a2 : List Bool) (Ap2 : Option Addr) (cp2 : Nat) (w : World) (hI : I0.at_ w) (hlp0 : a0.length ≤ cp0) (hrp0 : Rd (Ty.slice (Ty.int .i64)) I0 Ap0 a0) (hlp2 : a2.length ≤ cp2) (hrp2 : Rd Ty.bool I0 Ap2 a2) (r : List Int) (h : assign_pad.f k a0 a1 a2 = some r) :
  Calls Try.prog 30 [.slice Ap0 a0.length cp0, .int .i64 a1, .slice Ap2 a2.length cp2].toArray w fun e w' => ∃ v, e = .returned v ∧ assign_pad.Post I0 w r v w' := by
 have H : ((assign_pad.l1 a0 a2 k (List.replicate 144 0) a1).bind (assign_pad.k1)) = some r := h
 clear h
 refine calls_body Try.func30 (by kernel_rfl) 40 (by kernel_rfl) (by kernel_rfl) ⟨w, fun _ => False, I0⟩ I0 [] [(0, .slice Ap0 a0.length cp0), (1, .int .i64 a1), (2, .slice Ap2 a2.length cp2)] (by kernel_rfl) (Sat.start w _ I0 hI) ?_
 generalize w.heap.size = nx0
 show OK _ K30_0 _ _ _ _ _ _ _ _
 refine OK.seq K30_1 K30_3 (by kernel_rfl) ?_
 refine OK.region 0 O30_1 (by kernel_rfl) ?_
 refine RL.simP (K' := [(6, .pointer (some ⟨nx0, 0, none⟩)), (0, .slice Ap0 a0.length cp0), (1, .int .i64 a1), (2, .slice Ap2 a2.length cp2)]) (nx' := nx0 + 1) (L' := [⟨nx0, arrV (Value.int .i64) 0 144 (List.replicate 144 0), 54⟩]) [] (RFacts.nil _ _ _) 1 [.no] (by kernel_rfl) (by kernel_rfl) ?_
 refine RL.nil (by kernel_rfl) ?_
 refine QN.then_ ?_
 refine OK.seq K30_4 K30_6 (by kernel_rfl) ?_
 refine OK.region 1 O30_4 (by kernel_rfl) ?_
 refine RL.simP (K' := [(7, .pointer (some ⟨nx0 + 1, 0, none⟩)), (6, .pointer (some ⟨nx0, 0, none⟩)), (0, .slice Ap0 a0.length cp0), (1, .int .i64 a1), (2, .slice Ap2 a2.length cp2)]) (nx' := nx0 + 2) (L' := [⟨nx0, arrV (Value.int .i64) 0 144 (List.replicate 144 0), 54⟩, ⟨nx0 + 1, arrV (Value.int .i64) 0 144 (List.replicate 144 0), 54⟩]) [] (RFacts.nil _ _ _) 1 [.no] (by kernel_rfl) (by kernel_rfl) ?_
 refine RL.nil (by kernel_rfl) ?_
 refine QN.then_ ?_
 refine OK.seq K30_7 K30_49 (by kernel_rfl) ?_
 refine OK.seq K30_8 K30_10 (by kernel_rfl) ?_
 refine OK.region 2 O30_8 (by kernel_rfl) ?_
 refine RL.simK (K' := [(8, .int .i64 a1), (7, .pointer (some ⟨nx0 + 1, 0, none⟩)), (6, .pointer (some ⟨nx0, 0, none⟩)), (0, .slice Ap0 a0.length cp0), (2, .slice Ap2 a2.length cp2)]) [] (RFacts.nil _ _ _) 2 [.no, .no] (by kernel_rfl) (by kernel_rfl) ?_
 refine RL.nil (by kernel_rfl) ?_
 refine QN.then_ ?_
 refine OK.join (fun K' I' _ L' X' => ∃ (x1 : List Int), K' = [(6, .pointer (some ⟨nx0, 0, none⟩)), (7, .pointer (some ⟨nx0 + 1, 0, none⟩))] ∧ L' = [⟨nx0, arrV (Value.int .i64) 0 144 (List.replicate 144 0), 54⟩, ⟨nx0 + 1, arrV (Value.int .i64) 0 144 x1, 54⟩] ∧ X' = [] ∧ Imm.le I0 I' ∧ 144 ≤ x1.length ∧ assign_pad.k1 x1 = some r) ?_ ?_
 ·rintro _ I1 nx1 _ _ ⟨x1, rfl, rfl, rfl, hi1, hz1, H⟩
  replace H : (some x1) = some r := H
  refine QN.then_ ?_
  refine OK.seq K30_50 K30_52 (by kernel_rfl) ?_
  refine OK.region 11 O30_50 (by kernel_rfl) ?_
  refine RL.simP (K' := [(6, .pointer (some ⟨nx0, 0, none⟩))]) (nx' := nx1) (L' := [⟨nx0, arrV (Value.int .i64) 0 144 x1, 54⟩, ⟨nx0 + 1, arrV (Value.int .i64) 0 144 x1, 54⟩]) [] (RFacts.nil _ _ _) 2 [.l 1, .l 0] (by kernel_rfl) (by kernel_rfl) ?_
  refine RL.nil (by kernel_rfl) ?_
  refine QN.then_ ?_
  refine OK.ret (by kernel_rfl) ?_
  obtain rfl := Option.some.inj H
  refine QN.body rfl [] (RFacts.nil _ _ _) (.l 0) (.agg (arrV (Value.int .i64) 0 144 x1).toArray) (by kernel_rfl) (by kernel_rfl) (by kernel_rfl) ?_ _ (.inr rfl)
  exact fun w' hs' => ⟨_, rfl, I1, rfl, hs'.got _ .slnil, hz1⟩
 ·intro Q_1 hJ1 hQ1
  obtain ⟨y1, H, HK1⟩ := Option.bind_eq_some_iff.mp H
  refine OK.block 0 K30_11 (by kernel_rfl) ?_
  refine OK.sub (K' := [(0, .slice Ap0 a0.length cp0), (2, .slice Ap2 a2.length cp2), (6, .pointer (some ⟨nx0, 0, none⟩)), (7, .pointer (some ⟨nx0 + 1, 0, none⟩)), (8, .int .i64 a1)]) (L' := [⟨nx0, arrV (Value.int .i64) 0 144 (List.replicate 144 0), 54⟩, ⟨nx0 + 1, arrV (Value.int .i64) 0 144 (List.replicate 144 0), 54⟩]) (by kernel_rfl) (.cons_cons _ (.cons_cons _ .slnil)) (.refl _) ?_
  refine OK.loopInv K30_12 (by kernel_rfl) (fun n_ K' I' _ L' X' => ∃ (x2 : List Int) (x3 : Int), K' = [(0, .slice Ap0 a0.length cp0), (2, .slice Ap2 a2.length cp2), (6, .pointer (some ⟨nx0, 0, none⟩)), (7, .pointer (some ⟨nx0 + 1, 0, none⟩)), (8, .int .i64 x3)] ∧ L' = [⟨nx0, arrV (Value.int .i64) 0 144 (List.replicate 144 0), 54⟩, ⟨nx0 + 1, arrV (Value.int .i64) 0 144 x2, 54⟩] ∧ X' = [] ∧ Imm.le I0 I' ∧ 144 ≤ x2.length ∧ assign_pad.l1 a0 a2 n_ x2 x3 = some y1) k ⟨(List.replicate 144 0), a1, rfl, rfl, rfl, (Imm.le_refl _), (Nat.le_of_eq List.length_replicate.symm), H⟩ ?_ ?_
  ·rintro _ _ _ _ _ ⟨x2, x3, rfl, rfl, rfl, _, hz2, H⟩
   cases H
  ·rintro kq1 _ I2 nx2 _ _ ⟨x2, x3, rfl, rfl, rfl, hi2, hz2, H⟩ Q_l1 hJ2 hQ2
   replace H : (if x3 < (a0.length : Int) then ((if 0 ≤ x3 then (if x3 < (a0.length : Int) then ((assign_pad.l2 a0 a2 x3 kq1 x2 0).bind (assign_pad.k3)) else none) else none).bind (fun x4 => (assign_pad.l1 a0 a2 kq1 x4 (W .i64 (x3 + 1))))) else (some x2)) = some y1 := H
   refine OK.seq K30_13 K30_19 (by kernel_rfl) ?_
   refine OK.seq K30_14 K30_16 (by kernel_rfl) ?_
   refine OK.region 3 O30_14 (by kernel_rfl) ?_
   refine RL.simK (K' := [(15, .bool (decide (x3 < (a0.length : Int)))), (0, .slice Ap0 a0.length cp0), (2, .slice Ap2 a2.length cp2), (6, .pointer (some ⟨nx0, 0, none⟩)), (7, .pointer (some ⟨nx0 + 1, 0, none⟩)), (8, .int .i64 x3)]) [] (RFacts.nil _ _ _) 4 [.no, .no, .no, .no] (by kernel_rfl) (by kernel_rfl) ?_
   refine RL.nil (by kernel_rfl) ?_
   refine QN.then_ ?_
   refine OK.cond (.tmp 15) K30_17 K30_18 (decide (x3 < (a0.length : Int))) (by kernel_rfl) (by kernel_rfl) (by kernel_rfl) (fun hb => ?_) (fun hb => ?_)
   ·skip
    have hc := (of_decide_eq_true hb)
    rw [if_pos hc] at H
    clear hb
    refine OK.skip (by kernel_rfl) ?_
    refine QN.then_ ?_
    refine OK.seq K30_20 K30_47 (by kernel_rfl) ?_
    refine OK.join (fun K' I' _ L' X' => ∃ (x4 : List Int), K' = [(0, .slice Ap0 a0.length cp0), (2, .slice Ap2 a2.length cp2), (6, .pointer (some ⟨nx0, 0, none⟩)), (7, .pointer (some ⟨nx0 + 1, 0, none⟩)), (8, .int .i64 x3)] ∧ L' = [⟨nx0, arrV (Value.int .i64) 0 144 (List.replicate 144 0), 54⟩, ⟨nx0 + 1, arrV (Value.int .i64) 0 144 x4, 54⟩] ∧ X' = [] ∧ Imm.le I2 I' ∧ 144 ≤ x4.length ∧ (assign_pad.l1 a0 a2 kq1 x4 (W .i64 (x3 + 1))) = some y1) ?_ ?_
    ·rintro _ I3 nx3 _ _ ⟨x4, rfl, rfl, rfl, hi3, hz3, H⟩
     replace H : (assign_pad.l1 a0 a2 kq1 x4 (W .i64 (x3 + 1))) = some y1 := H
     refine QN.then_ ?_
     refine OK.region 4 O30_47 (by kernel_rfl) ?_
     refine RL.simK (K' := [(8, .int .i64 (W .i64 (x3 + 1))), (0, .slice Ap0 a0.length cp0), (2, .slice Ap2 a2.length cp2), (6, .pointer (some ⟨nx0, 0, none⟩)), (7, .pointer (some ⟨nx0 + 1, 0, none⟩))]) [] (RFacts.nil _ _ _) 3 [.no, .no, .no] (by kernel_rfl) (by kernel_rfl) ?_
     refine RL.nil (by kernel_rfl) ?_
     refine QN.sub (K' := [(0, .slice Ap0 a0.length cp0), (2, .slice Ap2 a2.length cp2), (6, .pointer (some ⟨nx0, 0, none⟩)), (7, .pointer (some ⟨nx0 + 1, 0, none⟩)), (8, .int .i64 (W .i64 (x3 + 1)))]) (L' := [⟨nx0, arrV (Value.int .i64) 0 144 (List.replicate 144 0), 54⟩, ⟨nx0 + 1, arrV (Value.int .i64) 0 144 x4, 54⟩]) (by kernel_rfl) (.cons_cons _ (.cons_cons _ .slnil)) (.refl _) ?_
     exact hJ2 _ _ _ _ _ ⟨x4, W .i64 (x3 + 1), rfl, rfl, rfl, (Imm.le_trans hi2 hi3), hz3, H⟩
    ·intro Q_2 hJ3 hQ3
     obtain ⟨y2, H, HK2⟩ := Option.bind_eq_some_iff.mp H
     refine OK.block 1 K30_21 (by kernel_rfl) ?_
     refine OK.seq K30_22 K30_24 (by kernel_rfl) ?_
     refine OK.region 5 O30_22 (by kernel_rfl) ?_
     refine RL.simK (K' := [(19, .int .i64 x3), (18, .slice Ap0 a0.length cp0), (0, .slice Ap0 a0.length cp0), (2, .slice Ap2 a2.length cp2), (6, .pointer (some ⟨nx0, 0, none⟩)), (7, .pointer (some ⟨nx0 + 1, 0, none⟩)), (8, .int .i64 x3)]) [] (RFacts.nil _ _ _) 2 [.no, .no] (by kernel_rfl) (by kernel_rfl) ?_
     by_cases hib0 : 0 ≤ x3
     case neg => rw [if_neg hib0] at H; cases H
     rw [if_pos hib0] at H
     by_cases hib1 : x3 < (a0.length : Int)
     case neg => rw [if_neg hib1] at H; cases H
     rw [if_pos hib1] at H
     obtain ⟨g1_, o1_, hA1_, A1_, c1_, hl1_, hr1_, hc1_⟩ := Ty.slice_at (Rd.ext hi2 hrp0) x3 hib0 hib1
     refine RL.idx 1 .i64 x3 hA1_ a0.length cp0 (some 20) (by kernel_rfl) (by kernel_rfl) (T := 22) (e := 24) (by kernel_rfl) (by kernel_rfl) hib0 hib1 (K' := [(20, .pointer (some ⟨g1_, o1_ + (x3).toNat * 1, none⟩)), (19, .int .i64 x3), (18, .slice Ap0 a0.length cp0), (0, .slice Ap0 a0.length cp0), (2, .slice Ap2 a2.length cp2), (6, .pointer (some ⟨nx0, 0, none⟩)), (7, .pointer (some ⟨nx0 + 1, 0, none⟩)), (8, .int .i64 x3)]) (by kernel_rfl) ?_
     refine RL.simK (K' := [(23, .int .i64 0), (22, .int .i64 ((a0.getD (x3).toNat []).length : Int)), (21, .slice A1_ ((a0.getD (x3).toNat []).length) c1_), (0, .slice Ap0 a0.length cp0), (2, .slice Ap2 a2.length cp2), (6, .pointer (some ⟨nx0, 0, none⟩)), (7, .pointer (some ⟨nx0 + 1, 0, none⟩)), (8, .int .i64 x3)]) [(⟨g1_, o1_ + (x3).toNat * 1, none⟩, .slice A1_ ((a0.getD (x3).toNat []).length) c1_)] (RFacts.imm (hc1_ 0 _ rfl) (RFacts.nil _ _ _)) 3 [.r 0, .no, .no] (by kernel_rfl) (by kernel_rfl) ?_
     refine RL.nil (by kernel_rfl) ?_
     refine QN.then_ ?_
     refine OK.join (fun K' I' _ L' X' => ∃ (x5 : List Int), K' = [(0, .slice Ap0 a0.length cp0), (2, .slice Ap2 a2.length cp2), (6, .pointer (some ⟨nx0, 0, none⟩)), (7, .pointer (some ⟨nx0 + 1, 0, none⟩)), (8, .int .i64 x3)] ∧ L' = [⟨nx0, arrV (Value.int .i64) 0 144 (List.replicate 144 0), 54⟩, ⟨nx0 + 1, arrV (Value.int .i64) 0 144 x5, 54⟩] ∧ X' = [] ∧ Imm.le I2 I' ∧ 144 ≤ x5.length ∧ assign_pad.k3 x5 = some y2) ?_ ?_
     ·rintro _ I4 nx4 _ _ ⟨x5, rfl, rfl, rfl, hi4, hz4, H⟩
      replace H : (some x5) = some y2 := H
      refine QN.blkN ?_
      obtain rfl := Option.some.inj H
      refine QN.sub (K' := [(0, .slice Ap0 a0.length cp0), (2, .slice Ap2 a2.length cp2), (6, .pointer (some ⟨nx0, 0, none⟩)), (7, .pointer (some ⟨nx0 + 1, 0, none⟩)), (8, .int .i64 x3)]) (L' := [⟨nx0, arrV (Value.int .i64) 0 144 (List.replicate 144 0), 54⟩, ⟨nx0 + 1, arrV (Value.int .i64) 0 144 x5, 54⟩]) (by kernel_rfl) (.cons_cons _ (.cons_cons _ .slnil)) (.refl _) ?_
      exact hJ3 _ _ _ _ _ ⟨x5, rfl, rfl, rfl, hi4, hz4, HK2⟩
     ·intro Q_3 hJ4 hQ4
      obtain ⟨y3, H, HK3⟩ := Option.bind_eq_some_iff.mp H
      refine OK.block 2 K30_25 (by kernel_rfl) ?_
      refine OK.sub (K' := [(0, .slice Ap0 a0.length cp0), (2, .slice Ap2 a2.length cp2), (6, .pointer (some ⟨nx0, 0, none⟩)), (7, .pointer (some ⟨nx0 + 1, 0, none⟩)), (8, .int .i64 x3), (21, .slice A1_ ((a0.getD (x3).toNat []).length) c1_), (22, .int .i64 ((a0.getD (x3).toNat []).length : Int)), (23, .int .i64 0)]) (L' := [⟨nx0, arrV (Value.int .i64) 0 144 (List.replicate 144 0), 54⟩, ⟨nx0 + 1, arrV (Value.int .i64) 0 144 x2, 54⟩]) (by kernel_rfl) (.cons_cons _ (.cons_cons _ .slnil)) (.refl _) ?_
      refine OK.loopInv K30_26 (by kernel_rfl) (fun n_ K' I' _ L' X' => ∃ (x6 : List Int) (x7 : Int), K' = [(0, .slice Ap0 a0.length cp0), (2, .slice Ap2 a2.length cp2), (6, .pointer (some ⟨nx0, 0, none⟩)), (7, .pointer (some ⟨nx0 + 1, 0, none⟩)), (8, .int .i64 x3), (21, .slice A1_ ((a0.getD (x3).toNat []).length) c1_), (22, .int .i64 ((a0.getD (x3).toNat []).length : Int)), (23, .int .i64 x7)] ∧ L' = [⟨nx0, arrV (Value.int .i64) 0 144 (List.replicate 144 0), 54⟩, ⟨nx0 + 1, arrV (Value.int .i64) 0 144 x6, 54⟩] ∧ X' = [] ∧ Imm.le I2 I' ∧ 144 ≤ x6.length ∧ assign_pad.l2 a0 a2 x3 n_ x6 x7 = some y3) kq1 ⟨x2, 0, rfl, rfl, rfl, (Imm.le_refl _), hz2, H⟩ ?_ ?_
      ·rintro _ _ _ _ _ ⟨x6, x7, rfl, rfl, rfl, _, hz5, H⟩
       cases H
      ·rintro kq2 _ I5 nx5 _ _ ⟨x6, x7, rfl, rfl, rfl, hi5, hz5, H⟩ Q_l2 hJ5 hQ5
       replace H : (if x7 < ((a0.getD (x3).toNat []).length : Int) then (if 0 ≤ x7 then (if x7 < ((a0.getD (x3).toNat []).length : Int) then (if 0 ≤ x7 then (if x7 < (a2.length : Int) then ((if (a2.getD (x7).toNat false) = true then (some x6) else (if 0 ≤ x3 then (if x3 < (12 : Int) then (if 0 ≤ x7 then (if x7 < (12 : Int) then (some (x6.set ((x3).toNat * 12 + (x7).toNat) ((a0.getD (x3).toNat []).getD (x7).toNat 0))) else none) else none) else none) else none)).bind (fun x8 => (assign_pad.l2 a0 a2 x3 kq2 x8 (W .i64 (x7 + 1))))) else none) else none) else none) else none) else (some x6)) = some y3 := H
       refine OK.seq K30_27 K30_29 (by kernel_rfl) ?_
       refine OK.region 6 O30_27 (by kernel_rfl) ?_
       refine RL.simK (K' := [(24, .bool (decide (x7 < ((a0.getD (x3).toNat []).length : Int)))), (0, .slice Ap0 a0.length cp0), (2, .slice Ap2 a2.length cp2), (6, .pointer (some ⟨nx0, 0, none⟩)), (7, .pointer (some ⟨nx0 + 1, 0, none⟩)), (8, .int .i64 x3), (21, .slice A1_ ((a0.getD (x3).toNat []).length) c1_), (22, .int .i64 ((a0.getD (x3).toNat []).length : Int)), (23, .int .i64 x7)]) [] (RFacts.nil _ _ _) 1 [.no] (by kernel_rfl) (by kernel_rfl) ?_
       refine RL.nil (by kernel_rfl) ?_
       refine QN.then_ ?_
       refine OK.seq K30_30 K30_33 (by kernel_rfl) ?_
       refine OK.cond (.tmp 24) K30_31 K30_32 (decide (x7 < ((a0.getD (x3).toNat []).length : Int))) (by kernel_rfl) (by kernel_rfl) (by kernel_rfl) (fun hb => ?_) (fun hb => ?_)
       ·skip
        have hc := (of_decide_eq_true hb)
        rw [if_pos hc] at H
        clear hb
        refine OK.skip (by kernel_rfl) ?_
        refine QN.then_ ?_
        refine OK.seq K30_34 K30_45 (by kernel_rfl) ?_
        refine OK.block 3 K30_35 (by kernel_rfl) ?_
        refine OK.seq K30_36 K30_38 (by kernel_rfl) ?_
        refine OK.region 7 O30_36 (by kernel_rfl) ?_
        refine RL.simK (K' := [(25, .int .i64 x7), (0, .slice Ap0 a0.length cp0), (2, .slice Ap2 a2.length cp2), (6, .pointer (some ⟨nx0, 0, none⟩)), (7, .pointer (some ⟨nx0 + 1, 0, none⟩)), (8, .int .i64 x3), (21, .slice A1_ ((a0.getD (x3).toNat []).length) c1_), (22, .int .i64 ((a0.getD (x3).toNat []).length : Int)), (23, .int .i64 x7)]) [] (RFacts.nil _ _ _) 1 [.no] (by kernel_rfl) (by kernel_rfl) ?_
        by_cases hib0 : 0 ≤ x7
        case neg => rw [if_neg hib0] at H; cases H
        rw [if_pos hib0] at H
        by_cases hib1 : x7 < ((a0.getD (x3).toNat []).length : Int)
        case neg => rw [if_neg hib1] at H; cases H
        rw [if_pos hib1] at H
        obtain ⟨g2_, o2_, hA2_, hc2_⟩ := Ty.int_at (Rd.ext hi5 hr1_) x7 hib0 hib1
        refine RL.idx 1 .i64 x7 hA2_ ((a0.getD (x3).toNat []).length) c1_ (some 26) (by kernel_rfl) (by kernel_rfl) (T := 24) (e := 2) (by kernel_rfl) (by kernel_rfl) hib0 hib1 (K' := [(26, .pointer (some ⟨g2_, o2_ + (x7).toNat * 1, none⟩)), (25, .int .i64 x7), (0, .slice Ap0 a0.length cp0), (2, .slice Ap2 a2.length cp2), (6, .pointer (some ⟨nx0, 0, none⟩)), (7, .pointer (some ⟨nx0 + 1, 0, none⟩)), (8, .int .i64 x3), (21, .slice A1_ ((a0.getD (x3).toNat []).length) c1_), (22, .int .i64 ((a0.getD (x3).toNat []).length : Int)), (23, .int .i64 x7)]) (by kernel_rfl) ?_
        refine RL.simK (K' := [(10, .int .i64 ((a0.getD (x3).toNat []).getD (x7).toNat 0)), (9, .int .i64 x7), (0, .slice Ap0 a0.length cp0), (2, .slice Ap2 a2.length cp2), (6, .pointer (some ⟨nx0, 0, none⟩)), (7, .pointer (some ⟨nx0 + 1, 0, none⟩)), (8, .int .i64 x3), (21, .slice A1_ ((a0.getD (x3).toNat []).length) c1_), (22, .int .i64 ((a0.getD (x3).toNat []).length : Int)), (23, .int .i64 x7)]) [(⟨g2_, o2_ + (x7).toNat * 1, none⟩, .int .i64 ((a0.getD (x3).toNat []).getD (x7).toNat 0))] (RFacts.imm (hc2_ 0 _ rfl) (RFacts.nil _ _ _)) 3 [.r 0, .no, .no] (by kernel_rfl) (by kernel_rfl) ?_
        refine RL.nil (by kernel_rfl) ?_
        refine QN.then_ ?_
        refine OK.seq K30_39 K30_41 (by kernel_rfl) ?_
        refine OK.region 8 O30_39 (by kernel_rfl) ?_
        refine RL.simK (K' := [(29, .int .i64 x7), (28, .slice Ap2 a2.length cp2), (10, .int .i64 ((a0.getD (x3).toNat []).getD (x7).toNat 0)), (9, .int .i64 x7), (0, .slice Ap0 a0.length cp0), (2, .slice Ap2 a2.length cp2), (6, .pointer (some ⟨nx0, 0, none⟩)), (7, .pointer (some ⟨nx0 + 1, 0, none⟩)), (8, .int .i64 x3), (21, .slice A1_ ((a0.getD (x3).toNat []).length) c1_), (22, .int .i64 ((a0.getD (x3).toNat []).length : Int)), (23, .int .i64 x7)]) [] (RFacts.nil _ _ _) 2 [.no, .no] (by kernel_rfl) (by kernel_rfl) ?_
        by_cases hib0 : 0 ≤ x7
        case neg => rw [if_neg hib0] at H; cases H
        rw [if_pos hib0] at H
        by_cases hib1 : x7 < (a2.length : Int)
        case neg => rw [if_neg hib1] at H; cases H
        rw [if_pos hib1] at H
        obtain ⟨g3_, o3_, hA3_, hc3_⟩ := Ty.bool_at (Rd.ext (Imm.le_trans hi2 hi5) hrp2) x7 hib0 hib1
        refine RL.idx 1 .i64 x7 hA3_ a2.length cp2 (some 30) (by kernel_rfl) (by kernel_rfl) (T := 51) (e := 4) (by kernel_rfl) (by kernel_rfl) hib0 hib1 (K' := [(30, .pointer (some ⟨g3_, o3_ + (x7).toNat * 1, none⟩)), (29, .int .i64 x7), (28, .slice Ap2 a2.length cp2), (10, .int .i64 ((a0.getD (x3).toNat []).getD (x7).toNat 0)), (9, .int .i64 x7), (0, .slice Ap0 a0.length cp0), (2, .slice Ap2 a2.length cp2), (6, .pointer (some ⟨nx0, 0, none⟩)), (7, .pointer (some ⟨nx0 + 1, 0, none⟩)), (8, .int .i64 x3), (21, .slice A1_ ((a0.getD (x3).toNat []).length) c1_), (22, .int .i64 ((a0.getD (x3).toNat []).length : Int)), (23, .int .i64 x7)]) (by kernel_rfl) ?_
        refine RL.simK (K' := [(32, .bool (!(a2.getD (x7).toNat false))), (10, .int .i64 ((a0.getD (x3).toNat []).getD (x7).toNat 0)), (9, .int .i64 x7), (0, .slice Ap0 a0.length cp0), (2, .slice Ap2 a2.length cp2), (6, .pointer (some ⟨nx0, 0, none⟩)), (7, .pointer (some ⟨nx0 + 1, 0, none⟩)), (8, .int .i64 x3), (21, .slice A1_ ((a0.getD (x3).toNat []).length) c1_), (22, .int .i64 ((a0.getD (x3).toNat []).length : Int)), (23, .int .i64 x7)]) [(⟨g3_, o3_ + (x7).toNat * 1, none⟩, .bool (a2.getD (x7).toNat false))] (RFacts.imm (hc3_ 0 _ rfl) (RFacts.nil _ _ _)) 2 [.r 0, .no] (by kernel_rfl) (by kernel_rfl) ?_
        refine RL.nil (by kernel_rfl) ?_
        refine QN.then_ ?_
        refine OK.join (fun K' I' _ L' X' => ∃ (x8 : List Int), K' = [(0, .slice Ap0 a0.length cp0), (2, .slice Ap2 a2.length cp2), (6, .pointer (some ⟨nx0, 0, none⟩)), (7, .pointer (some ⟨nx0 + 1, 0, none⟩)), (8, .int .i64 x3), (21, .slice A1_ ((a0.getD (x3).toNat []).length) c1_), (22, .int .i64 ((a0.getD (x3).toNat []).length : Int)), (23, .int .i64 x7)] ∧ L' = [⟨nx0, arrV (Value.int .i64) 0 144 (List.replicate 144 0), 54⟩, ⟨nx0 + 1, arrV (Value.int .i64) 0 144 x8, 54⟩] ∧ X' = [] ∧ Imm.le I5 I' ∧ 144 ≤ x8.length ∧ (assign_pad.l2 a0 a2 x3 kq2 x8 (W .i64 (x7 + 1))) = some y3) ?_ ?_
        ·rintro _ I6 nx6 _ _ ⟨x8, rfl, rfl, rfl, hi6, hz6, H⟩
         replace H : (assign_pad.l2 a0 a2 x3 kq2 x8 (W .i64 (x7 + 1))) = some y3 := H
         refine QN.blkN ?_
         refine QN.then_ ?_
         refine OK.region 10 O30_45 (by kernel_rfl) ?_
         refine RL.simK (K' := [(23, .int .i64 (W .i64 (x7 + 1))), (0, .slice Ap0 a0.length cp0), (2, .slice Ap2 a2.length cp2), (6, .pointer (some ⟨nx0, 0, none⟩)), (7, .pointer (some ⟨nx0 + 1, 0, none⟩)), (8, .int .i64 x3), (21, .slice A1_ ((a0.getD (x3).toNat []).length) c1_), (22, .int .i64 ((a0.getD (x3).toNat []).length : Int))]) [] (RFacts.nil _ _ _) 2 [.no, .no] (by kernel_rfl) (by kernel_rfl) ?_
         refine RL.nil (by kernel_rfl) ?_
         refine QN.sub (K' := [(0, .slice Ap0 a0.length cp0), (2, .slice Ap2 a2.length cp2), (6, .pointer (some ⟨nx0, 0, none⟩)), (7, .pointer (some ⟨nx0 + 1, 0, none⟩)), (8, .int .i64 x3), (21, .slice A1_ ((a0.getD (x3).toNat []).length) c1_), (22, .int .i64 ((a0.getD (x3).toNat []).length : Int)), (23, .int .i64 (W .i64 (x7 + 1)))]) (L' := [⟨nx0, arrV (Value.int .i64) 0 144 (List.replicate 144 0), 54⟩, ⟨nx0 + 1, arrV (Value.int .i64) 0 144 x8, 54⟩]) (by kernel_rfl) (.cons_cons _ (.cons_cons _ .slnil)) (.refl _) ?_
         exact hJ5 _ _ _ _ _ ⟨x8, W .i64 (x7 + 1), rfl, rfl, rfl, (Imm.le_trans hi5 hi6), hz6, H⟩
        ·intro Q_4 hJ6 hQ6
         obtain ⟨y4, H, HK4⟩ := Option.bind_eq_some_iff.mp H
         refine OK.cond (.tmp 32) K30_42 K30_44 (!(a2.getD (x7).toNat false)) (by kernel_rfl) (by kernel_rfl) (by kernel_rfl) (fun hb => ?_) (fun hb => ?_)
         ·have hb : (a2.getD (x7).toNat false) = false := by simpa using hb
          have hc := (Bool.eq_false_iff.1 hb)
          rw [if_neg hc] at H
          clear hb
          refine OK.region 9 O30_42 (by kernel_rfl) ?_
          refine RL.simK (K' := [(35, .int .i64 ((a0.getD (x3).toNat []).getD (x7).toNat 0)), (34, .int .i64 x7), (33, .int .i64 x3), (0, .slice Ap0 a0.length cp0), (2, .slice Ap2 a2.length cp2), (6, .pointer (some ⟨nx0, 0, none⟩)), (7, .pointer (some ⟨nx0 + 1, 0, none⟩)), (8, .int .i64 x3), (21, .slice A1_ ((a0.getD (x3).toNat []).length) c1_), (22, .int .i64 ((a0.getD (x3).toNat []).length : Int)), (23, .int .i64 x7)]) [] (RFacts.nil _ _ _) 3 [.no, .no, .no] (by kernel_rfl) (by kernel_rfl) ?_
          by_cases hib0 : 0 ≤ x3
          case neg => rw [if_neg hib0] at H; cases H
          rw [if_pos hib0] at H
          by_cases hib1 : x3 < (12 : Int)
          case neg => rw [if_neg hib1] at H; cases H
          rw [if_pos hib1] at H
          have ha04 := hib0; have ha14 := hib1
          refine RL.idxArr (T := 54) (e := 52) 12 .i64 x3 (nx0 + 1) (0) 12 (some 36) (by kernel_rfl) (by kernel_rfl) (by kernel_rfl) (by kernel_rfl) hib0 hib1 (K' := [(36, .pointer (some ⟨nx0 + 1, 0 + (x3).toNat * 12, none⟩)), (35, .int .i64 ((a0.getD (x3).toNat []).getD (x7).toNat 0)), (34, .int .i64 x7), (33, .int .i64 x3), (0, .slice Ap0 a0.length cp0), (2, .slice Ap2 a2.length cp2), (6, .pointer (some ⟨nx0, 0, none⟩)), (7, .pointer (some ⟨nx0 + 1, 0, none⟩)), (8, .int .i64 x3), (21, .slice A1_ ((a0.getD (x3).toNat []).length) c1_), (22, .int .i64 ((a0.getD (x3).toNat []).length : Int)), (23, .int .i64 x7)]) (by kernel_rfl) ?_
          by_cases hib0 : 0 ≤ x7
          case neg => rw [if_neg hib0] at H; cases H
          rw [if_pos hib0] at H
          by_cases hib1 : x7 < (12 : Int)
          case neg => rw [if_neg hib1] at H; cases H
          rw [if_pos hib1] at H
          have ha05 := hib0; have ha15 := hib1
          refine RL.idxArr (T := 52) (e := 2) 1 .i64 x7 (nx0 + 1) (0 + (x3).toNat * 12) 12 (some 37) (by kernel_rfl) (by kernel_rfl) (by kernel_rfl) (by kernel_rfl) hib0 hib1 (K' := [(37, .pointer (some ⟨nx0 + 1, 0 + (x3).toNat * 12 + (x7).toNat * 1, none⟩)), (36, .pointer (some ⟨nx0 + 1, 0 + (x3).toNat * 12, none⟩)), (35, .int .i64 ((a0.getD (x3).toNat []).getD (x7).toNat 0)), (34, .int .i64 x7), (33, .int .i64 x3), (0, .slice Ap0 a0.length cp0), (2, .slice Ap2 a2.length cp2), (6, .pointer (some ⟨nx0, 0, none⟩)), (7, .pointer (some ⟨nx0 + 1, 0, none⟩)), (8, .int .i64 x3), (21, .slice A1_ ((a0.getD (x3).toNat []).length) c1_), (22, .int .i64 ((a0.getD (x3).toNat []).length : Int)), (23, .int .i64 x7)]) (by kernel_rfl) ?_
          refine RL.stA (g := nx0 + 1) (ty := 54) (cs := arrV (Value.int .i64) 0 144 x6) (Value.int .i64) 0 144 x6 ((a0.getD (x3).toNat []).getD (x7).toNat 0) [] [] 0 ((x3).toNat * 12 + (x7).toNat) 1 (by kernel_rfl) (by kernel_rfl) (by kernel_rfl) (by omega) hz5 (0 + (x3).toNat * 12 + (x7).toNat * 1) (by omega) 2 (by kernel_rfl) (by kernel_rfl) (by kernel_rfl) (by rfl) (fun _ h => by cases h) (fun _ h => by cases h) (cs' := arrV (Value.int .i64) 0 144 (x6.set ((x3).toNat * 12 + (x7).toNat) ((a0.getD (x3).toNat []).getD (x7).toNat 0))) (by kernel_rfl) ?_
          refine RL.nil (by kernel_rfl) ?_
          refine QN.sub (K' := [(0, .slice Ap0 a0.length cp0), (2, .slice Ap2 a2.length cp2), (6, .pointer (some ⟨nx0, 0, none⟩)), (7, .pointer (some ⟨nx0 + 1, 0, none⟩)), (8, .int .i64 x3), (21, .slice A1_ ((a0.getD (x3).toNat []).length) c1_), (22, .int .i64 ((a0.getD (x3).toNat []).length : Int)), (23, .int .i64 x7)]) (L' := [⟨nx0, arrV (Value.int .i64) 0 144 (List.replicate 144 0), 54⟩, ⟨nx0 + 1, arrV (Value.int .i64) 0 144 (x6.set ((x3).toNat * 12 + (x7).toNat) ((a0.getD (x3).toNat []).getD (x7).toNat 0)), 54⟩]) (by kernel_rfl) (.cons_cons _ (.cons_cons _ .slnil)) (.refl _) ?_
          obtain rfl := Option.some.inj H
          refine QN.sub (K' := [(0, .slice Ap0 a0.length cp0), (2, .slice Ap2 a2.length cp2), (6, .pointer (some ⟨nx0, 0, none⟩)), (7, .pointer (some ⟨nx0 + 1, 0, none⟩)), (8, .int .i64 x3), (21, .slice A1_ ((a0.getD (x3).toNat []).length) c1_), (22, .int .i64 ((a0.getD (x3).toNat []).length : Int)), (23, .int .i64 x7)]) (L' := [⟨nx0, arrV (Value.int .i64) 0 144 (List.replicate 144 0), 54⟩, ⟨nx0 + 1, arrV (Value.int .i64) 0 144 (x6.set ((x3).toNat * 12 + (x7).toNat) ((a0.getD (x3).toNat []).getD (x7).toNat 0)), 54⟩]) (by kernel_rfl) (.cons_cons _ (.cons_cons _ .slnil)) (.refl _) ?_
          exact hJ6 _ _ _ _ _ ⟨(x6.set ((x3).toNat * 12 + (x7).toNat) ((a0.getD (x3).toNat []).getD (x7).toNat 0)), rfl, rfl, rfl, (Imm.le_refl _), (le_set hz5), HK4⟩
         ·have hb : (a2.getD (x7).toNat false) = true := by simpa using hb
          have hc := hb
          rw [if_pos hc] at H
          clear hb
          refine OK.skip (by kernel_rfl) ?_
          obtain rfl := Option.some.inj H
          refine QN.sub (K' := [(0, .slice Ap0 a0.length cp0), (2, .slice Ap2 a2.length cp2), (6, .pointer (some ⟨nx0, 0, none⟩)), (7, .pointer (some ⟨nx0 + 1, 0, none⟩)), (8, .int .i64 x3), (21, .slice A1_ ((a0.getD (x3).toNat []).length) c1_), (22, .int .i64 ((a0.getD (x3).toNat []).length : Int)), (23, .int .i64 x7)]) (L' := [⟨nx0, arrV (Value.int .i64) 0 144 (List.replicate 144 0), 54⟩, ⟨nx0 + 1, arrV (Value.int .i64) 0 144 x6, 54⟩]) (by kernel_rfl) (.cons_cons _ (.cons_cons _ .slnil)) (.refl _) ?_
          exact hJ6 _ _ _ _ _ ⟨x6, rfl, rfl, rfl, (Imm.le_refl _), hz5, HK4⟩
       ·skip
        have hc := (of_decide_eq_false hb)
        rw [if_neg hc] at H
        clear hb
        refine OK.exit 2 (by kernel_rfl) ?_
        refine QN.thenE ?_
        refine QN.outE hQ5 ?_
        refine QN.blkE ?_
        obtain rfl := Option.some.inj H
        refine QN.sub (K' := [(0, .slice Ap0 a0.length cp0), (2, .slice Ap2 a2.length cp2), (6, .pointer (some ⟨nx0, 0, none⟩)), (7, .pointer (some ⟨nx0 + 1, 0, none⟩)), (8, .int .i64 x3)]) (L' := [⟨nx0, arrV (Value.int .i64) 0 144 (List.replicate 144 0), 54⟩, ⟨nx0 + 1, arrV (Value.int .i64) 0 144 x6, 54⟩]) (by kernel_rfl) (.cons_cons _ (.cons_cons _ .slnil)) (.refl _) ?_
        exact hJ4 _ _ _ _ _ ⟨x6, rfl, rfl, rfl, hi5, hz5, HK3⟩
   ·skip
    have hc := (of_decide_eq_false hb)
    rw [if_neg hc] at H
    clear hb
    refine OK.exit 0 (by kernel_rfl) ?_
    refine QN.thenE ?_
    refine QN.outE hQ2 ?_
    refine QN.blkE ?_
    obtain rfl := Option.some.inj H
    refine QN.sub (K' := [(6, .pointer (some ⟨nx0, 0, none⟩)), (7, .pointer (some ⟨nx0 + 1, 0, none⟩))]) (L' := [⟨nx0, arrV (Value.int .i64) 0 144 (List.replicate 144 0), 54⟩, ⟨nx0 + 1, arrV (Value.int .i64) 0 144 x2, 54⟩]) (by kernel_rfl) (.cons_cons _ (.cons_cons _ .slnil)) (.refl _) ?_
    exact hJ1 _ _ _ _ _ ⟨x2, rfl, rfl, rfl, hi2, hz2, HK1⟩

end Go.Proofs.Ytdmhbcgmimfjcaa
namespace Go.Proofs.Ytdmhbcgmimfjcaa
open Go Go.Proofs.Ytdmhbcgmimfjcaa.RW
set_option linter.unusedVariables false
set_option maxRecDepth 100000
set_option maxHeartbeats 8000000

/-! ### assign_best: function 33, armillary/assign.best -/
noncomputable def K33_0 : Code := cBody Try.f33
noncomputable def K33_1 : Code := cL K33_0
noncomputable def O33_1 : List Oper := cOps K33_1
noncomputable def K33_3 : Code := cR K33_0
noncomputable def K33_4 : Code := cL K33_3
noncomputable def O33_4 : List Oper := cOps K33_4
noncomputable def K33_6 : Code := cR K33_3
noncomputable def K33_7 : Code := cL K33_6
noncomputable def O33_7 : List Oper := cOps K33_7
noncomputable def K33_9 : Code := cR K33_6
noncomputable def K33_10 : Code := cL K33_9
noncomputable def O33_10 : List Oper := cOps K33_10
noncomputable def K33_12 : Code := cR K33_9
def assign_best.f (k : Nat) (a0 : List (List Int)) (a1 : Int) (a2 : List Bool) : Option (Int) := ((assign_pad.f k a0 a1 a2).bind fun t1 => ((assign_hungarians0.f k t1).bind fun t2 => ((assign_solution_values0.f k t2 t1).bind fun t3 => (some t3))))
def assign_best.Post (I : Imm) (w : World) (r : Int) (v : Value) (w' : World) : Prop :=
 ∃ (J : Imm), v = .int .i64 r ∧ Got w w' I J []
theorem assign_best.calls (k : Nat) (I0 : Imm) (a0 : List (List Int)) (Ap0 : Option Addr) (cp0 : Nat) (a1 : Int) (a2 : List Bool) (Ap2 : Option Addr) (cp2 : Nat) (w : World) (hI : I0.at_ w) (hlp0 : a0.length ≤ cp0) (hrp0 : Rd (Ty.slice (Ty.int .i64)) I0 Ap0 a0) (hlp2 : a2.length ≤ cp2) (hrp2 : Rd Ty.bool I0 Ap2 a2) (r : Int) (h : assign_best.f k a0 a1 a2 = some r) :
  Calls Try.prog 33 [.slice Ap0 a0.length cp0, .int .i64 a1, .slice Ap2 a2.length cp2].toArray w fun e w' => ∃ v, e = .returned v ∧ assign_best.Post I0 w r v w' := by
 have H : ((assign_pad.f k a0 a1 a2).bind fun t1 => ((assign_hungarians0.f k t1).bind fun t2 => ((assign_solution_values0.f k t2 t1).bind fun t3 => (some t3)))) = some r := h
 clear h
 refine calls_body Try.func33 (by kernel_rfl) 15 (by kernel_rfl) (by kernel_rfl) ⟨w, fun _ => False, I0⟩ I0 [] [(0, .slice Ap0 a0.length cp0), (1, .int .i64 a1), (2, .slice Ap2 a2.length cp2)] (by kernel_rfl) (Sat.start w _ I0 hI) ?_
 generalize w.heap.size = nx0
 show OK _ K33_0 _ _ _ _ _ _ _ _
 refine OK.seq K33_1 K33_3 (by kernel_rfl) ?_
 refine OK.region 0 O33_1 (by kernel_rfl) ?_
 refine RL.simK (K' := [(0, .slice Ap0 a0.length cp0), (1, .int .i64 a1), (2, .slice Ap2 a2.length cp2)]) [] (RFacts.nil _ _ _) 1 [.no] (by kernel_rfl) (by kernel_rfl) ?_
 refine RL.nil (by kernel_rfl) ?_
 refine QN.then_ ?_
 refine OK.seq K33_4 K33_6 (by kernel_rfl) ?_
 refine OK.region 1 O33_4 (by kernel_rfl) ?_
 refine RL.simK (K' := [(11, .slice Ap2 a2.length cp2), (10, .int .i64 a1), (9, .slice Ap0 a0.length cp0)]) [] (RFacts.nil _ _ _) 3 [.no, .no, .no] (by kernel_rfl) (by kernel_rfl) ?_
 obtain ⟨t1, hA1, H⟩ := Option.bind_eq_some_iff.mp H
 refine RL.callP 30 [.slice Ap0 a0.length cp0, .int .i64 a1, .slice Ap2 a2.length cp2] (some 12) (fun w => assign_pad.Post I0 w t1) (by kernel_rfl) (by kernel_rfl) (fun w hs => assign_pad.calls k I0 a0 Ap0 cp0 a1 a2 Ap2 cp2 w hs.im hlp0 hrp0 hlp2 hrp2 t1 hA1) ?_
 rintro w v w' hs ⟨I1, rfl, hg, hz1⟩
 have hi1 := hg.le
 refine RL.resume (X' := []) rfl (hs.call hg) ?_
 clear hs hg
 generalize w'.heap.size = nx1
 clear w w'
 refine RL.simP (K' := [(7, .pointer (some ⟨nx1, 0, none⟩))]) (nx' := nx1 + 1) (L' := [⟨nx1, arrV (Value.int .i64) 0 144 t1, 54⟩]) [] (RFacts.nil _ _ _) 2 [.no, .l 0] (by kernel_rfl) (by kernel_rfl) ?_
 refine RL.nil (by kernel_rfl) ?_
 refine QN.then_ ?_
 refine OK.seq K33_7 K33_9 (by kernel_rfl) ?_
 refine OK.region 2 O33_7 (by kernel_rfl) ?_
 obtain ⟨t2, hA2, H⟩ := Option.bind_eq_some_iff.mp H
 refine RL.callM (L1 := [⟨nx1, arrV (Value.int .i64) 0 144 t1, 54⟩]) (L2 := []) (X1 := []) (X2 := []) rfl rfl 31 [.pointer (some ⟨nx1, 0, none⟩)] (some 13) (fun w => assign_hungarians0.Post (SM [⟨nx1, arrV (Value.int .i64) 0 144 t1, 54⟩] []) nx1 t1 I1 w t2) (by kernel_rfl) (by kernel_rfl) (fun w hs => assign_hungarians0.calls k I1 nx1 t1 w hs hz1 t2 hA2) ?_
 rintro w v w' hs ⟨I2, rfl, hg, hz2, hz3, hz4⟩
 have hi2 : Imm.le I1 I2 := hg.le
 refine RL.resume (L' := [⟨nx1, arrV (Value.int .i64) 0 144 t1, 54⟩]) (X' := []) rfl (hs.outof hg) ?_
 clear hs hg
 generalize w'.heap.size = nx2
 clear w w'
 refine RL.simP (K' := [(8, .pointer (some ⟨nx2, 0, none⟩)), (7, .pointer (some ⟨nx1, 0, none⟩))]) (nx' := nx2 + 1) (L' := [⟨nx1, arrV (Value.int .i64) 0 144 t1, 54⟩, ⟨nx2, ((arrV (Value.int .i64) 0 12 t2.f0) ++ ((arrV (Value.int .i64) 0 12 t2.f1) ++ (arrV (Value.int .i64) 0 12 t2.f2))), 58⟩]) [] (RFacts.nil _ _ _) 2 [.no, .l 1] (by kernel_rfl) (by kernel_rfl) ?_
 refine RL.nil (by kernel_rfl) ?_
 refine QN.then_ ?_
 refine OK.seq K33_10 K33_12 (by kernel_rfl) ?_
 refine OK.region 3 O33_10 (by kernel_rfl) ?_
 refine RL.arrange (L' := [⟨nx2, ((arrV (Value.int .i64) 0 12 t2.f0) ++ ((arrV (Value.int .i64) 0 12 t2.f1) ++ (arrV (Value.int .i64) 0 12 t2.f2))), 58⟩, ⟨nx1, arrV (Value.int .i64) 0 144 t1, 54⟩]) (X' := []) [1, 0] [] (by kernel_rfl) (by kernel_rfl) (by kernel_rfl) (by kernel_rfl) ?_
 obtain ⟨t3, hA3, H⟩ := Option.bind_eq_some_iff.mp H
 refine RL.callM (L1 := [⟨nx2, ((arrV (Value.int .i64) 0 12 t2.f0) ++ ((arrV (Value.int .i64) 0 12 t2.f1) ++ (arrV (Value.int .i64) 0 12 t2.f2))), 58⟩, ⟨nx1, arrV (Value.int .i64) 0 144 t1, 54⟩]) (L2 := []) (X1 := []) (X2 := []) rfl rfl 32 [.pointer (some ⟨nx2, 0, none⟩), .pointer (some ⟨nx1, 0, none⟩)] (some 14) (fun w => assign_solution_values0.Post (SM [⟨nx2, ((arrV (Value.int .i64) 0 12 t2.f0) ++ ((arrV (Value.int .i64) 0 12 t2.f1) ++ (arrV (Value.int .i64) 0 12 t2.f2))), 58⟩, ⟨nx1, arrV (Value.int .i64) 0 144 t1, 54⟩] []) nx2 nx1 t2 t1 I2 w t3) (by kernel_rfl) (by kernel_rfl) (fun w hs => assign_solution_values0.calls k I2 nx2 nx1 t2 t1 w hs hz2 hz3 hz4 hz1 t3 hA3) ?_
 rintro w v w' hs ⟨I3, rfl, hg⟩
 have hi3 : Imm.le I2 I3 := hg.le
 refine RL.resume (L' := [⟨nx2, ((arrV (Value.int .i64) 0 12 t2.f0) ++ ((arrV (Value.int .i64) 0 12 t2.f1) ++ (arrV (Value.int .i64) 0 12 t2.f2))), 58⟩, ⟨nx1, arrV (Value.int .i64) 0 144 t1, 54⟩]) (X' := []) rfl (hs.outof hg) ?_
 clear hs hg
 generalize w'.heap.size = nx3
 clear w w'
 refine RL.simK (K' := [(6, .int .i64 t3)]) [] (RFacts.nil _ _ _) 1 [.no] (by kernel_rfl) (by kernel_rfl) ?_
 refine RL.nil (by kernel_rfl) ?_
 refine QN.then_ ?_
 refine OK.ret (by kernel_rfl) ?_
 obtain rfl := Option.some.inj H
 refine QN.body rfl [] (RFacts.nil _ _ _) (.no) (.int .i64 t3) (by kernel_rfl) (by kernel_rfl) (by kernel_rfl) ?_ _ (.inr rfl)
 exact fun w' hs' => ⟨_, rfl, I3, rfl, hs'.got _ .slnil⟩

end Go.Proofs.Ytdmhbcgmimfjcaa
namespace Go.Proofs.Ytdmhbcgmimfjcaa.hun
open Go Go.Proofs.Ytdmhbcgmimfjcaa Go.Proofs.Ytdmhbcgmimfjcaa.RW
set_option linter.unusedVariables false
set_option maxRecDepth 100000
set_option maxHeartbeats 4000000
/-! ### the matrix -/
abbrev row (w : List (List Int)) (i : Nat) : List Int := w.getD i []
abbrev we (w : List (List Int)) (i j : Nat) : Int := g (row w i) j
/-- A valid matrix of n rows and m columns. -/
structure Vw (w : List (List Int)) (m : Nat) : Prop where
  nr : w.length ≤ 12
  mr : m ≤ 12
  z : w.length = 0 → m = 0
  rl : ∀ i, i < w.length → (row w i).length = m
  eb : ∀ i j, i < w.length → j < m → 0 ≤ we w i j ∧ we w i j ≤ 1073741824
theorem cell_eq {a c j d : Nat} (hj : j < 12) (hd : d < 12) : a * 12 + j = c * 12 + d ↔ a = c ∧ j = d := by omega
/-- A row of the padded matrix. -/
theorem pad_row {w : List (List Int)} {m : Nat} (h : Vw w m) {used : List Bool} (hu : used.length = m) {i : Nat} (hi : i < w.length) : ∀ (d k n : Nat) (x : List Int), d + n = m → d < k → x.length = 144 →
    ∃ x', assign_pad.l2 w used (i : Int) k x (n : Int) = some x' ∧ x'.length = 144 ∧ ∀ r j, r < 12 → j < 12 → wt x' r j = if r = i ∧ n ≤ j ∧ j < m ∧ gb used j = false then we w i j else wt x r j := by
  intro d
  induction d with
  | zero =>
    intro k n x hd hk hx
    obtain ⟨k, rfl⟩ : ∃ m, k = m + 1 := ⟨k - 1, by omega⟩
    have hl := h.rl i hi
    refine ⟨x, ?_, hx, fun r j hr hj => ?_⟩
    · simp only [assign_pad.l2, tn]
      rw [if_neg (by show ¬ (n : Int) < ((row w i).length : Int); omega)]
    · rw [if_neg (by omega)]
  | succ d ih =>
    intro k n x hd hk hx
    obtain ⟨k, rfl⟩ : ∃ m, k = m + 1 := ⟨k - 1, by omega⟩
    have hl := h.rl i hi
    have hn := h.nr
    have hm := h.mr
    simp only [assign_pad.l2, tn]
    rw [if_pos (by show (n : Int) < ((row w i).length : Int); omega), if_pos (by omega), if_pos (by show (n : Int) < ((row w i).length : Int); omega), if_pos (by omega), if_pos (by omega), Wn (by omega)]
    cases hd' : gb used n with
    | true =>
      rw [if_pos hd', Option.bind_some]
      obtain ⟨x', e, h1, h2⟩ := ih k (n + 1) x (by omega) (by omega) hx
      refine ⟨x', e, h1, fun r j hr hj => ?_⟩
      rw [h2 r j hr hj]
      by_cases e1 : j = n
      · subst e1
        rw [if_neg (by omega), if_neg (by rw [hd']; simp)]
      · have : (r = i ∧ n + 1 ≤ j ∧ j < m ∧ gb used j = false) ↔ (r = i ∧ n ≤ j ∧ j < m ∧ gb used j = false) := by
          constructor
          · rintro ⟨a, b, c⟩; exact ⟨a, by omega, c⟩
          · rintro ⟨a, b, c⟩; exact ⟨a, by omega, c⟩
        simp only [this]
    | false =>
      rw [if_neg (by show ¬ gb used n = true; rw [hd']; decide), if_pos (by omega), if_pos (by omega), if_pos (by omega), if_pos (by omega), Option.bind_some]
      have hkey : ∀ q, g (x.set (i * 12 + n) (we w i n)) q = if q = i * 12 + n then we w i n else g x q := fun q => gset (by omega) _ q
      obtain ⟨x', e, h1, h2⟩ := ih k (n + 1) (x.set (i * 12 + n) (we w i n)) (by omega) (by omega) (by rw [List.length_set]; exact hx)
      refine ⟨x', e, h1, fun r j hr hj => ?_⟩
      rw [h2 r j hr hj]
      show (if r = i ∧ n + 1 ≤ j ∧ j < m ∧ gb used j = false then we w i j else g (x.set (i * 12 + n) (we w i n)) (r * 12 + j)) = _
      rw [hkey]
      by_cases e1 : r = i ∧ j = n
      · obtain ⟨e2, e3⟩ := e1
        subst e2; subst e3
        rw [if_neg (by omega), if_pos rfl, if_pos ⟨rfl, Nat.le_refl _, by omega, hd'⟩]
      · rw [if_neg (c := r * 12 + j = i * 12 + n) (fun h3 => e1 ((cell_eq hj (by omega)).1 h3))]
        have : (r = i ∧ n + 1 ≤ j ∧ j < m ∧ gb used j = false) ↔ (r = i ∧ n ≤ j ∧ j < m ∧ gb used j = false) := by
          constructor
          · rintro ⟨a, b, c⟩; exact ⟨a, by omega, c⟩
          · rintro ⟨a, b, c⟩
            refine ⟨a, ?_, c⟩
            rcases Nat.lt_or_ge n j with h4 | h4
            · exact h4
            · exact absurd ⟨a, by omega⟩ e1
        simp only [this]
/-- The padded matrix: weights of the rows from 'first' on, at columns that aren't used. -/
abbrev pw (w : List (List Int)) (m first : Nat) (used : List Bool) (r j : Nat) : Int := if first ≤ r ∧ r < w.length ∧ j < m ∧ gb used j = false then we w r j else 0
theorem pad {w : List (List Int)} {m : Nat} (h : Vw w m) {used : List Bool} (hu : used.length = m) {first k : Nat} (hk : 50 ≤ k) (hf : first ≤ w.length) :
    ∃ b, assign_pad.f k w (first : Int) used = some b ∧ b.length = 144 ∧ ∀ r j, r < 12 → j < 12 → wt b r j = pw w m first used r j := by
  have hn := h.nr
  have hm := h.mr
  have key : ∀ (d k n : Nat) (x : List Int), d + n = w.length → d + 20 < k → x.length = 144 → ∃ x', assign_pad.l1 w used k x (n : Int) = some x' ∧ x'.length = 144 ∧ ∀ r j, r < 12 → j < 12 → wt x' r j = if n ≤ r ∧ r < w.length ∧ j < m ∧ gb used j = false then we w r j else wt x r j := by
    intro d
    induction d with
    | zero =>
      intro k n x hd hk hx
      obtain ⟨k, rfl⟩ : ∃ m, k = m + 1 := ⟨k - 1, by omega⟩
      refine ⟨x, ?_, hx, fun r j hr hj => ?_⟩
      · simp only [assign_pad.l1]
        rw [if_neg (by omega)]
      · rw [if_neg (by omega)]
    | succ d ih =>
      intro k n x hd hk hx
      obtain ⟨k, rfl⟩ : ∃ m, k = m + 1 := ⟨k - 1, by omega⟩
      obtain ⟨x1, e1, h1, h2⟩ := pad_row h hu (i := n) (by omega) m k 0 x (by omega) (by omega) hx
      obtain ⟨x', e, h3, h4⟩ := ih k (n + 1) x1 (by omega) (by omega) h1
      refine ⟨x', ?_, h3, fun r j hr hj => ?_⟩
      · simp only [assign_pad.l1]
        rw [if_pos (by omega), if_pos (by omega), if_pos (by omega), show assign_pad.l2 w used (n : Int) k x 0 = some x1 from e1]
        simp only [Option.bind_some, assign_pad.k3]
        rw [Wn (by omega)]
        exact e
      · rw [h4 r j hr hj, h2 r j hr hj]
        by_cases e2 : r = n
        · subst e2
          rw [if_neg (by omega)]
          by_cases e3 : j < m ∧ gb used j = false
          · rw [if_pos ⟨rfl, Nat.zero_le _, e3⟩, if_pos ⟨Nat.le_refl _, by omega, e3⟩]
          · rw [if_neg (fun h5 => e3 h5.2.2), if_neg (fun h5 => e3 h5.2.2)]
        · rw [if_neg (c := r = n ∧ _) (fun h5 => e2 h5.1)]
          have : (n + 1 ≤ r ∧ r < w.length ∧ j < m ∧ gb used j = false) ↔ (n ≤ r ∧ r < w.length ∧ j < m ∧ gb used j = false) := by
            constructor
            · rintro ⟨a, b⟩; exact ⟨by omega, b⟩
            · rintro ⟨a, b⟩; exact ⟨by omega, b⟩
          simp only [this]
  obtain ⟨b, e, h1, h2⟩ := key (w.length - first) k first (List.replicate 144 0) (by omega) (by omega) rfl
  refine ⟨b, ?_, h1, fun r j hr hj => ?_⟩
  · unfold assign_pad.f
    rw [e]
    rfl
  · rw [h2 r j hr hj]
    have : wt (List.replicate 144 0) r j = 0 := grep (by omega)
    rw [this]
/-! ### sums over permuted places -/
theorem sm_upd (f : Nat → Int) (a : Nat) (x : Int) : ∀ n, a < n → sm (fun j => if j = a then x else f j) n = sm f n - f a + x
  | n + 1, h => by
    simp only [sm]
    by_cases e : a = n
    · subst e
      rw [if_pos rfl, sm_congr (f := fun j => if j = a then x else f j) (h := f) a (fun j hj => if_neg (by omega))]
      omega
    · rw [sm_upd f a x n (by omega), if_neg (fun h => e h.symm)]
      omega
theorem sm_perm (u : Nat → Int) : ∀ (n : Nat) (ρ : Nat → Nat), (∀ j, j < n → ρ j < n) → (∀ j j', j < n → j' < n → ρ j = ρ j' → j = j') → sm (fun j => u (ρ j)) n = sm u n := by
  intro n
  induction n with
  | zero => intro _ _ _; rfl
  | succ n ih =>
    intro ρ h1 h2
    by_cases ha : ∃ a, a < n ∧ ρ a = n
    · obtain ⟨a, han, hρ⟩ := ha
      have hn : ρ n < n := by
        have h3 := h1 n (by omega)
        have : ρ n ≠ n := fun e => by have := h2 a n (by omega) (by omega) (by rw [hρ, e]); omega
        omega
      have h3 := ih (fun j => if j = a then ρ n else ρ j) (fun j hj => by
        show (if j = a then ρ n else ρ j) < n
        split
        · exact hn
        · rename_i e
          have h4 := h1 j (by omega)
          have : ρ j ≠ n := fun e2 => e (h2 j a (by omega) (by omega) (by rw [hρ, e2]))
          omega) (fun j j' hj hj' e => by
        have e' : (if j = a then ρ n else ρ j) = (if j' = a then ρ n else ρ j') := e
        by_cases e1 : j = a <;> by_cases e2 : j' = a
        · omega
        · rw [if_pos e1, if_neg e2] at e'
          have := h2 n j' (by omega) (by omega) e'
          omega
        · rw [if_neg e1, if_pos e2] at e'
          have := h2 j n (by omega) (by omega) e'
          omega
        · rw [if_neg e1, if_neg e2] at e'
          exact h2 j j' (by omega) (by omega) e')
      have h4 := sm_upd (fun j => u (ρ j)) a (u (ρ n)) n han
      have h5 : sm (fun j => u ((fun j => if j = a then ρ n else ρ j) j)) n = sm (fun j => if j = a then u (ρ n) else u (ρ j)) n := sm_congr n (fun j _ => by
        show u (if j = a then ρ n else ρ j) = _
        split <;> rfl)
      rw [h5, h4] at h3
      simp only [sm]
      have h6 : u (ρ a) = u n := by rw [hρ]
      have h7 : (fun j => u (ρ j)) a = u (ρ a) := rfl
      omega
    · have hlt : ∀ j, j < n → ρ j < n := fun j hj => by
        have h3 := h1 j (by omega)
        have : ρ j ≠ n := fun e => ha ⟨j, hj, e⟩
        omega
      have hn : ρ n = n := by
        rcases Nat.lt_or_ge (ρ n) n with h3 | h3
        · exfalso
          obtain ⟨a, c, h4, h5, h6⟩ := pigeon n ρ (fun j hj => by
            by_cases e : j = n
            · rw [e]; exact h3
            · exact hlt j (by omega))
          have := h2 a c (by omega) (by omega) h6
          omega
        · have := h1 n (by omega); omega
      simp only [sm]
      rw [hn, ih ρ hlt (fun j j' hj hj' e => h2 j j' (by omega) (by omega) e)]
/-- Some of the places, each at most once: no more than all. -/
theorem sm_part (v : Nat → Int) (m : Nat) : ∀ (n : Nat) (a : Nat → Int) (t : Nat → Bool), (∀ j, j < m → t j = true → 0 ≤ v j) → (∀ i, i < n → a i = -1 ∨ (0 ≤ a i ∧ a i < (m : Int) ∧ t (a i).toNat = true)) → (∀ i i', i < n → i' < n → 0 ≤ a i → a i = a i' → i = i') →
    sm (fun i => if a i = -1 then 0 else v (a i).toNat) n ≤ sm (fun j => if t j = true then v j else 0) m := by
  intro n
  induction n with
  | zero =>
    intro a t hv _ _
    have h1 : ∀ m', m' ≤ m → 0 ≤ sm (fun j => if t j = true then v j else 0) m' := by
      intro m'
      induction m' with
      | zero => intro _; exact Int.le_refl _
      | succ m' ih =>
        intro h
        have := ih (by omega)
        simp only [sm]
        split
        · rename_i e; have := hv m' (by omega) e; omega
        · omega
    exact h1 m (Nat.le_refl _)
  | succ n ih =>
    intro a t hv ha hinj
    simp only [sm]
    by_cases e : a n = -1
    · rw [if_pos e]
      have := ih a t hv (fun i hi => ha i (by omega)) (fun i i' hi hi' => hinj i i' (by omega) (by omega))
      omega
    · rw [if_neg e]
      have h1 := (ha n (by omega)).resolve_left e
      have h2 := ih a (fun j => if j = (a n).toNat then false else t j) (fun j hj h3 => by
        have h3' : (if j = (a n).toNat then false else t j) = true := h3
        split at h3'
        · cases h3'
        · exact hv j hj h3') (fun i hi => by
        rcases ha i (by omega) with h3 | ⟨h3, h4, h5⟩
        · exact .inl h3
        · refine .inr ⟨h3, h4, ?_⟩
          show (if (a i).toNat = (a n).toNat then false else t (a i).toNat) = true
          rw [if_neg (fun h6 => by have := hinj i n (by omega) (by omega) h3 (by omega); omega)]
          exact h5) (fun i i' hi hi' => hinj i i' (by omega) (by omega))
      have h3 := sm_upd (fun j => if t j = true then v j else 0) (a n).toNat 0 m (by omega)
      have h4 : sm (fun j => if (if j = (a n).toNat then false else t j) = true then v j else 0) m = sm (fun j => if j = (a n).toNat then 0 else if t j = true then v j else 0) m := sm_congr m (fun j _ => by
        by_cases e2 : j = (a n).toNat
        · simp [e2]
        · simp [e2])
      rw [h4, h3] at h2
      have h5 : (if t (a n).toNat = true then v (a n).toNat else 0) = v (a n).toNat := if_pos h1.2.2
      omega
end Go.Proofs.Ytdmhbcgmimfjcaa.hun
namespace Go.Proofs.Ytdmhbcgmimfjcaa.hun
open Go Go.Proofs.Ytdmhbcgmimfjcaa Go.Proofs.Ytdmhbcgmimfjcaa.RW
set_option linter.unusedVariables false
set_option maxRecDepth 100000
set_option maxHeartbeats 4000000
/-- An assignment of rows from 'first' on to columns that aren't used. -/
structure IsA (w : List (List Int)) (m first : Nat) (used : Nat → Bool) (a : Nat → Int) : Prop where
  rg : ∀ i, i < w.length → a i = -1 ∨ (first ≤ i ∧ 0 ≤ a i ∧ a i < (m : Int) ∧ used (a i).toNat = false)
  inj : ∀ i i', i < w.length → i' < w.length → 0 ≤ a i → a i = a i' → i = i'
def val (w : List (List Int)) (a : Nat → Int) : Int := sm (fun i => if a i = -1 then 0 else we w i (a i).toNat) w.length
/-- The best value of such assignments. -/
def Opt (w : List (List Int)) (m first : Nat) (used : Nat → Bool) (V : Int) : Prop := (∀ a, IsA w m first used a → val w a ≤ V) ∧ ∃ a, IsA w m first used a ∧ val w a = V
theorem Opt.uniq {w : List (List Int)} {m first : Nat} {used : Nat → Bool} {V V' : Int} (h : Opt w m first used V) (h' : Opt w m first used V') : V = V' := by
  obtain ⟨a, h1, h2⟩ := h.2
  obtain ⟨a', h3, h4⟩ := h'.2
  have h5 := h.1 a' h3
  have h6 := h'.1 a h1
  omega
theorem Opt.congr {w : List (List Int)} {m first : Nat} {used used' : Nat → Bool} {V : Int} (e : ∀ j, j < m → used j = used' j) (h : Opt w m first used V) : Opt w m first used' V := by
  have key : ∀ {t t' : Nat → Bool}, (∀ j, j < m → t j = t' j) → ∀ a, IsA w m first t a → IsA w m first t' a := fun e a h => ⟨fun i hi => (h.rg i hi).imp id (fun ⟨h1, h2, h3, h4⟩ => ⟨h1, h2, h3, by rw [← e _ (by omega)]; exact h4⟩), h.inj⟩
  exact ⟨fun a ha => h.1 a (key (fun j hj => (e j hj).symm) a ha), h.2.elim fun a ha => ⟨a, key e a ha.1, ha.2⟩⟩
theorem sm_mono {f : Nat → Int} : ∀ (n' n : Nat), n ≤ n' → (∀ j, n ≤ j → j < n' → 0 ≤ f j) → sm f n ≤ sm f n'
  | 0, n, h, _ => by
    obtain rfl : n = 0 := by omega
    exact Int.le_refl _
  | n' + 1, n, h, hf => by
    by_cases e : n = n' + 1
    · rw [e]; exact Int.le_refl _
    · have h1 := sm_mono n' n (by omega) (fun j h2 h3 => hf j h2 (by omega))
      have h2 := hf n' (by omega) (by omega)
      simp only [sm]; omega
/-- Weak duality. -/
theorem weak {w : List (List Int)} {m first : Nat} {used : Nat → Bool} {a U D : Nat → Int} (ha : IsA w m first used a) (hU : ∀ i, i < w.length → 0 ≤ U i) (hD : ∀ j, j < m → 0 ≤ D j) (hf : ∀ i j, first ≤ i → i < w.length → j < m → used j = false → we w i j ≤ U i + D j) : val w a ≤ sm U w.length + sm D m := by
  have h1 : val w a ≤ sm (fun i => U i + (if a i = -1 then 0 else D (a i).toNat)) w.length := by
    refine sm_le _ (fun i hi => ?_)
    have h2 := hU i hi
    by_cases e : a i = -1
    · simp only [e, if_pos]; omega
    · rw [if_neg e, if_neg e]
      obtain ⟨h3, h4, h5, h6⟩ := (ha.rg i hi).resolve_left e
      exact hf i _ h3 hi (by omega) h6
  rw [sm_add] at h1
  have h2 := sm_part D m w.length a (fun _ => true) (fun j hj _ => hD j hj) (fun i hi => (ha.rg i hi).imp id (fun h => ⟨h.2.1, h.2.2.1, rfl⟩)) ha.inj
  have h3 : sm (fun j => if true = true then D j else 0) m = sm D m := sm_congr m (fun j _ => if_pos rfl)
  omega
theorem min12 (v : Nat → Int) : ∀ n, 0 < n → ∃ j0, j0 < n ∧ ∀ j, j < n → v j0 ≤ v j
  | n + 1, _ => by
    by_cases e : n = 0
    · refine ⟨0, by omega, fun j hj => ?_⟩
      obtain rfl : j = 0 := by omega
      exact Int.le_refl _
    · obtain ⟨j0, h1, h2⟩ := min12 v n (by omega)
      by_cases h : v n < v j0
      · refine ⟨n, by omega, fun j hj => ?_⟩
        by_cases e2 : j = n
        · subst e2; exact Int.le_refl _
        · have := h2 j (by omega); omega
      · refine ⟨j0, by omega, fun j hj => ?_⟩
        by_cases e2 : j = n
        · rw [e2]; omega
        · exact h2 j (by omega)
theorem sm_const (c : Int) : ∀ n, sm (fun _ => c) n = n * c
  | 0 => by simp [sm]
  | n + 1 => by simp only [sm]; rw [sm_const c n, mul_succ]
section
variable {w : List (List Int)} {m first : Nat} {used : List Bool} {b : List Int} {s : S58}
/-- What the search leaves, as numbers: potentials that are feasible and tight. -/
theorem tight_sum (mt : Mt 12 s.f0) (pt : Pt 1073741824 12 b s.f0 s.f1 s.f2) : sm (fun j => wt b (g s.f0 j).toNat j) 12 = sm (g s.f1) 12 + sm (g s.f2) 12 ∧ ∀ j, j < 12 → 0 ≤ g s.f0 j ∧ g s.f0 j < 12 := by
  have hall : ∀ j, j < 12 → 0 ≤ g s.f0 j ∧ g s.f0 j < 12 := fun j hj => by
    rcases mt.rng j hj with h | h
    · exfalso
      have hch : ∀ (r : Nat), r < 12 → ∃ c, c < 12 ∧ g s.f0 c = (r : Int) := mt.onto
      have hex : ∃ f : Nat → Nat, ∀ (r : Nat), r < 12 → f r < 12 ∧ g s.f0 (f r) = (r : Int) := ⟨fun r => if h : r < 12 then (hch r h).choose else 0, fun r hr => by simp only [hr, dif_pos]; exact (hch r hr).choose_spec⟩
      obtain ⟨f, hf⟩ := hex
      obtain ⟨a, c, h1, h2, h3⟩ := pigeon 11 (fun r => if f r < j then f r else f r - 1) (fun r hr => by
        have h4 := hf r (by omega)
        have h5 : f r ≠ j := fun e2 => by rw [e2, h] at h4; omega
        show (if f r < j then f r else f r - 1) < 11
        split <;> omega)
      have h4 := hf a (by omega)
      have h5 := hf c (by omega)
      have h6 : f a ≠ j := fun e2 => by rw [e2, h] at h4; omega
      have h7 : f c ≠ j := fun e2 => by rw [e2, h] at h5; omega
      have h8 : f a = f c := by
        have h3' : (if f a < j then f a else f a - 1) = (if f c < j then f c else f c - 1) := h3
        split at h3' <;> split at h3' <;> omega
      rw [h8] at h4
      omega
    · exact h
  refine ⟨?_, hall⟩
  have h1 : sm (fun j => wt b (g s.f0 j).toNat j) 12 = sm (fun j => g s.f1 (g s.f0 j).toNat + g s.f2 j) 12 := sm_congr 12 (fun j hj => by
    have h2 := hall j hj
    have h3 := pt.tight j (g s.f0 j).toNat hj (by omega)
    have h4 : red b s.f1 s.f2 (g s.f0 j).toNat j = g s.f1 (g s.f0 j).toNat + g s.f2 j - wt b (g s.f0 j).toNat j := rfl
    omega)
  rw [h1, sm_add (fun j => g s.f1 (g s.f0 j).toNat), sm_perm (g s.f1) 12 (fun j => (g s.f0 j).toNat) (fun j hj => by have := hall j hj; show (g s.f0 j).toNat < 12; omega) (fun j j' hj hj' e => by
    have h2 := hall j hj
    have h3 := hall j' hj'
    have e' : (g s.f0 j).toNat = (g s.f0 j').toNat := e
    exact mt.inj j j' hj hj' h2.1 (by omega))]
/-- The matching is best, and its potentials show it. -/
theorem found (h : Vw w m) (hu : used.length = m) (hb : ∀ r j, r < 12 → j < 12 → wt b r j = pw w m first used r j) (mt : Mt 12 s.f0) (pt : Pt 1073741824 12 b s.f0 s.f1 s.f2) {t : Int} (ht : ∃ j0, j0 < 12 ∧ g s.f2 j0 = t) (htm : ∀ j, j < 12 → t ≤ g s.f2 j) :
    Opt w m first (gb used) (sm (fun j => wt b (g s.f0 j).toNat j) 12) ∧ (∀ i, i < 12 → 0 ≤ g s.f1 i + t) ∧ (∀ i j, i < 12 → j < 12 → wt b i j ≤ (g s.f1 i + t) + (g s.f2 j - t)) ∧
      sm (fun i => g s.f1 i + t) w.length + sm (fun j => g s.f2 j - t) m = sm (fun j => wt b (g s.f0 j).toNat j) 12 := by
  have hn := h.nr
  have hm := h.mr
  obtain ⟨hsum, hall⟩ := tight_sum mt pt
  have hpos : ∀ r j, r < 12 → j < 12 → 0 ≤ wt b r j := fun r j hr hj => by
    rw [hb r j hr hj]
    by_cases e : first ≤ r ∧ r < w.length ∧ j < m ∧ gb used j = false
    · rw [show pw w m first used r j = we w r j from if_pos e]; exact (h.eb r j e.2.1 e.2.2.1).1
    · rw [show pw w m first used r j = 0 from if_neg e]; exact Int.le_refl _
  have hfe : ∀ i j, i < 12 → j < 12 → wt b i j ≤ (g s.f1 i + t) + (g s.f2 j - t) := fun i j hi hj => by
    have h1 := pt.feas i j hi hj
    have h2 : red b s.f1 s.f2 i j = g s.f1 i + g s.f2 j - wt b i j := rfl
    omega
  have hU : ∀ i, i < 12 → 0 ≤ g s.f1 i + t := fun i hi => by
    obtain ⟨j0, h1, h2⟩ := ht
    have h3 := hfe i j0 hi h1
    have h4 := hpos i j0 hi h1
    omega
  have hD : ∀ j, j < 12 → 0 ≤ g s.f2 j - t := fun j hj => by have := htm j hj; omega
  have htot : sm (fun i => g s.f1 i + t) 12 + sm (fun j => g s.f2 j - t) 12 = sm (g s.f1) 12 + sm (g s.f2) 12 := by
    have e1 := sm_add (g s.f1) (fun _ => t) 12
    have e2 := sm_add (g s.f2) (fun _ => -t) 12
    have e3 : sm (fun j => g s.f2 j - t) 12 = sm (fun j => g s.f2 j + -t) 12 := sm_congr 12 (fun j _ => by omega)
    rw [sm_const] at e1 e2
    rw [e3]
    omega
  have hbound : ∀ a, IsA w m first (gb used) a → val w a ≤ sm (fun i => g s.f1 i + t) w.length + sm (fun j => g s.f2 j - t) m := fun a ha =>
    weak ha (fun i hi => hU i (by omega)) (fun j hj => hD j (by omega)) (fun i j h1 h2 h3 h4 => by
      have h5 := hfe i j (by omega) (by omega)
      have h6 : wt b i j = we w i j := by rw [hb i j (by omega) (by omega)]; exact if_pos ⟨h1, h2, h3, h4⟩
      omega)
  have hle : sm (fun i => g s.f1 i + t) w.length + sm (fun j => g s.f2 j - t) m ≤ sm (fun j => wt b (g s.f0 j).toNat j) 12 := by
    have h1 := sm_mono (f := fun i => g s.f1 i + t) 12 w.length hn (fun j _ hj => hU j hj)
    have h2 := sm_mono (f := fun j => g s.f2 j - t) 12 m hm (fun j _ hj => hD j hj)
    omega
  -- the matching as an assignment
  have hch : ∀ (r : Nat), r < 12 → ∃ c, c < 12 ∧ g s.f0 c = (r : Int) := mt.onto
  obtain ⟨c, hc⟩ : ∃ c : Nat → Nat, ∀ (r : Nat), r < 12 → c r < 12 ∧ g s.f0 (c r) = (r : Int) := ⟨fun r => if h : r < 12 then (hch r h).choose else 0, fun r hr => by simp only [hr, dif_pos]; exact (hch r hr).choose_spec⟩
  have hcinj : ∀ i i', i < 12 → i' < 12 → c i = c i' → i = i' := fun i i' hi hi' e => by
    have h1 := (hc i hi).2
    have h2 := (hc i' hi').2
    rw [e, h2] at h1
    omega
  have hA : IsA w m first (gb used) (fun i => if first ≤ i ∧ c i < m ∧ gb used (c i) = false then (c i : Int) else -1) := by
    refine ⟨fun i hi => ?_, fun i i' hi hi' h0 he => ?_⟩
    · show (if _ then (c i : Int) else -1) = -1 ∨ _
      by_cases e : first ≤ i ∧ c i < m ∧ gb used (c i) = false
      · rw [if_pos e]
        exact .inr ⟨e.1, by omega, by omega, by rw [tn]; exact e.2.2⟩
      · rw [if_neg e]; exact .inl rfl
    · have h0' : 0 ≤ (if first ≤ i ∧ c i < m ∧ gb used (c i) = false then (c i : Int) else -1) := h0
      have he' : (if first ≤ i ∧ c i < m ∧ gb used (c i) = false then (c i : Int) else -1) = (if first ≤ i' ∧ c i' < m ∧ gb used (c i') = false then (c i' : Int) else -1) := he
      split at h0'
      · rw [if_pos (by assumption)] at he'
        split at he'
        · exact hcinj i i' (by omega) (by omega) (by omega)
        · omega
      · omega
  have hval : val w (fun i => if first ≤ i ∧ c i < m ∧ gb used (c i) = false then (c i : Int) else -1) = sm (fun j => wt b (g s.f0 j).toNat j) 12 := by
    have e1 : val w (fun i => if first ≤ i ∧ c i < m ∧ gb used (c i) = false then (c i : Int) else -1) = sm (fun i => wt b i (c i)) w.length := by
      refine sm_congr _ (fun i hi => ?_)
      have h1 := hc i (by omega)
      rw [hb i (c i) (by omega) h1.1]
      show (if (if first ≤ i ∧ c i < m ∧ gb used (c i) = false then (c i : Int) else -1) = -1 then 0 else we w i (if first ≤ i ∧ c i < m ∧ gb used (c i) = false then (c i : Int) else -1).toNat) = if first ≤ i ∧ i < w.length ∧ c i < m ∧ gb used (c i) = false then we w i (c i) else 0
      by_cases e : first ≤ i ∧ c i < m ∧ gb used (c i) = false
      · rw [if_pos e, if_neg (by omega), tn, if_pos ⟨e.1, hi, e.2⟩]
      · rw [if_neg e, if_pos rfl, if_neg (fun h2 => e ⟨h2.1, h2.2.2⟩)]
    have e2 : sm (fun i => wt b i (c i)) w.length = sm (fun i => wt b i (c i)) 12 := by
      have h1 := sm_mono (f := fun i => wt b i (c i)) 12 w.length hn (fun j _ hj => hpos j _ hj (hc j hj).1)
      have h2 := sm_mono (f := fun i => - wt b i (c i)) 12 w.length hn (fun j hj1 hj => by
        have : wt b j (c j) = 0 := by
          rw [hb j (c j) hj (hc j hj).1]
          exact if_neg (by omega)
        show 0 ≤ - wt b j (c j)
        omega)
      have h3 : ∀ n, sm (fun i => - wt b i (c i)) n = - sm (fun i => wt b i (c i)) n := by
        intro n
        induction n with
        | zero => rfl
        | succ n ih => simp only [sm]; rw [ih]; omega
      rw [h3, h3] at h2
      omega
    rw [e1, e2]
    have h3 := sm_perm (fun j => wt b (g s.f0 j).toNat j) 12 c (fun j hj => (hc j hj).1) (fun j j' hj hj' e => hcinj j j' hj hj' e)
    rw [← h3]
    exact sm_congr 12 (fun i hi => by
      show wt b i (c i) = wt b (g s.f0 (c i)).toNat (c i)
      rw [(hc i hi).2, tn])
  have hge := hbound _ hA
  rw [hval] at hge
  refine ⟨⟨fun a ha => Int.le_trans (hbound a ha) hle, _, hA, hval⟩, hU, hfe, by omega⟩
end
end Go.Proofs.Ytdmhbcgmimfjcaa.hun
namespace Go.Proofs.Ytdmhbcgmimfjcaa
open Go Go.Proofs.Ytdmhbcgmimfjcaa.RW
set_option linter.unusedVariables false
set_option maxRecDepth 100000
set_option maxHeartbeats 8000000

/-! ### assign_columns: function 29, armillary/assign.columns -/
noncomputable def K29_0 : Code := cBody Try.f29
noncomputable def K29_1 : Code := cL K29_0
noncomputable def O29_1 : List Oper := cOps K29_1
noncomputable def K29_3 : Code := cR K29_0
noncomputable def K29_4 : Code := cL K29_3
noncomputable def K29_5 : Code := cL K29_4
noncomputable def O29_5 : List Oper := cOps K29_5
noncomputable def K29_7 : Code := cR K29_4
noncomputable def K29_8 : Code := cL K29_7
noncomputable def K29_9 : Code := cL K29_8
noncomputable def O29_9 : List Oper := cOps K29_9
noncomputable def K29_11 : Code := cR K29_8
noncomputable def K29_12 : Code := cR K29_7
noncomputable def K29_13 : Code := cR K29_3
noncomputable def K29_14 : Code := cL K29_13
noncomputable def O29_14 : List Oper := cOps K29_14
noncomputable def K29_16 : Code := cR K29_13
def assign_columns.f (a0 : List (List Int)) : Option (Int) := (if (a0.length : Int) = 0 then (some 0) else (if 0 < (a0.length : Int) then (some ((a0.getD (0 : Int).toNat []).length : Int)) else none))
def assign_columns.Post (I : Imm) (w : World) (r : Int) (v : Value) (w' : World) : Prop :=
 ∃ (J : Imm), v = .int .i64 r ∧ Got w w' I J []
theorem assign_columns.calls (I0 : Imm) (a0 : List (List Int)) (Ap0 : Option Addr) (cp0 : Nat) (w : World) (hI : I0.at_ w) (hlp0 : a0.length ≤ cp0) (hrp0 : Rd (Ty.slice (Ty.int .i64)) I0 Ap0 a0) (r : Int) (h : assign_columns.f a0 = some r) :
  Calls Try.prog 29 [.slice Ap0 a0.length cp0].toArray w fun e w' => ∃ v, e = .returned v ∧ assign_columns.Post I0 w r v w' := by
 have H : (if (a0.length : Int) = 0 then (some 0) else (if 0 < (a0.length : Int) then (some ((a0.getD (0 : Int).toNat []).length : Int)) else none)) = some r := h
 clear h
 refine calls_body Try.func29 (by kernel_rfl) 10 (by kernel_rfl) (by kernel_rfl) ⟨w, fun _ => False, I0⟩ I0 [] [(0, .slice Ap0 a0.length cp0)] (by kernel_rfl) (Sat.start w _ I0 hI) ?_
 generalize w.heap.size = nx0
 show OK _ K29_0 _ _ _ _ _ _ _ _
 refine OK.seq K29_1 K29_3 (by kernel_rfl) ?_
 refine OK.region 0 O29_1 (by kernel_rfl) ?_
 refine RL.simK (K' := [(0, .slice Ap0 a0.length cp0)]) [] (RFacts.nil _ _ _) 1 [.no] (by kernel_rfl) (by kernel_rfl) ?_
 refine RL.nil (by kernel_rfl) ?_
 refine QN.then_ ?_
 refine OK.seq K29_4 K29_13 (by kernel_rfl) ?_
 refine OK.seq K29_5 K29_7 (by kernel_rfl) ?_
 refine OK.region 1 O29_5 (by kernel_rfl) ?_
 refine RL.simK (K' := [(5, .bool ((a0.length : Int) == 0)), (0, .slice Ap0 a0.length cp0)]) [] (RFacts.nil _ _ _) 3 [.no, .no, .no] (by kernel_rfl) (by kernel_rfl) ?_
 refine RL.nil (by kernel_rfl) ?_
 refine QN.then_ ?_
 refine OK.cond (.tmp 5) K29_8 K29_12 ((a0.length : Int) == 0) (by kernel_rfl) (by kernel_rfl) (by kernel_rfl) (fun hb => ?_) (fun hb => ?_)
 ·skip
  have hc := (beq_iff_eq.1 hb)
  rw [if_pos hc] at H
  clear hb
  refine OK.seq K29_9 K29_11 (by kernel_rfl) ?_
  refine OK.region 2 O29_9 (by kernel_rfl) ?_
  refine RL.simK (K' := [(2, .int .i64 0)]) [] (RFacts.nil _ _ _) 1 [.no] (by kernel_rfl) (by kernel_rfl) ?_
  refine RL.nil (by kernel_rfl) ?_
  refine QN.then_ ?_
  refine OK.ret (by kernel_rfl) ?_
  refine QN.thenR ?_
  obtain rfl := Option.some.inj H
  refine QN.body rfl [] (RFacts.nil _ _ _) (.no) (.int .i64 0) (by kernel_rfl) (by kernel_rfl) (by kernel_rfl) ?_ _ (.inr rfl)
  exact fun w' hs' => ⟨_, rfl, I0, rfl, hs'.got _ .slnil⟩
 ·skip
  have hc := (beq_eq_false_iff_ne.1 hb)
  rw [if_neg hc] at H
  clear hb
  refine OK.skip (by kernel_rfl) ?_
  refine QN.then_ ?_
  refine OK.seq K29_14 K29_16 (by kernel_rfl) ?_
  refine OK.region 3 O29_14 (by kernel_rfl) ?_
  refine RL.simK (K' := [(6, .slice Ap0 a0.length cp0)]) [] (RFacts.nil _ _ _) 1 [.no] (by kernel_rfl) (by kernel_rfl) ?_
  have hib0 : (0 : Int) ≤ 0 := by decide
  by_cases hib1 : 0 < (a0.length : Int)
  case neg => rw [if_neg hib1] at H; cases H
  rw [if_pos hib1] at H
  obtain ⟨g1_, o1_, hA1_, A1_, c1_, hl1_, hr1_, hc1_⟩ := Ty.slice_at hrp0 0 hib0 hib1
  refine RL.idx 1 .i64 0 hA1_ a0.length cp0 (some 7) (by kernel_rfl) (by kernel_rfl) (T := 22) (e := 24) (by kernel_rfl) (by kernel_rfl) hib0 hib1 (K' := [(7, .pointer (some ⟨g1_, o1_ + (0 : Int).toNat * 1, none⟩)), (6, .slice Ap0 a0.length cp0)]) (by kernel_rfl) ?_
  refine RL.simK (K' := [(2, .int .i64 ((a0.getD (0 : Int).toNat []).length : Int))]) [(⟨g1_, o1_ + (0 : Int).toNat * 1, none⟩, .slice A1_ ((a0.getD (0 : Int).toNat []).length) c1_)] (RFacts.imm (hc1_ 0 _ rfl) (RFacts.nil _ _ _)) 3 [.r 0, .no, .no] (by kernel_rfl) (by kernel_rfl) ?_
  refine RL.nil (by kernel_rfl) ?_
  refine QN.then_ ?_
  refine OK.ret (by kernel_rfl) ?_
  obtain rfl := Option.some.inj H
  refine QN.body rfl [] (RFacts.nil _ _ _) (.no) (.int .i64 ((a0.getD (0 : Int).toNat []).length : Int)) (by kernel_rfl) (by kernel_rfl) (by kernel_rfl) ?_ _ (.inr rfl)
  exact fun w' hs' => ⟨_, rfl, I0, rfl, hs'.got _ .slnil⟩

end Go.Proofs.Ytdmhbcgmimfjcaa
namespace Go.Proofs.Ytdmhbcgmimfjcaa
open Go Go.Proofs.Ytdmhbcgmimfjcaa.RW
set_option linter.unusedVariables false
set_option maxRecDepth 100000
set_option maxHeartbeats 8000000

/-! ### slices_Min_int64_int64: function 38, slices.Min[[]int64,int64] -/
noncomputable def K38_0 : Code := cBody Try.f38
noncomputable def K38_1 : Code := cL K38_0
noncomputable def O38_1 : List Oper := cOps K38_1
noncomputable def K38_3 : Code := cR K38_0
noncomputable def K38_4 : Code := cL K38_3
noncomputable def K38_5 : Code := cL K38_4
noncomputable def O38_5 : List Oper := cOps K38_5
noncomputable def K38_7 : Code := cR K38_4
noncomputable def K38_8 : Code := cL K38_7
noncomputable def O38_8 : List Oper := cOps K38_8
noncomputable def K38_10 : Code := cR K38_7
noncomputable def K38_11 : Code := cR K38_3
noncomputable def K38_12 : Code := cL K38_11
noncomputable def O38_12 : List Oper := cOps K38_12
noncomputable def K38_14 : Code := cR K38_11
noncomputable def K38_15 : Code := cL K38_14
noncomputable def K38_16 : Code := cL K38_15
noncomputable def O38_16 : List Oper := cOps K38_16
noncomputable def K38_18 : Code := cR K38_15
noncomputable def K38_19 : Code := cL K38_18
noncomputable def K38_20 : Code := cL K38_19
noncomputable def K38_21 : Code := cL K38_20
noncomputable def K38_22 : Code := cL K38_21
noncomputable def O38_22 : List Oper := cOps K38_22
noncomputable def K38_24 : Code := cR K38_21
noncomputable def K38_25 : Code := cL K38_24
noncomputable def K38_26 : Code := cR K38_24
noncomputable def K38_27 : Code := cR K38_20
noncomputable def K38_28 : Code := cL K38_27
noncomputable def K38_29 : Code := cL K38_28
noncomputable def O38_29 : List Oper := cOps K38_29
noncomputable def K38_31 : Code := cR K38_27
noncomputable def O38_31 : List Oper := cOps K38_31
noncomputable def K38_33 : Code := cR K38_14
noncomputable def K38_34 : Code := cL K38_33
noncomputable def O38_34 : List Oper := cOps K38_34
noncomputable def K38_36 : Code := cR K38_33
def slices_Min_int64_int64.k1  (x1 : Int) : Option (Int) := (some x1)
def slices_Min_int64_int64.l1 (a0 : List Int) : Nat → Int → Int → Option (Int)
 | 0, _, _ => none
 | k + 1, x2, x3 => (if x3 < (a0.length : Int) then (if 0 ≤ x3 then (if x3 < (a0.length : Int) then (slices_Min_int64_int64.l1 a0 k (iMin x2 (a0.getD (x3).toNat 0)) (W .i64 (x3 + 1))) else none) else none) else (some x2))
def slices_Min_int64_int64.f (k : Nat) (a0 : List Int) : Option (Int) := (if (a0.length : Int) < 1 then none else (if 0 < (a0.length : Int) then ((slices_Min_int64_int64.l1 a0 k (a0.getD (0 : Int).toNat 0) 1).bind (slices_Min_int64_int64.k1)) else none))
def slices_Min_int64_int64.Post (I : Imm) (w : World) (r : Int) (v : Value) (w' : World) : Prop :=
 ∃ (J : Imm), v = .int .i64 r ∧ Got w w' I J []
theorem slices_Min_int64_int64.calls (k : Nat) (I0 : Imm) (a0 : List Int) (Ap0 : Option Addr) (cp0 : Nat) (w : World) (hI : I0.at_ w) (hlp0 : a0.length ≤ cp0) (hrp0 : Rd (Ty.int .i64) I0 Ap0 a0) (r : Int) (h : slices_Min_int64_int64.f k a0 = some r) :
  Calls Try.prog 38 [.slice Ap0 a0.length cp0].toArray w fun e w' => ∃ v, e = .returned v ∧ slices_Min_int64_int64.Post I0 w r v w' := by
 have H : (if (a0.length : Int) < 1 then none else (if 0 < (a0.length : Int) then ((slices_Min_int64_int64.l1 a0 k (a0.getD (0 : Int).toNat 0) 1).bind (slices_Min_int64_int64.k1)) else none)) = some r := h
 clear h
 refine calls_body Try.func38 (by kernel_rfl) 25 (by kernel_rfl) (by kernel_rfl) ⟨w, fun _ => False, I0⟩ I0 [] [(0, .slice Ap0 a0.length cp0)] (by kernel_rfl) (Sat.start w _ I0 hI) ?_
 generalize w.heap.size = nx0
 show OK _ K38_0 _ _ _ _ _ _ _ _
 refine OK.seq K38_1 K38_3 (by kernel_rfl) ?_
 refine OK.region 0 O38_1 (by kernel_rfl) ?_
 refine RL.simK (K' := [(0, .slice Ap0 a0.length cp0)]) [] (RFacts.nil _ _ _) 1 [.no] (by kernel_rfl) (by kernel_rfl) ?_
 refine RL.nil (by kernel_rfl) ?_
 refine QN.then_ ?_
 refine OK.seq K38_4 K38_11 (by kernel_rfl) ?_
 refine OK.seq K38_5 K38_7 (by kernel_rfl) ?_
 refine OK.region 1 O38_5 (by kernel_rfl) ?_
 refine RL.simK (K' := [(7, .bool (decide ((a0.length : Int) < 1))), (0, .slice Ap0 a0.length cp0)]) [] (RFacts.nil _ _ _) 3 [.no, .no, .no] (by kernel_rfl) (by kernel_rfl) ?_
 refine RL.nil (by kernel_rfl) ?_
 refine QN.then_ ?_
 refine OK.cond (.tmp 7) K38_8 K38_10 (decide ((a0.length : Int) < 1)) (by kernel_rfl) (by kernel_rfl) (by kernel_rfl) (fun hb => ?_) (fun hb => ?_)
 ·skip
  have hc := (of_decide_eq_true hb)
  rw [if_pos hc] at H
  clear hb
  refine OK.region 2 O38_8 (by kernel_rfl) ?_
  cases H
 ·skip
  have hc := (of_decide_eq_false hb)
  rw [if_neg hc] at H
  clear hb
  refine OK.skip (by kernel_rfl) ?_
  refine QN.then_ ?_
  refine OK.seq K38_12 K38_14 (by kernel_rfl) ?_
  refine OK.region 3 O38_12 (by kernel_rfl) ?_
  refine RL.simK (K' := [(9, .slice Ap0 a0.length cp0), (0, .slice Ap0 a0.length cp0)]) [] (RFacts.nil _ _ _) 1 [.no] (by kernel_rfl) (by kernel_rfl) ?_
  have hib0 : (0 : Int) ≤ 0 := by decide
  by_cases hib1 : 0 < (a0.length : Int)
  case neg => rw [if_neg hib1] at H; cases H
  rw [if_pos hib1] at H
  obtain ⟨g1_, o1_, hA1_, hc1_⟩ := Ty.int_at hrp0 0 hib0 hib1
  refine RL.idx 1 .i64 0 hA1_ a0.length cp0 (some 10) (by kernel_rfl) (by kernel_rfl) (T := 24) (e := 2) (by kernel_rfl) (by kernel_rfl) hib0 hib1 (K' := [(10, .pointer (some ⟨g1_, o1_ + (0 : Int).toNat * 1, none⟩)), (9, .slice Ap0 a0.length cp0), (0, .slice Ap0 a0.length cp0)]) (by kernel_rfl) ?_
  refine RL.simK (K' := [(3, .int .i64 (a0.getD (0 : Int).toNat 0)), (0, .slice Ap0 a0.length cp0)]) [(⟨g1_, o1_ + (0 : Int).toNat * 1, none⟩, .int .i64 (a0.getD (0 : Int).toNat 0))] (RFacts.imm (hc1_ 0 _ rfl) (RFacts.nil _ _ _)) 2 [.r 0, .no] (by kernel_rfl) (by kernel_rfl) ?_
  refine RL.nil (by kernel_rfl) ?_
  refine QN.then_ ?_
  refine OK.seq K38_15 K38_33 (by kernel_rfl) ?_
  refine OK.seq K38_16 K38_18 (by kernel_rfl) ?_
  refine OK.region 4 O38_16 (by kernel_rfl) ?_
  refine RL.simK (K' := [(4, .int .i64 1), (3, .int .i64 (a0.getD (0 : Int).toNat 0)), (0, .slice Ap0 a0.length cp0)]) [] (RFacts.nil _ _ _) 1 [.no] (by kernel_rfl) (by kernel_rfl) ?_
  refine RL.nil (by kernel_rfl) ?_
  refine QN.then_ ?_
  refine OK.join (fun K' I' _ L' X' => ∃ (x1 : Int), K' = [(3, .int .i64 x1)] ∧ L' = [] ∧ X' = [] ∧ Imm.le I0 I' ∧ slices_Min_int64_int64.k1 x1 = some r) ?_ ?_
  ·rintro _ I1 nx1 _ _ ⟨x1, rfl, rfl, rfl, hi1, H⟩
   replace H : (some x1) = some r := H
   refine QN.then_ ?_
   refine OK.seq K38_34 K38_36 (by kernel_rfl) ?_
   refine OK.region 8 O38_34 (by kernel_rfl) ?_
   refine RL.simK (K' := [(2, .int .i64 x1)]) [] (RFacts.nil _ _ _) 2 [.no, .no] (by kernel_rfl) (by kernel_rfl) ?_
   refine RL.nil (by kernel_rfl) ?_
   refine QN.then_ ?_
   refine OK.ret (by kernel_rfl) ?_
   obtain rfl := Option.some.inj H
   refine QN.body rfl [] (RFacts.nil _ _ _) (.no) (.int .i64 x1) (by kernel_rfl) (by kernel_rfl) (by kernel_rfl) ?_ _ (.inr rfl)
   exact fun w' hs' => ⟨_, rfl, I1, rfl, hs'.got _ .slnil⟩
  ·intro Q_1 hJ1 hQ1
   obtain ⟨y1, H, HK1⟩ := Option.bind_eq_some_iff.mp H
   refine OK.block 0 K38_19 (by kernel_rfl) ?_
   refine OK.sub (K' := [(0, .slice Ap0 a0.length cp0), (3, .int .i64 (a0.getD (0 : Int).toNat 0)), (4, .int .i64 1)]) (L' := []) (by kernel_rfl) .slnil (.refl _) ?_
   refine OK.loopInv K38_20 (by kernel_rfl) (fun n_ K' I' _ L' X' => ∃ (x2 : Int) (x3 : Int), K' = [(0, .slice Ap0 a0.length cp0), (3, .int .i64 x2), (4, .int .i64 x3)] ∧ L' = [] ∧ X' = [] ∧ Imm.le I0 I' ∧ slices_Min_int64_int64.l1 a0 n_ x2 x3 = some y1) k ⟨(a0.getD (0 : Int).toNat 0), 1, rfl, rfl, rfl, (Imm.le_refl _), H⟩ ?_ ?_
   ·rintro _ _ _ _ _ ⟨x2, x3, rfl, rfl, rfl, _, H⟩
    cases H
   ·rintro kq1 _ I2 nx2 _ _ ⟨x2, x3, rfl, rfl, rfl, hi2, H⟩ Q_l1 hJ2 hQ2
    replace H : (if x3 < (a0.length : Int) then (if 0 ≤ x3 then (if x3 < (a0.length : Int) then (slices_Min_int64_int64.l1 a0 kq1 (iMin x2 (a0.getD (x3).toNat 0)) (W .i64 (x3 + 1))) else none) else none) else (some x2)) = some y1 := H
    refine OK.seq K38_21 K38_27 (by kernel_rfl) ?_
    refine OK.seq K38_22 K38_24 (by kernel_rfl) ?_
    refine OK.region 5 O38_22 (by kernel_rfl) ?_
    refine RL.simK (K' := [(15, .bool (decide (x3 < (a0.length : Int)))), (0, .slice Ap0 a0.length cp0), (3, .int .i64 x2), (4, .int .i64 x3)]) [] (RFacts.nil _ _ _) 4 [.no, .no, .no, .no] (by kernel_rfl) (by kernel_rfl) ?_
    refine RL.nil (by kernel_rfl) ?_
    refine QN.then_ ?_
    refine OK.cond (.tmp 15) K38_25 K38_26 (decide (x3 < (a0.length : Int))) (by kernel_rfl) (by kernel_rfl) (by kernel_rfl) (fun hb => ?_) (fun hb => ?_)
    ·skip
     have hc := (of_decide_eq_true hb)
     rw [if_pos hc] at H
     clear hb
     refine OK.skip (by kernel_rfl) ?_
     refine QN.then_ ?_
     refine OK.seq K38_28 K38_31 (by kernel_rfl) ?_
     refine OK.block 1 K38_29 (by kernel_rfl) ?_
     refine OK.region 7 O38_29 (by kernel_rfl) ?_
     refine RL.simK (K' := [(20, .int .i64 x3), (19, .slice Ap0 a0.length cp0), (18, .int .i64 x2), (0, .slice Ap0 a0.length cp0), (3, .int .i64 x2), (4, .int .i64 x3)]) [] (RFacts.nil _ _ _) 3 [.no, .no, .no] (by kernel_rfl) (by kernel_rfl) ?_
     by_cases hib0 : 0 ≤ x3
     case neg => rw [if_neg hib0] at H; cases H
     rw [if_pos hib0] at H
     by_cases hib1 : x3 < (a0.length : Int)
     case neg => rw [if_neg hib1] at H; cases H
     rw [if_pos hib1] at H
     obtain ⟨g2_, o2_, hA2_, hc2_⟩ := Ty.int_at (Rd.ext hi2 hrp0) x3 hib0 hib1
     refine RL.idx 1 .i64 x3 hA2_ a0.length cp0 (some 21) (by kernel_rfl) (by kernel_rfl) (T := 24) (e := 2) (by kernel_rfl) (by kernel_rfl) hib0 hib1 (K' := [(21, .pointer (some ⟨g2_, o2_ + (x3).toNat * 1, none⟩)), (20, .int .i64 x3), (19, .slice Ap0 a0.length cp0), (18, .int .i64 x2), (0, .slice Ap0 a0.length cp0), (3, .int .i64 x2), (4, .int .i64 x3)]) (by kernel_rfl) ?_
     refine RL.simK (K' := [(3, .int .i64 (iMin x2 (a0.getD (x3).toNat 0))), (0, .slice Ap0 a0.length cp0), (4, .int .i64 x3)]) [(⟨g2_, o2_ + (x3).toNat * 1, none⟩, .int .i64 (a0.getD (x3).toNat 0))] (RFacts.imm (hc2_ 0 _ rfl) (RFacts.nil _ _ _)) 3 [.r 0, .no, .no] (by kernel_rfl) (by kernel_rfl) ?_
     refine RL.nil (by kernel_rfl) ?_
     refine QN.blkN ?_
     refine QN.then_ ?_
     refine OK.region 6 O38_31 (by kernel_rfl) ?_
     refine RL.simK (K' := [(4, .int .i64 (W .i64 (x3 + 1))), (3, .int .i64 (iMin x2 (a0.getD (x3).toNat 0))), (0, .slice Ap0 a0.length cp0)]) [] (RFacts.nil _ _ _) 3 [.no, .no, .no] (by kernel_rfl) (by kernel_rfl) ?_
     refine RL.nil (by kernel_rfl) ?_
     refine QN.sub (K' := [(0, .slice Ap0 a0.length cp0), (3, .int .i64 (iMin x2 (a0.getD (x3).toNat 0))), (4, .int .i64 (W .i64 (x3 + 1)))]) (L' := []) (by kernel_rfl) .slnil (.refl _) ?_
     exact hJ2 _ _ _ _ _ ⟨iMin x2 (a0.getD (x3).toNat 0), W .i64 (x3 + 1), rfl, rfl, rfl, hi2, H⟩
    ·skip
     have hc := (of_decide_eq_false hb)
     rw [if_neg hc] at H
     clear hb
     refine OK.exit 0 (by kernel_rfl) ?_
     refine QN.thenE ?_
     refine QN.outE hQ2 ?_
     refine QN.blkE ?_
     obtain rfl := Option.some.inj H
     refine QN.sub (K' := [(3, .int .i64 x2)]) (L' := []) (by kernel_rfl) .slnil (.refl _) ?_
     exact hJ1 _ _ _ _ _ ⟨x2, rfl, rfl, rfl, hi2, HK1⟩

end Go.Proofs.Ytdmhbcgmimfjcaa
