/- What a function of the program computes, and the walk that shows it; made by a program of the session's out of the translation; no conditions beyond those that the theorems name. -/
import Derived.Test.YtieakigoinebdaaS
namespace Go.Proofs.Ytieakigoinebdaa
open Go Go.Proofs.Ytieakigoinebdaa.RW
set_option linter.unusedVariables false
set_option maxRecDepth 100000
set_option maxHeartbeats 8000000

/-! ### quorum_group_possible: function 37, (armillary/quorum.group).possible -/
noncomputable def K37_0 : Code := cBody Try.f37
noncomputable def K37_1 : Code := cL K37_0
noncomputable def O37_1 : List Oper := cOps K37_1
noncomputable def K37_3 : Code := cR K37_0
noncomputable def K37_4 : Code := cL K37_3
noncomputable def O37_4 : List Oper := cOps K37_4
noncomputable def K37_6 : Code := cR K37_3
def quorum_group_possible.k1  (x1 : Bool) : Option (Bool) := (some x1)
def quorum_group_possible.f (a0 : Int) : Option (Bool) := ((if a0 ≥ 1 then (some (decide (a0 ≤ 13))) else (some false)).bind (quorum_group_possible.k1))
def quorum_group_possible.Post (I : Imm) (w : World) (r : Bool) (v : Value) (w' : World) : Prop :=
  ∃ (J : Imm), v = .bool r ∧ Got w w' I J []
theorem quorum_group_possible.calls (I0 : Imm) (a0 : Int) (w : World) (hI : I0.at_ w)  (r : Bool) (h : quorum_group_possible.f a0 = some r) :
    Calls Try.prog 37 [.int .i64 a0].toArray w fun e w' => ∃ v, e = .returned v ∧ quorum_group_possible.Post I0 w r v w' := by
  have H : ((if a0 ≥ 1 then (some (decide (a0 ≤ 13))) else (some false)).bind (quorum_group_possible.k1)) = some r := h
  clear h
  refine calls_body Try.func37 (by kernel_rfl) 9 (by kernel_rfl) (by kernel_rfl) ⟨w, fun _ => False, I0⟩ I0 [] [(0, .int .i64 a0)] (by kernel_rfl) (Sat.start w _ I0 hI) ?_
  generalize w.heap.size = nx0
  show OK _ K37_0 _ _ _ _ _ _ _ _
  refine OK.seq K37_1 K37_3 (by kernel_rfl) ?_
  refine OK.region 0 O37_1 (by kernel_rfl) ?_
  refine RL.simP (K' := [(0, .int .i64 a0)]) (nx' := nx0) (L' := []) [] (RFacts.nil _ _ _) 1 [.no] (by kernel_rfl) (by kernel_rfl) ?_
  refine RL.nil (by kernel_rfl) ?_
  refine QN.then_ ?_
  refine OK.seq K37_4 K37_6 (by kernel_rfl) ?_
  refine OK.join (fun K' I' _ L' X' => ∃ (x1 : Bool), K' = [(2, .bool x1)] ∧ L' = [] ∧ X' = [] ∧ Imm.le I0 I' ∧ quorum_group_possible.k1 x1 = some r) ?_ ?_
  · rintro _ I1 nx1 _ _ ⟨x1, rfl, rfl, rfl, hi1, H⟩
    replace H : (some x1) = some r := H
    refine QN.then_ ?_
    refine OK.ret (by kernel_rfl) ?_
    obtain rfl := Option.some.inj H
    refine QN.body rfl [] (RFacts.nil _ _ _) (.no) (.bool x1) (by kernel_rfl) (by kernel_rfl) (by kernel_rfl) ?_ _ (.inr rfl)
    exact fun w' hs' => ⟨_, rfl, I1, rfl, hs'.got _ .slnil⟩
  · intro Q_1 hJ1 hQ1
    obtain ⟨y1, H, HK1⟩ := Option.bind_eq_some_iff.mp H
    refine OK.region 1 O37_4 (by kernel_rfl) ?_
    refine RL.simP (K' := [(5, .bool (decide (a0 ≥ 1))), (0, .int .i64 a0)]) (nx' := nx0) (L' := []) [] (RFacts.nil _ _ _) 3 [.no, .no, .no] (by kernel_rfl) (by kernel_rfl) ?_
    refine RL.cases (decide (a0 ≥ 1)) (fun hb => ?_) (fun hb => ?_)
    · have hc := (of_decide_eq_true hb)
      refine RL.norm (K' := [(5, .bool true), (0, .int .i64 a0)]) (L' := []) (by rw [hb]; try rfl) rfl (by first | rfl | (rw [hb]; try rfl)) rfl ?_
      rw [if_pos hc] at H; clear hb
      refine RL.simP (K' := [(2, .bool (decide (a0 ≤ 13)))]) (nx' := nx0) (L' := []) [] (RFacts.nil _ _ _) 4 [.no, .no, .no, .no] (by kernel_rfl) (by kernel_rfl) ?_
      refine RL.nil (by kernel_rfl) ?_
      obtain rfl := Option.some.inj H
      refine QN.sub (K' := [(2, .bool (decide (a0 ≤ 13)))]) (L' := []) (by kernel_rfl) .slnil (.refl _) ?_
      exact hJ1 _ _ _ _ _ ⟨(decide (a0 ≤ 13)), rfl, rfl, rfl, (Imm.le_refl _), HK1⟩
    · have hc := (of_decide_eq_false hb)
      refine RL.norm (K' := [(5, .bool false), (0, .int .i64 a0)]) (L' := []) (by rw [hb]; try rfl) rfl (by first | rfl | (rw [hb]; try rfl)) rfl ?_
      rw [if_neg hc] at H; clear hb
      refine RL.simP (K' := [(2, .bool false)]) (nx' := nx0) (L' := []) [] (RFacts.nil _ _ _) 4 [.no, .no, .no, .no] (by kernel_rfl) (by kernel_rfl) ?_
      refine RL.nil (by kernel_rfl) ?_
      obtain rfl := Option.some.inj H
      refine QN.sub (K' := [(2, .bool false)]) (L' := []) (by kernel_rfl) .slnil (.refl _) ?_
      exact hJ1 _ _ _ _ _ ⟨false, rfl, rfl, rfl, (Imm.le_refl _), HK1⟩

end Go.Proofs.Ytieakigoinebdaa
