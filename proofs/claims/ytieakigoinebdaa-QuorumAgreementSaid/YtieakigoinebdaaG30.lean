/- What a function of the program computes, and the walk that shows it; made by a program of the session's out of the translation; no conditions beyond those that the theorems name. -/
import Derived.Test.YtieakigoinebdaaS
namespace Go.Proofs.Ytieakigoinebdaa
open Go Go.Proofs.Ytieakigoinebdaa.RW
set_option linter.unusedVariables false
set_option maxRecDepth 100000
set_option maxHeartbeats 8000000

/-! ### armillarylaw29_slot: function 30, armillary/armillarylaw29.slot -/
noncomputable def K30_0 : Code := cBody Try.f30
noncomputable def K30_1 : Code := cL K30_0
noncomputable def O30_1 : List Oper := cOps K30_1
noncomputable def K30_3 : Code := cR K30_0
noncomputable def K30_4 : Code := cL K30_3
noncomputable def O30_4 : List Oper := cOps K30_4
noncomputable def K30_6 : Code := cR K30_3
def armillarylaw29_slot.f (a0 : Int) : Option (S24) := (some (⟨a0, 0⟩ : S24))
def armillarylaw29_slot.Post (I : Imm) (w : World) (r : S24) (v : Value) (w' : World) : Prop :=
  ∃ (J : Imm), v = .agg #[.int .i64 r.f0, .int .i64 r.f1] ∧ Got w w' I J []
theorem armillarylaw29_slot.calls (I0 : Imm) (a0 : Int) (w : World) (hI : I0.at_ w)  (r : S24) (h : armillarylaw29_slot.f a0 = some r) :
    Calls Try.prog 30 [.int .i64 a0].toArray w fun e w' => ∃ v, e = .returned v ∧ armillarylaw29_slot.Post I0 w r v w' := by
  have H : (some (⟨a0, 0⟩ : S24)) = some r := h
  clear h
  refine calls_body Try.func30 (by kernel_rfl) 5 (by kernel_rfl) (by kernel_rfl) ⟨w, fun _ => False, I0⟩ I0 [] [(0, .int .i64 a0)] (by kernel_rfl) (Sat.start w _ I0 hI) ?_
  generalize w.heap.size = nx0
  show OK _ K30_0 _ _ _ _ _ _ _ _
  refine OK.seq K30_1 K30_3 (by kernel_rfl) ?_
  refine OK.region 0 O30_1 (by kernel_rfl) ?_
  refine RL.simP (K' := [(2, .pointer (some ⟨nx0, 0, none⟩)), (0, .int .i64 a0)]) (nx' := nx0 + 1) (L' := [⟨nx0, [.int .i64 0, .int .i64 0], 24⟩]) [] (RFacts.nil _ _ _) 1 [.no] (by kernel_rfl) (by kernel_rfl) ?_
  refine RL.nil (by kernel_rfl) ?_
  refine QN.then_ ?_
  refine OK.seq K30_4 K30_6 (by kernel_rfl) ?_
  refine OK.region 1 O30_4 (by kernel_rfl) ?_
  refine RL.simP (K' := [(2, .pointer (some ⟨nx0, 0, none⟩))]) (nx' := nx0 + 1) (L' := [⟨nx0, [.int .i64 a0, .int .i64 0], 24⟩]) [] (RFacts.nil _ _ _) 3 [.no, .no, .l 0] (by kernel_rfl) (by kernel_rfl) ?_
  refine RL.nil (by kernel_rfl) ?_
  refine QN.then_ ?_
  refine OK.ret (by kernel_rfl) ?_
  obtain rfl := Option.some.inj H
  refine QN.body rfl [] (RFacts.nil _ _ _) (.l 0) (.agg #[.int .i64 a0, .int .i64 0]) (by kernel_rfl) (by kernel_rfl) (by kernel_rfl) ?_ _ (.inr rfl)
  exact fun w' hs' => ⟨_, rfl, I0, rfl, hs'.got _ .slnil⟩

end Go.Proofs.Ytieakigoinebdaa
