/- The law QuorumThreshold of the package armillarylaw29 returns true at every input and leaves its arguments as they are; no conditions. -/
import Derived.Test.YtieakigoinebdaaRows
import Derived.Test.YtieakigoinebdaaA8
import Derived.WalkKit
import Derived.ProofKit
import Derived.OpenShut
import Derived.ShutString
import Derived.ChangeOld
import Derived.Below
import Derived.Carry
import Derived.WideShapes
namespace Go.Proofs.Ytieakigoinebdaa.quorumThreshold
open Go.ChangeShapes Go.WideShapes Go.ChangeAt Go.RowKit Go.Proofs.Ytieakigoinebdaa Go.Proofs.Ytieakigoinebdaa.RW
open Go.ChangeMaps (open_string shut_string)
set_option linter.unusedVariables false
set_option maxRecDepth 1000000
set_option maxHeartbeats 8000000

theorem own : ownKnob Try.prog.godebug = none := by kernel_rfl
theorem laidOut : laidOutB Try.prog = true := by kernel_rfl
theorem lifted (os : Os) (started : os.Started) (H : Type) (enc : TypeId × Value → H) :
    ReturnsInHanded {} Try.checked os 8 .any (Rows.quorumThresholdSpec.pre6 enc Try.prog Try.f8 Rows.quorumThresholdRow.domain false) (Rows.quorumThresholdSpec.post enc Try.prog Try.f8 false true false false) := by
  refine returnsInHanded_of_change (C := Try.checked) own started (by kernel_rfl) Try.func8
    (ChangeSpec.witness6 (enc := enc) (C := Try.checked) false ⟨#[], #[.agg #[.int .u8 0, .int .u8 0, .bool false, .int .u32 0, .int .u32 0]], []⟩ 8 (by kernel_rfl) (by kernel_rfl) (by kernel_rfl) (by kernel_rfl)) ?_
  intro W base args ds gs before hval0 hW hcnd _
  have hval : ∀ (j : Nat) t v, Try.f8.params[j]? = some t → args[j]? = some v → Value.okWide Try.prog W .any base t v := hval0
  have hW' := hW
  obtain ⟨p, q, hA0, hV, rfl, hfz, hnd⟩ := hW
  have hA : DataW.TrodAll enc Try.prog W 0 (fun _ => true) true Try.f8.params.toList args.toList ds p := hA0
  rw [Try.params8] at hA hval
  obtain ⟨v0, vs0, d0, ds0, p0, q0, hargs, rfl, rfl, h0, r0⟩ := trodAll_cons hA
  obtain ⟨rfl, rfl, rfl⟩ := trodAll_nil r0
  obtain rfl : args = #[v0] := by cases args; simp_all
  obtain ⟨rfl, rfl⟩ := trodVars_none hV
  have k0 := h0
  have lt0 : ∀ x ∈ p0, x.block < W.heap.size := by obtain ⟨m, hm⟩ := k0; exact DataW.trod_lt m _ _ _ hm
  obtain ⟨cs0, rfl⟩ : ∃ cs, v0 = .agg cs := by
    have hv := (hval 0 59 v0 rfl rfl)
    simp only [Value.okWide, Try.underlying59] at hv
    obtain ⟨cs, e, _⟩ := hv
    exact ⟨cs, e⟩
  obtain ⟨fuel0, hf0⟩ := h0
  obtain ⟨a0, hk0, hp0⟩ := o59 W 0 _ _ _ _ _ hf0
  obtain ⟨_, e0⟩ := t59_open hk0
  obtain rfl : cs0 = #[.int .u8 a0.f0, .int .u8 a0.f1, .bool a0.f2, .int .u32 a0.f3, .int .u32 a0.f4] := by simpa [Value.cells] using congrArg List.toArray e0
  clear hA0 hval0
  obtain ⟨k, hk⟩ := armillarylaw29_QuorumThreshold_holds a0 hp0
  refine (armillarylaw29_QuorumThreshold.calls k (wImm W) a0 W (wImm_at W)  true hk).mono ?_
  rintro e W' ⟨v, rfl, J, rfl, hg⟩
  have bel : Below W.heap.size W W' := ⟨hg.evo.os, hg.evo.tape, hg.evo.output, hg.evo.size, fun k hk => hg.evo.blk k hk (fun h => h)⟩
  exact ⟨_, rfl, _, _, _, [], _, [], hW', trodAll_mk1 (shut_bool Try.underlying4 _), (trodAll_cons_mk (Below.trod laidOut (by kernel_rfl) (of_decide_eq_true (by kernel_rfl)) k0 bel lt0) trodAll_mk0), rfl, bel.frame _, fun h => by cases h⟩

theorem over : Rows.quorumThresholdRow.holds Try.pinned (OpenSpec.ofChange Rows.quorumThresholdSpec) :=
  OpenClaim.holds_of_wide 8 Try.f8 rfl rfl rfl rfl rfl rfl rfl ⟨rfl, rfl, rfl, rfl, rfl⟩ rfl rfl rfl rfl rfl (by kernel_rfl) Try.func8 (by kernel_rfl)
    (of_decide_eq_true (by kernel_rfl)) (by unfold Func.isWrapper; first | (rw [if_pos (by decide +kernel)]; kernel_rfl) | (rw [if_neg (by decide +kernel)]; exact ⟨rfl, rfl⟩))
    (fun os started H enc _ => lifted os started H enc)
theorem proved : Rows.QuorumThresholdSaid := over
#print axioms proved
end Go.Proofs.Ytieakigoinebdaa.quorumThreshold
