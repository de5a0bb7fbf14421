/- The law QuorumMatchesReference of the package armillarylaw29 returns true at every input and leaves its arguments as they are; no conditions. -/
import Derived.Test.YtieakigoinebdaaRows
import Derived.Test.YtieakigoinebdaaX38
import Derived.WalkKit
import Derived.ProofKit
import Derived.OpenShut
import Derived.ShutString
import Derived.ChangeOld
import Derived.Below
import Derived.Carry
import Derived.WideShapes
namespace Go.Proofs.Ytieakigoinebdaa.quorumMatchesReference
open Go.ChangeShapes Go.WideShapes Go.ChangeAt Go.RowKit Go.Proofs.Ytieakigoinebdaa Go.Proofs.Ytieakigoinebdaa.RW
open Go.ChangeMaps (open_string shut_string)
set_option linter.unusedVariables false
set_option maxRecDepth 1000000
set_option maxHeartbeats 8000000

theorem own : ownKnob Try.prog.godebug = none := by kernel_rfl
theorem laidOut : laidOutB Try.prog = true := by kernel_rfl
theorem lifted (os : Os) (started : os.Started) (H : Type) (enc : TypeId × Value → H) :
  ReturnsInHanded {} Try.checked os 3 .any (Rows.quorumMatchesReferenceSpec.pre6 enc Try.prog Try.f3 Rows.quorumMatchesReferenceRow.domain false) (Rows.quorumMatchesReferenceSpec.post enc Try.prog Try.f3 false true false false) := by
 refine returnsInHanded_of_change (C := Try.checked) own started (by kernel_rfl) Try.func3
  (ChangeSpec.witness6 (enc := enc) (C := Try.checked) false ⟨#[], #[.agg #[.slice none 0 0, .int .u8 0, .int .i64 0, .int .i64 0], .agg #[.int .i64 0, .int .i64 0, .int .i64 0, .int .i64 0, .int .u32 0, .int .i64 0, .string (⟨#[]⟩ : ByteArray), .slice none 0 0, .int .i64 0, .int .i64 0]], []⟩ 8 (by kernel_rfl) (by kernel_rfl) (by kernel_rfl) (by kernel_rfl)) ?_
 intro W base args ds gs before hval0 hW hcnd _
 have hval : ∀ (j : Nat) t v, Try.f3.params[j]? = some t → args[j]? = some v → Value.okWide Try.prog W .any base t v := hval0
 have hW' := hW
 obtain ⟨p, q, hA0, hV, rfl, hfz, hnd⟩ := hW
 have hA : DataW.TrodAll enc Try.prog W 0 (fun _ => true) true Try.f3.params.toList args.toList ds p := hA0
 rw [Try.params3] at hA hval
 obtain ⟨v0, vs0, d0, ds0, p0, q0, hargs, rfl, rfl, h0, r0⟩ := trodAll_cons hA
 obtain ⟨v1, vs1, d1, ds1, p1, q1, rfl, rfl, rfl, h1, r1⟩ := trodAll_cons r0
 obtain ⟨rfl, rfl, rfl⟩ := trodAll_nil r1
 obtain rfl : args = #[v0, v1] := by cases args; simp_all
 obtain ⟨rfl, rfl⟩ := trodVars_none hV
 have k0 := h0
 have lt0 : ∀ x ∈ p0, x.block < W.heap.size := by obtain ⟨m, hm⟩ := k0; exact DataW.trod_lt m _ _ _ hm
 obtain ⟨cs0, rfl⟩ : ∃ cs, v0 = .agg cs := by
  have hv := (hval 0 26 v0 rfl rfl)
  simp only [Value.okWide, Try.underlying26] at hv
  obtain ⟨cs, e, _⟩ := hv
  exact ⟨cs, e⟩
 obtain ⟨fuel0, hf0⟩ := h0
 obtain ⟨a0, hk0, hp0⟩ := o26 W 0 _ _ _ _ _ hf0
 obtain ⟨A0_0, c0_0, e0, l0_0, r0_0⟩ := t26_open hk0
 obtain rfl : cs0 = #[.slice A0_0 a0.f0.length c0_0, .int .u8 a0.f1, .int .i64 a0.f2.f0, .int .i64 a0.f2.f1] := by simpa [Value.cells] using congrArg List.toArray e0
 have k1 := h1
 have lt1 : ∀ x ∈ p1, x.block < W.heap.size := by obtain ⟨m, hm⟩ := k1; exact DataW.trod_lt m _ _ _ hm
 obtain ⟨cs1, rfl⟩ : ∃ cs, v1 = .agg cs := by
  have hv := (hval 1 34 v1 rfl rfl)
  simp only [Value.okWide, Try.underlying34] at hv
  obtain ⟨cs, e, _⟩ := hv
  exact ⟨cs, e⟩
 obtain ⟨fuel1, hf1⟩ := h1
 obtain ⟨a1, hk1, hp1⟩ := o34 W 0 _ _ _ _ _ hf1
 obtain ⟨A1_0_5_2, c1_0_5_2, e1, l1_0_5_2, r1_0_5_2⟩ := t34_open hk1
 obtain rfl : cs1 = #[.int .i64 a1.f0.f0, .int .i64 a1.f0.f1, .int .i64 a1.f0.f2, .int .i64 a1.f0.f3, .int .u32 a1.f0.f4, .int .i64 a1.f0.f5.f0, .string a1.f0.f5.f1, .slice A1_0_5_2 a1.f0.f5.f2.length c1_0_5_2, .int .i64 a1.f1, .int .i64 a1.f2] := by simpa [Value.cells] using congrArg List.toArray e1
 clear hA0 hval0
 obtain ⟨k, hk⟩ := armillarylaw29_QuorumMatchesReference_holds a0 a1 hp0 hp1
 refine (armillarylaw29_QuorumMatchesReference.calls k (wImm W) a0 A0_0 c0_0 a1 A1_0_5_2 c1_0_5_2 W (wImm_at W) l0_0 r0_0 l1_0_5_2 r1_0_5_2 true hk).mono ?_
 rintro e W' ⟨v, rfl, J, rfl, hg⟩
 have bel : Below W.heap.size W W' := ⟨hg.evo.os, hg.evo.tape, hg.evo.output, hg.evo.size, fun k hk => hg.evo.blk k hk (fun h => h)⟩
 exact ⟨_, rfl, _, _, _, [], _, [], hW', trodAll_mk1 (shut_bool Try.underlying4 _), (trodAll_cons_mk (Below.trod laidOut (by kernel_rfl) (of_decide_eq_true (by kernel_rfl)) k0 bel lt0) (trodAll_cons_mk (Below.trod laidOut (by kernel_rfl) (of_decide_eq_true (by kernel_rfl)) k1 bel lt1) trodAll_mk0)), rfl, bel.frame _, fun h => by cases h⟩

theorem over : Rows.quorumMatchesReferenceRow.holds Try.pinned (OpenSpec.ofChange Rows.quorumMatchesReferenceSpec) :=
 OpenClaim.holds_of_wide 3 Try.f3 rfl rfl rfl rfl rfl rfl rfl ⟨rfl, rfl, rfl, rfl, rfl⟩ rfl rfl rfl rfl rfl (by kernel_rfl) Try.func3 (by kernel_rfl)
  (of_decide_eq_true (by kernel_rfl)) (by unfold Func.isWrapper; first | (rw [if_pos (by decide +kernel)]; kernel_rfl) | (rw [if_neg (by decide +kernel)]; exact ⟨rfl, rfl⟩))
  (fun os started H enc _ => lifted os started H enc)
theorem proved : Rows.QuorumMatchesReferenceSaid := over
#print axioms proved
end Go.Proofs.Ytieakigoinebdaa.quorumMatchesReference
