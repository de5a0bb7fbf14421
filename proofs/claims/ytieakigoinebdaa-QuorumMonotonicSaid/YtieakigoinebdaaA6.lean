/- The law QuorumMonotonic, in plain words: appending messages never changes a prepared or committed sum; conditions: the fields of the arguments fit their kinds. -/
import Derived.Test.YtieakigoinebdaaO
import Derived.Test.YtieakigoinebdaaP
import Derived.Test.YtieakigoinebdaaG6
namespace Go.Proofs.Ytieakigoinebdaa
open Go Go.Proofs.Ytieakigoinebdaa.RW
set_option linter.unusedVariables false
set_option maxRecDepth 1000000
theorem sane6 : armillarylaw29_sanity.f 300 = some true := by kernel_rfl
theorem wf_u8 {x : Int} (h : (Lit.int .u8 x).wf = true) : 0 ≤ x ∧ x ≤ 255 := by simpa [Lit.wf, IntKind.min, IntKind.max, IntKind.signed, IntKind.bits] using h
theorem wf_u32 {x : Int} (h : (Lit.int .u32 x).wf = true) : 0 ≤ x := by
  have : 0 ≤ x ∧ x ≤ 4294967295 := by simpa [Lit.wf, IntKind.min, IntKind.max, IntKind.signed, IntKind.bits] using h
  exact this.1
theorem num13 {x : Int} (h : (Lit.int .u8 x).wf = true) : 1 ≤ W .i64 (1 + W .i64 (x.tmod 13)) ∧ W .i64 (1 + W .i64 (x.tmod 13)) ≤ 13 := by
  have := wf_u8 h
  rw [Int.tmod_eq_emod_of_nonneg this.1, W64 (n := x % 13) (by omega) (by omega), W64 (by omega) (by omega)]
  omega
theorem armillarylaw29_QuorumMonotonic_holds (a0 : S26) (a1 : List S32) (h0 : p26 a0) (h1 : ∀ x ∈ a1, p32 x) : ∃ k, armillarylaw29_QuorumMonotonic.f k a0 a1 = some true := by
  refine ⟨300, ?_⟩
  obtain ⟨n1, n2⟩ := num13 h0.2.1
  obtain ⟨n, hn⟩ : ∃ n, W .i64 (1 + W .i64 (a0.f1.tmod 13)) = n := ⟨_, rfl⟩
  rw [hn] at n1 n2
  obtain ⟨L, hL1, hL2, hL3⟩ := madeAll_ok a0.f0 (fun m hm => wf_u32 (h0.1 m hm).2.2.2.2.1) n1 n2
  obtain ⟨M, hM1, hM2, hM3⟩ := madeAll_ok a1 (fun m hm => wf_u32 (h1 m hm).2.2.2.2.1) n1 n2
  have e1 : armillarylaw29_made.f 300 a0 = some (L, n, (⟨(bAnd .i64 a0.f2.f0 255).tmod 4, (bAnd .i64 a0.f2.f1 255).tmod 3⟩ : S24)) := by
    unfold armillarylaw29_made.f
    rw [hn, hL1 199, Option.bind_some]
  obtain ⟨at_, hat⟩ : ∃ at_ : S24, (⟨(bAnd .i64 a0.f2.f0 255).tmod 4, (bAnd .i64 a0.f2.f1 255).tmod 3⟩ : S24) = at_ := ⟨_, rfl⟩
  rw [hat] at e1
  have vL : ∀ m ∈ L, ∃ b, quorum_group_valid.f 300 n m = some b := fun m hm => ⟨_, hL3 m hm 240⟩
  have vLM : ∀ m ∈ L ++ M, ∃ b, quorum_group_valid.f 300 n m = some b := fun m hm => by
    rcases List.mem_append.1 hm with hm | hm
    · exact ⟨_, hL3 m hm 240⟩
    · exact ⟨_, hM3 m hm 240⟩
  have d2 := fun s h => decN_append (k := 300) n1 n2 L M (a := 2) (v := at_.f0) (q := at_.f1) (s := s) h
  have d3 := fun s h => decN_append (k := 300) n1 n2 L M (a := 3) (v := at_.f0) (q := at_.f1) (s := s) h
  unfold armillarylaw29_QuorumMonotonic.f
  rw [sane6, Option.bind_some, e1, Option.bind_some]
  simp only [List.nil_append, List.length_nil]
  rw [if_pos (by omega), hM1 199, Option.bind_some, if_pos (by omega), prepared_dec n1 n2 vL, Option.bind_some, prepared_dec n1 n2 vLM, Option.bind_some, committed_dec n1 n2 vL, Option.bind_some, committed_dec n1 n2 vLM, Option.bind_some]
  generalize decN 300 n L 2 at_.f0 at_.f1 = p1 at d2
  generalize decN 300 n (L ++ M) 2 at_.f0 at_.f1 = p2 at d2
  generalize decN 300 n L 3 at_.f0 at_.f1 = c1 at d3
  generalize decN 300 n (L ++ M) 3 at_.f0 at_.f1 = c2 at d3
  cases p1 with
  | none =>
    cases c1 with
    | none => simp [armillarylaw29_QuorumMonotonic.k1]
    | some s => rw [d3 s rfl]; simp [armillarylaw29_QuorumMonotonic.k1]
  | some t =>
    rw [d2 t rfl]
    cases c1 with
    | none => simp [armillarylaw29_QuorumMonotonic.k1]
    | some s => rw [d3 s rfl]; simp [armillarylaw29_QuorumMonotonic.k1]
end Go.Proofs.Ytieakigoinebdaa
