/- Handling a message again, or an invalid one, changes nothing and sends nothing. -/
import Derived.Test.YtijhdekfbjafgaaX6
import Derived.Test.YtijhdekfbjafgaaRows
import Derived.WalkKit
import Derived.ProofKit
import Derived.OpenShut
import Derived.ShutString
import Derived.ChangeOld
import Derived.Below
import Derived.Carry
import Derived.WideShapes
namespace Go.Proofs.Ytijhdekfbjafgaa
open Go Go.RowKit Go.Proofs.Ytijhdekfbjafgaa.RW
open Go.Proofs.Ytijhdekfbjafgaa.AM hiding lk
set_option linter.unusedVariables false
set_option maxRecDepth 100000
theorem armillarylaw30_ReplicaIgnoresDuplicates_holds (a0 : Int) (w0 : (TC.int .u8).wf a0) (a1 : Int) (w1 : (TC.int .u8).wf a1) (a2 : List S38) (w2 : (TC.row c38).wf a2) (a3 : S34) (w3 : c34.wf a3) (a4 : Int) (w4 : (TC.int .u8).wf a4) : ∃ n, armillarylaw30_ReplicaIgnoresDuplicates n a0 a1 a2 a3 a4 = some true := by
 have h0 := wf_u8 w0
 have h1 := wf_u8 w1
 have h2 := ops_wf w2
 have h4 := wf_u8 w4
 have hR := run_ran (n := a1) h0.1 h2.2
 have hi := hR.inv
 generalize hr : runM a0 a1 a2 = r at hR hi
 have ht := hR.tl
 have hn := hi.n1
 have hb := made_bytes a3 a4 (rN r)
 have hi2 := handle_inv hi hb (by omega)
 have hk := handle_keeps hi hb (by omega)
 have htl : (rT (handleM r (madeM a3 a4 (rN r)))).length < 1000000 := by
  rcases handle_took hi hb (by omega) with e | e <;> rw [e]
  ·omega
  ·rw [List.length_append, List.length_singleton]; omega
 have e1 := handle_known hi hb (by omega) (made_valid a3 h4.1 hi.n1 hi.n2)
 have e2 : handleM (handleM r (madeM a3 a4 (rN r))) ((madeM a3 a4 (rN r)).1, rN r, (madeM a3 a4 (rN r)).2.2) = handleM r (madeM a3 a4 (rN r)) := handle_invalid (by rw [hk.n]; exact from_out rfl)
 refine Ev.get (r := true) ?_
 unfold armillarylaw30_ReplicaIgnoresDuplicates
 refine Ev.bind sane_ev (Ev.bind (run_ev h0 h1 h2.2 h2.1) ?_)
 rw [hr]
 refine Ev.F (decide_eq_false (show ¬ (rN r < 1) by omega)) (Ev.bind (made_ev a3 h4.1 hn) (Ev.bind (handle_ev hi hb (by omega)) (Ev.bind (handle_ev hi2 hb htl) (Ev.bind (handle_ev (m := ((madeM a3 a4 (rN r)).1, rN r, (madeM a3 a4 (rN r)).2.2)) hi2 hb htl) ?_))))
 rw [e1, e2]
 have hd : ((rS (handleM r (madeM a3 a4 (rN r)))).drop (rS (handleM r (madeM a3 a4 (rN r)))).length) = [] := List.drop_length
 rw [hd]
 exact Ev.T rfl (Ev.bind (sameR_ev hi2.sz) (Ev.T rfl (Ev.T rfl (Ev.bind (sameR_ev hi2.sz) (Ev.T rfl (Ev.ret _))))))
end Go.Proofs.Ytijhdekfbjafgaa
namespace Go.Proofs.Ytijhdekfbjafgaa.replicaIgnoresDuplicates
open Go.ChangeShapes Go.WideShapes Go.ChangeAt Go.RowKit Go.Proofs.Ytijhdekfbjafgaa Go.Proofs.Ytijhdekfbjafgaa.AM
open Go.Proofs.Ytijhdekfbjafgaa.RW hiding lk
set_option linter.unusedVariables false
set_option maxRecDepth 1000000
set_option maxHeartbeats 8000000

theorem own : ownKnob Try.prog.godebug = none := by kernel_rfl
theorem laidOut : laidOutB Try.prog = true := by kernel_rfl
theorem lifted (os : Os) (started : os.Started) (H : Type) (enc : TypeId × Value → H) :
    ReturnsInHanded {} Try.checked os 7 .any (Rows.replicaIgnoresDuplicatesSpec.pre6 enc Try.prog Try.f7 Rows.replicaIgnoresDuplicatesRow.domain false) (Rows.replicaIgnoresDuplicatesSpec.post enc Try.prog Try.f7 false true false false) := by
  refine returnsInHanded_of_change (C := Try.checked) own started (by kernel_rfl) Try.func7
    (ChangeSpec.witness6 (enc := enc) (C := Try.checked) false ⟨#[], #[.int .u8 0, .int .u8 0, .slice none 0 0, .agg #[.int .i64 0, .int .i64 0, .int .i64 0, .int .i64 0, .int .u32 0, .int .i64 0, .string ⟨#[]⟩, .slice none 0 0], .int .u8 0], []⟩ 8 (by kernel_rfl) (by kernel_rfl) (by kernel_rfl) (by kernel_rfl)) ?_
  intro W base args ds gs before hval0 hW hcnd _
  have hval : ∀ (j : Nat) t v, Try.f7.params[j]? = some t → args[j]? = some v → Value.okWide Try.prog W .any base t v := hval0
  have hW' := hW
  obtain ⟨p, q, hA0, hV, rfl, hfz, hnd⟩ := hW
  have hA : DataW.TrodAll enc Try.prog W 0 (fun _ => true) true Try.f7.params.toList args.toList ds p := hA0
  rw [Try.params7] at hA hval
  obtain ⟨v0, vs0, d0, ds0, p0, q0, hargs, rfl, rfl, h0, z0⟩ := trodAll_cons hA
  obtain ⟨v1, vs1, d1, ds1, p1, q1, rfl, rfl, rfl, h1, z1⟩ := trodAll_cons z0
  obtain ⟨v2, vs2, d2, ds2, p2, q2, rfl, rfl, rfl, h2, z2⟩ := trodAll_cons z1
  obtain ⟨v3, vs3, d3, ds3, p3, q3, rfl, rfl, rfl, h3, z3⟩ := trodAll_cons z2
  obtain ⟨v4, vs4, d4, ds4, p4, q4, rfl, rfl, rfl, h4, z4⟩ := trodAll_cons z3
  obtain ⟨rfl, rfl, rfl⟩ := trodAll_nil z4
  obtain rfl : args = #[v0, v1, v2, v3, v4] := by cases args; simp_all
  obtain ⟨rfl, rfl⟩ := trodVars_none hV
  have lt0 : ∀ x ∈ p0, x.block < W.heap.size := by obtain ⟨m, hm⟩ := h0; exact DataW.trod_lt m _ _ _ hm
  obtain ⟨a0, w0, f0, g0⟩ := arg_rel (P := Try.prog) (c := (.int .u8)) (fun _ => none) (by kernel_rfl) (hval 0 5 v0 rfl rfl) h0
  have lt1 : ∀ x ∈ p1, x.block < W.heap.size := by obtain ⟨m, hm⟩ := h1; exact DataW.trod_lt m _ _ _ hm
  obtain ⟨a1, w1, f1, g1⟩ := arg_rel (P := Try.prog) (c := (.int .u8)) (fun _ => none) (by kernel_rfl) (hval 1 5 v1 rfl rfl) h1
  have lt2 : ∀ x ∈ p2, x.block < W.heap.size := by obtain ⟨m, hm⟩ := h2; exact DataW.trod_lt m _ _ _ hm
  obtain ⟨a2, w2, f2, g2⟩ := arg_rel (P := Try.prog) (c := (.row c38)) (fun _ => none) (by kernel_rfl) (hval 2 22 v2 rfl rfl) h2
  have lt3 : ∀ x ∈ p3, x.block < W.heap.size := by obtain ⟨m, hm⟩ := h3; exact DataW.trod_lt m _ _ _ hm
  obtain ⟨a3, w3, f3, g3⟩ := arg_rel (P := Try.prog) (c := c34) (fun _ => none) (by kernel_rfl) (hval 3 34 v3 rfl rfl) h3
  have lt4 : ∀ x ∈ p4, x.block < W.heap.size := by obtain ⟨m, hm⟩ := h4; exact DataW.trod_lt m _ _ _ hm
  obtain ⟨a4, w4, f4, g4⟩ := arg_rel (P := Try.prog) (c := (.int .u8)) (fun _ => none) (by kernel_rfl) (hval 4 5 v4 rfl rfl) h4
  clear hA0 hval0
  obtain ⟨n, hn⟩ := armillarylaw30_ReplicaIgnoresDuplicates_holds a0 w0 a1 w1 a2 w2 a3 w3 a4 w4
  refine (law_calls (fn := Try.f7) (by kernel_rfl) (armillarylaw30_ReplicaIgnoresDuplicates.ok n) (a0, (a1, (a2, (a3, (a4, ()))))) hn (vs := [v0, v1, v2, v3, v4]) (Nat.le_of_ble_eq_true (by kernel_rfl)) ⟨rfl, g0 rfl, rfl, g1 rfl, rfl, g2 rfl, rfl, f3 rfl, rfl, g4 rfl, trivial⟩).mono ?_
  rintro e W' ⟨rfl, bel⟩
  exact ⟨_, rfl, _, _, _, [], _, [], hW', trodAll_mk1 (shut_bool Try.underlying4 _), (trodAll_cons_mk (Below.trod laidOut (by kernel_rfl) (of_decide_eq_true (by kernel_rfl)) h0 bel lt0) (trodAll_cons_mk (Below.trod laidOut (by kernel_rfl) (of_decide_eq_true (by kernel_rfl)) h1 bel lt1) (trodAll_cons_mk (Below.trod laidOut (by kernel_rfl) (of_decide_eq_true (by kernel_rfl)) h2 bel lt2) (trodAll_cons_mk (Below.trod laidOut (by kernel_rfl) (of_decide_eq_true (by kernel_rfl)) h3 bel lt3) (trodAll_cons_mk (Below.trod laidOut (by kernel_rfl) (of_decide_eq_true (by kernel_rfl)) h4 bel lt4) trodAll_mk0))))), rfl, bel.frame _, fun h => by cases h⟩

theorem over : Rows.replicaIgnoresDuplicatesRow.holds Try.pinned (OpenSpec.ofChange Rows.replicaIgnoresDuplicatesSpec) :=
  OpenClaim.holds_of_wide 7 Try.f7 rfl rfl rfl rfl rfl rfl rfl ⟨rfl, rfl, rfl, rfl, rfl⟩ rfl rfl rfl rfl rfl (by kernel_rfl) Try.func7 (by kernel_rfl)
    (of_decide_eq_true (by kernel_rfl)) (by unfold Func.isWrapper; first | (rw [if_pos (by decide +kernel)]; kernel_rfl) | (rw [if_neg (by decide +kernel)]; exact ⟨rfl, rfl⟩))
    (fun os started H enc _ => lifted os started H enc)
theorem proved : Rows.ReplicaIgnoresDuplicatesSaid := over
#print axioms proved
end Go.Proofs.Ytijhdekfbjafgaa.replicaIgnoresDuplicates
