/- The leader proposes the highest prepared entry, and otherwise the one that is asked for. -/
import Derived.Test.YtijhdekfbjafgaaX6
import Derived.Test.YtijhdekfbjafgaaRows
import Derived.WalkKit
import Derived.ProofKit
import Derived.OpenShut
import Derived.ShutString
import Derived.ChangeOld
import Derived.Below
import Derived.Carry
import Derived.WideShapes
namespace Go.Proofs.Ytijhdekfbjafgaa
open Go Go.RowKit Go.Proofs.Ytijhdekfbjafgaa.RW
open Go.Proofs.Ytijhdekfbjafgaa.AM hiding lk
set_option linter.unusedVariables false
set_option maxRecDepth 100000
theorem armillarylaw30_ReplicaLeaderProposesPrepared_holds (a0 : Int) (w0 : (TC.int .u8).wf a0) (a1 : Int) (w1 : (TC.int .u8).wf a1) (a2 : List S38) (w2 : (TC.row c38).wf a2) (a3 : Int) (w3 : (TC.int .u8).wf a3) : ∃ n, armillarylaw30_ReplicaLeaderProposesPrepared n a0 a1 a2 a3 = some true := by
 have h0 := wf_u8 w0
 have h1 := wf_u8 w1
 have h2 := ops_wf w2
 have h3 := wf_u8 w3
 have hR := run_ran (n := a1) h0.1 h2.2
 have hsm := run_small (n := a1) h0.1 h2.2
 have hi := hR.inv
 generalize hr : runM a0 a1 a2 = r at hR hi hsm
 have hpos : posM r < 1000 := by have := hsm.l; unfold posM; omega
 refine Ev.get (r := true) ?_
 unfold armillarylaw30_ReplicaLeaderProposesPrepared
 refine Ev.bind sane_ev (Ev.bind (run_ev h0 h1 h2.2 h2.1) ?_)
 rw [hr]
 refine Ev.ck (mod3_in h3.1) (Ev.bind (propose_ev hi (entM a3)) ?_)
 by_cases hc : codeM r (entM a3) = 0
 ·have hp : proposeM r (entM a3) = sendM r (proposeMsg r (entM a3)) := by unfold proposeM; rw [if_pos hc]
  obtain ⟨c1, c2, c3, c4⟩ := code_zero hc
  have hd : (rS (sendM r (proposeMsg r (entM a3)))).drop (rS r).length = [(1, rI r, rV r, posM r, crc (encR (proposalE r (entM a3))).2, proposalE r (entM a3))] := List.drop_left
  rw [hp, hd, hc]
  refine Ev.F rfl (Ev.bind (refhigh_ev hi.n1 hi.n2 hi.took hi.bt hi.tl _ _) (Ev.bind (a := proposalE r (entM a3)) ?_ ?_))
  ·unfold armillarylaw30_ReplicaLeaderProposesPrepared.j0 proposalE
   by_cases hh : (hiM (rN r) (rT r) (rV r) (posM r)).2 ≥ 0
   ·rw [if_pos hh]
    exact Ev.F (by rw [show decide ((hiM r.2.1 r.2.2.2.1 r.2.2.1 (r.2.2.2.2.2.length : Int)).2 ≥ 0) = true from decide_eq_true hh]; rfl) (Ev.ret _)
   ·rw [if_neg hh]
    exact Ev.T (by rw [show decide ((hiM r.2.1 r.2.2.2.1 r.2.2.1 (r.2.2.2.2.2.length : Int)).2 ≥ 0) = false from decide_eq_false hh]; rfl) (Ev.ret _)
  ·refine Ev.T rfl (Ev.T rfl (Ev.bind (Ev.of fun _ => leader_eq _ _) (Ev.T (by simpa using c1) (Ev.ck rfl (Ev.bind (Ev.of fun _ => same_self _) (Ev.T rfl (Ev.ck rfl (Ev.T (by simp) (Ev.ck rfl (Ev.T (by simp [posM]) (Ev.ck rfl (Ev.bind (valid_ev _ _) (Ev.cast (Ev.ret _) ?_)))))))))))))
   exact prop_valid hi (entM_bytes a3) hc
 ·have hp : proposeM r (entM a3) = r := by unfold proposeM; rw [if_neg hc]
  rw [hp, List.drop_length]
  refine Ev.T (by simpa using hc) (Ev.T rfl (Ev.T rfl (Ev.bind (sameR_ev hi.sz) (Ev.T rfl ?_))))
  have hcode : codeM r (entM a3) = 321 ∨ codeM r (entM a3) = 290 ∧ leadM (rN r) (rV r) ≠ rI r := by
   have hen : (encR (entM a3)).1 = 0 := by unfold encR; rw [if_pos (entM_ok h3.1)]
   unfold codeM at hc ⊢
   by_cases d1 : leadM (rN r) (rV r) ≠ rI r
   ·rw [if_pos d1]; exact .inr ⟨rfl, d1⟩
   ·rw [if_neg d1, if_neg (by omega), if_neg (by simpa using hen)] at hc ⊢
    by_cases d4 : sentM r 1 = true
    ·rw [if_pos d4]; exact .inl rfl
    ·rw [if_neg d4] at hc; exact absurd rfl hc
  rcases hcode with e | ⟨e, d⟩
  ·rw [e]; exact Ev.T rfl (Ev.ret _)
  ·rw [e]
   refine Ev.F rfl (Ev.T rfl (Ev.bind (Ev.of fun _ => leader_eq _ _) (Ev.cast (Ev.ret _) ?_)))
   simpa using d
end Go.Proofs.Ytijhdekfbjafgaa
namespace Go.Proofs.Ytijhdekfbjafgaa.replicaLeaderProposesPrepared
open Go.ChangeShapes Go.WideShapes Go.ChangeAt Go.RowKit Go.Proofs.Ytijhdekfbjafgaa Go.Proofs.Ytijhdekfbjafgaa.AM
open Go.Proofs.Ytijhdekfbjafgaa.RW hiding lk
set_option linter.unusedVariables false
set_option maxRecDepth 1000000
set_option maxHeartbeats 8000000

theorem own : ownKnob Try.prog.godebug = none := by kernel_rfl
theorem laidOut : laidOutB Try.prog = true := by kernel_rfl
theorem lifted (os : Os) (started : os.Started) (H : Type) (enc : TypeId × Value → H) :
    ReturnsInHanded {} Try.checked os 9 .any (Rows.replicaLeaderProposesPreparedSpec.pre6 enc Try.prog Try.f9 Rows.replicaLeaderProposesPreparedRow.domain false) (Rows.replicaLeaderProposesPreparedSpec.post enc Try.prog Try.f9 false true false false) := by
  refine returnsInHanded_of_change (C := Try.checked) own started (by kernel_rfl) Try.func9
    (ChangeSpec.witness6 (enc := enc) (C := Try.checked) false ⟨#[], #[.int .u8 0, .int .u8 0, .slice none 0 0, .int .u8 0], []⟩ 8 (by kernel_rfl) (by kernel_rfl) (by kernel_rfl) (by kernel_rfl)) ?_
  intro W base args ds gs before hval0 hW hcnd _
  have hval : ∀ (j : Nat) t v, Try.f9.params[j]? = some t → args[j]? = some v → Value.okWide Try.prog W .any base t v := hval0
  have hW' := hW
  obtain ⟨p, q, hA0, hV, rfl, hfz, hnd⟩ := hW
  have hA : DataW.TrodAll enc Try.prog W 0 (fun _ => true) true Try.f9.params.toList args.toList ds p := hA0
  rw [Try.params9] at hA hval
  obtain ⟨v0, vs0, d0, ds0, p0, q0, hargs, rfl, rfl, h0, z0⟩ := trodAll_cons hA
  obtain ⟨v1, vs1, d1, ds1, p1, q1, rfl, rfl, rfl, h1, z1⟩ := trodAll_cons z0
  obtain ⟨v2, vs2, d2, ds2, p2, q2, rfl, rfl, rfl, h2, z2⟩ := trodAll_cons z1
  obtain ⟨v3, vs3, d3, ds3, p3, q3, rfl, rfl, rfl, h3, z3⟩ := trodAll_cons z2
  obtain ⟨rfl, rfl, rfl⟩ := trodAll_nil z3
  obtain rfl : args = #[v0, v1, v2, v3] := by cases args; simp_all
  obtain ⟨rfl, rfl⟩ := trodVars_none hV
  have lt0 : ∀ x ∈ p0, x.block < W.heap.size := by obtain ⟨m, hm⟩ := h0; exact DataW.trod_lt m _ _ _ hm
  obtain ⟨a0, w0, f0, g0⟩ := arg_rel (P := Try.prog) (c := (.int .u8)) (fun _ => none) (by kernel_rfl) (hval 0 5 v0 rfl rfl) h0
  have lt1 : ∀ x ∈ p1, x.block < W.heap.size := by obtain ⟨m, hm⟩ := h1; exact DataW.trod_lt m _ _ _ hm
  obtain ⟨a1, w1, f1, g1⟩ := arg_rel (P := Try.prog) (c := (.int .u8)) (fun _ => none) (by kernel_rfl) (hval 1 5 v1 rfl rfl) h1
  have lt2 : ∀ x ∈ p2, x.block < W.heap.size := by obtain ⟨m, hm⟩ := h2; exact DataW.trod_lt m _ _ _ hm
  obtain ⟨a2, w2, f2, g2⟩ := arg_rel (P := Try.prog) (c := (.row c38)) (fun _ => none) (by kernel_rfl) (hval 2 22 v2 rfl rfl) h2
  have lt3 : ∀ x ∈ p3, x.block < W.heap.size := by obtain ⟨m, hm⟩ := h3; exact DataW.trod_lt m _ _ _ hm
  obtain ⟨a3, w3, f3, g3⟩ := arg_rel (P := Try.prog) (c := (.int .u8)) (fun _ => none) (by kernel_rfl) (hval 3 5 v3 rfl rfl) h3
  clear hA0 hval0
  obtain ⟨n, hn⟩ := armillarylaw30_ReplicaLeaderProposesPrepared_holds a0 w0 a1 w1 a2 w2 a3 w3
  refine (law_calls (fn := Try.f9) (by kernel_rfl) (armillarylaw30_ReplicaLeaderProposesPrepared.ok n) (a0, (a1, (a2, (a3, ())))) hn (vs := [v0, v1, v2, v3]) (Nat.le_of_ble_eq_true (by kernel_rfl)) ⟨rfl, g0 rfl, rfl, g1 rfl, rfl, g2 rfl, rfl, g3 rfl, trivial⟩).mono ?_
  rintro e W' ⟨rfl, bel⟩
  exact ⟨_, rfl, _, _, _, [], _, [], hW', trodAll_mk1 (shut_bool Try.underlying4 _), (trodAll_cons_mk (Below.trod laidOut (by kernel_rfl) (of_decide_eq_true (by kernel_rfl)) h0 bel lt0) (trodAll_cons_mk (Below.trod laidOut (by kernel_rfl) (of_decide_eq_true (by kernel_rfl)) h1 bel lt1) (trodAll_cons_mk (Below.trod laidOut (by kernel_rfl) (of_decide_eq_true (by kernel_rfl)) h2 bel lt2) (trodAll_cons_mk (Below.trod laidOut (by kernel_rfl) (of_decide_eq_true (by kernel_rfl)) h3 bel lt3) trodAll_mk0)))), rfl, bel.frame _, fun h => by cases h⟩

theorem over : Rows.replicaLeaderProposesPreparedRow.holds Try.pinned (OpenSpec.ofChange Rows.replicaLeaderProposesPreparedSpec) :=
  OpenClaim.holds_of_wide 9 Try.f9 rfl rfl rfl rfl rfl rfl rfl ⟨rfl, rfl, rfl, rfl, rfl⟩ rfl rfl rfl rfl rfl (by kernel_rfl) Try.func9 (by kernel_rfl)
    (of_decide_eq_true (by kernel_rfl)) (by unfold Func.isWrapper; first | (rw [if_pos (by decide +kernel)]; kernel_rfl) | (rw [if_neg (by decide +kernel)]; exact ⟨rfl, rfl⟩))
    (fun os started H enc _ => lifted os started H enc)
theorem proved : Rows.ReplicaLeaderProposesPreparedSaid := over
#print axioms proved
end Go.Proofs.Ytijhdekfbjafgaa.replicaLeaderProposesPrepared
