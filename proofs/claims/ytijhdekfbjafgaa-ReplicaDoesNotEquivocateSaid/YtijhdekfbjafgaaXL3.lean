/- A replica's sent messages are valid and its own, and no two are votes of one kind for a slot. -/
import Derived.Test.YtijhdekfbjafgaaX6
import Derived.Test.YtijhdekfbjafgaaRows
import Derived.WalkKit
import Derived.ProofKit
import Derived.OpenShut
import Derived.ShutString
import Derived.ChangeOld
import Derived.Below
import Derived.Carry
import Derived.WideShapes
namespace Go.Proofs.Ytijhdekfbjafgaa
open Go Go.RowKit Go.Proofs.Ytijhdekfbjafgaa.RW
open Go.Proofs.Ytijhdekfbjafgaa.AM hiding lk
set_option linter.unusedVariables false
set_option maxRecDepth 100000
theorem twice_ev {a b : Msg} (h : ¬ twice b a) (k : Nat) (r : Rep) (j : Nat) (hj : j < (rS r).length) (e : (rS r)[j] = b) : armillarylaw30_ReplicaDoesNotEquivocate.j1 k (j : Int) r a = some (.inl ()) := by
 unfold armillarylaw30_ReplicaDoesNotEquivocate.j1
 simp only [inbN hj, AM.ck, cond_true, getD_int hj, e]
 by_cases c1 : a.1 = 4
 ·simp [c1]
 ·by_cases c2 : a.1 = b.1
  ·by_cases c3 : a.2.2.1 = b.2.2.1
   ·by_cases c4 : a.2.2.2.1 = b.2.2.2.1
    ·exact absurd ⟨by show b.1 ≠ 4; rw [← c2]; exact c1, c2.symm, c3.symm, c4.symm⟩ h
    ·rw [show (a.1 != 4) = true from by simpa using c1, show (a.1 == b.1) = true from by simpa using c2, show (a.2.2.1 == b.2.2.1) = true from by simpa using c3, show (a.2.2.2.1 == b.2.2.2.1) = false from by simpa using c4]
     rfl
   ·rw [show (a.1 != 4) = true from by simpa using c1, show (a.1 == b.1) = true from by simpa using c2, show (a.2.2.1 == b.2.2.1) = false from by simpa using c3]
    rfl
  ·rw [show (a.1 != 4) = true from by simpa using c1, show (a.1 == b.1) = false from by simpa using c2]
   rfl
theorem armillarylaw30_ReplicaDoesNotEquivocate_holds (a0 : Int) (w0 : (TC.int .u8).wf a0) (a1 : Int) (w1 : (TC.int .u8).wf a1) (a2 : List S38) (w2 : (TC.row c38).wf a2) : ∃ n, armillarylaw30_ReplicaDoesNotEquivocate n a0 a1 a2 = some true := by
 have h0 := wf_u8 w0
 have h1 := wf_u8 w1
 have h2 := ops_wf w2
 have hR := run_ran (n := a1) h0.1 h2.2
 have hi := hR.inv
 generalize hr : runM a0 a1 a2 = r at hR hi
 have hs := hi.sz.s
 refine Ev.get (r := true) ?_
 unfold armillarylaw30_ReplicaDoesNotEquivocate
 refine Ev.bind sane_ev (Ev.bind (run_ev h0 h1 h2.2 h2.1) ?_)
 rw [hr]
 refine Ev.bind (a := (Sum.inr r : (Bool × Rep) ⊕ Rep)) (loop_run (L := fun k j (s : Int × Rep) => armillarylaw30_ReplicaDoesNotEquivocate.l3 k j s.1 s.2) (S := fun k s => armillarylaw30_ReplicaDoesNotEquivocate.s3 k s.1 s.2) (fun _ _ _ => rfl) (fun i => ((i : Int), r)) (rS r).length _ (fun i hil => ?_) (Ev.of fun k => ?_)) (Ev.ret _)
 ·have hsaid := hi.said _ (List.getElem_mem hil)
  show Ev (fun k => armillarylaw30_ReplicaDoesNotEquivocate.s3 k (i : Int) r) (.inl (((i + 1 : Nat) : Int), r))
  unfold armillarylaw30_ReplicaDoesNotEquivocate.s3
  refine Ev.T (decide_eq_true (by show (i : Int) < ((rS r).length : Int); omega)) (Ev.ck (inbN hil) ?_)
  rw [wr64s i (by omega)]
  show Ev (fun k => (armillarylaw30_ReplicaDoesNotEquivocate.j0 k r ((rS r).getD (i : Int).toNat z34)).bind _) _
  rw [getD_int hil]
  refine Ev.bind (a := (Sum.inl () : Unit ⊕ Bool)) ?_ (Ev.bind (a := (Sum.inr (r, (rS r)[i]) : (Bool × Rep × Msg) ⊕ (Rep × Msg))) ?_ (Ev.ret _))
  ·unfold armillarylaw30_ReplicaDoesNotEquivocate.j0
   exact Ev.F (by simpa [bne] using hsaid.2) (Ev.bind (valid_ev _ _) (Ev.F (by rw [show validM r.2.1 (rS r)[i] = true from hsaid.1]; rfl) (Ev.ret _)))
  ·refine loop_run (L := fun k j (s : Int × (Rep × Msg)) => armillarylaw30_ReplicaDoesNotEquivocate.l2 k j s.1 (i : Int) s.2.1 s.2.2) (S := fun k s => armillarylaw30_ReplicaDoesNotEquivocate.s2 k s.1 (i : Int) s.2.1 s.2.2) (fun _ _ _ => rfl) (fun j => ((j : Int), (r, (rS r)[i]))) i _ (fun j hj => Ev.of fun k => ?_) (Ev.of fun k => ?_)
   ·show armillarylaw30_ReplicaDoesNotEquivocate.s2 k (j : Int) (i : Int) r (rS r)[i] = _
    unfold armillarylaw30_ReplicaDoesNotEquivocate.s2
    rw [show decide ((j : Int) < (i : Int)) = true from decide_eq_true (by omega), twice_ev (List.pairwise_iff_getElem.1 hi.uniq j i (by omega) hil hj) k r j (by omega) rfl, wr64s j (by omega)]
    rfl
   ·show armillarylaw30_ReplicaDoesNotEquivocate.s2 k (i : Int) (i : Int) r (rS r)[i] = _
    unfold armillarylaw30_ReplicaDoesNotEquivocate.s2
    rw [show decide ((i : Int) < (i : Int)) = false from decide_eq_false (by omega)]
    rfl
 ·show armillarylaw30_ReplicaDoesNotEquivocate.s3 k ((rS r).length : Int) r = _
  unfold armillarylaw30_ReplicaDoesNotEquivocate.s3
  rw [show decide (((rS r).length : Int) < (r.2.2.2.2.1.length : Int)) = false from decide_eq_false (by show ¬ (((rS r).length : Int) < ((rS r).length : Int)); omega)]
  rfl
end Go.Proofs.Ytijhdekfbjafgaa
namespace Go.Proofs.Ytijhdekfbjafgaa.replicaDoesNotEquivocate
open Go.ChangeShapes Go.WideShapes Go.ChangeAt Go.RowKit Go.Proofs.Ytijhdekfbjafgaa Go.Proofs.Ytijhdekfbjafgaa.AM
open Go.Proofs.Ytijhdekfbjafgaa.RW hiding lk
set_option linter.unusedVariables false
set_option maxRecDepth 1000000
set_option maxHeartbeats 8000000

theorem own : ownKnob Try.prog.godebug = none := by kernel_rfl
theorem laidOut : laidOutB Try.prog = true := by kernel_rfl
theorem lifted (os : Os) (started : os.Started) (H : Type) (enc : TypeId × Value → H) :
    ReturnsInHanded {} Try.checked os 3 .any (Rows.replicaDoesNotEquivocateSpec.pre6 enc Try.prog Try.f3 Rows.replicaDoesNotEquivocateRow.domain false) (Rows.replicaDoesNotEquivocateSpec.post enc Try.prog Try.f3 false true false false) := by
  refine returnsInHanded_of_change (C := Try.checked) own started (by kernel_rfl) Try.func3
    (ChangeSpec.witness6 (enc := enc) (C := Try.checked) false ⟨#[], #[.int .u8 0, .int .u8 0, .slice none 0 0], []⟩ 8 (by kernel_rfl) (by kernel_rfl) (by kernel_rfl) (by kernel_rfl)) ?_
  intro W base args ds gs before hval0 hW hcnd _
  have hval : ∀ (j : Nat) t v, Try.f3.params[j]? = some t → args[j]? = some v → Value.okWide Try.prog W .any base t v := hval0
  have hW' := hW
  obtain ⟨p, q, hA0, hV, rfl, hfz, hnd⟩ := hW
  have hA : DataW.TrodAll enc Try.prog W 0 (fun _ => true) true Try.f3.params.toList args.toList ds p := hA0
  rw [Try.params3] at hA hval
  obtain ⟨v0, vs0, d0, ds0, p0, q0, hargs, rfl, rfl, h0, z0⟩ := trodAll_cons hA
  obtain ⟨v1, vs1, d1, ds1, p1, q1, rfl, rfl, rfl, h1, z1⟩ := trodAll_cons z0
  obtain ⟨v2, vs2, d2, ds2, p2, q2, rfl, rfl, rfl, h2, z2⟩ := trodAll_cons z1
  obtain ⟨rfl, rfl, rfl⟩ := trodAll_nil z2
  obtain rfl : args = #[v0, v1, v2] := by cases args; simp_all
  obtain ⟨rfl, rfl⟩ := trodVars_none hV
  have lt0 : ∀ x ∈ p0, x.block < W.heap.size := by obtain ⟨m, hm⟩ := h0; exact DataW.trod_lt m _ _ _ hm
  obtain ⟨a0, w0, f0, g0⟩ := arg_rel (P := Try.prog) (c := (.int .u8)) (fun _ => none) (by kernel_rfl) (hval 0 5 v0 rfl rfl) h0
  have lt1 : ∀ x ∈ p1, x.block < W.heap.size := by obtain ⟨m, hm⟩ := h1; exact DataW.trod_lt m _ _ _ hm
  obtain ⟨a1, w1, f1, g1⟩ := arg_rel (P := Try.prog) (c := (.int .u8)) (fun _ => none) (by kernel_rfl) (hval 1 5 v1 rfl rfl) h1
  have lt2 : ∀ x ∈ p2, x.block < W.heap.size := by obtain ⟨m, hm⟩ := h2; exact DataW.trod_lt m _ _ _ hm
  obtain ⟨a2, w2, f2, g2⟩ := arg_rel (P := Try.prog) (c := (.row c38)) (fun _ => none) (by kernel_rfl) (hval 2 22 v2 rfl rfl) h2
  clear hA0 hval0
  obtain ⟨n, hn⟩ := armillarylaw30_ReplicaDoesNotEquivocate_holds a0 w0 a1 w1 a2 w2
  refine (law_calls (fn := Try.f3) (by kernel_rfl) (armillarylaw30_ReplicaDoesNotEquivocate.ok n) (a0, (a1, (a2, ()))) hn (vs := [v0, v1, v2]) (Nat.le_of_ble_eq_true (by kernel_rfl)) ⟨rfl, g0 rfl, rfl, g1 rfl, rfl, g2 rfl, trivial⟩).mono ?_
  rintro e W' ⟨rfl, bel⟩
  exact ⟨_, rfl, _, _, _, [], _, [], hW', trodAll_mk1 (shut_bool Try.underlying4 _), (trodAll_cons_mk (Below.trod laidOut (by kernel_rfl) (of_decide_eq_true (by kernel_rfl)) h0 bel lt0) (trodAll_cons_mk (Below.trod laidOut (by kernel_rfl) (of_decide_eq_true (by kernel_rfl)) h1 bel lt1) (trodAll_cons_mk (Below.trod laidOut (by kernel_rfl) (of_decide_eq_true (by kernel_rfl)) h2 bel lt2) trodAll_mk0))), rfl, bel.frame _, fun h => by cases h⟩

theorem over : Rows.replicaDoesNotEquivocateRow.holds Try.pinned (OpenSpec.ofChange Rows.replicaDoesNotEquivocateSpec) :=
  OpenClaim.holds_of_wide 3 Try.f3 rfl rfl rfl rfl rfl rfl rfl ⟨rfl, rfl, rfl, rfl, rfl⟩ rfl rfl rfl rfl rfl (by kernel_rfl) Try.func3 (by kernel_rfl)
    (of_decide_eq_true (by kernel_rfl)) (by unfold Func.isWrapper; first | (rw [if_pos (by decide +kernel)]; kernel_rfl) | (rw [if_neg (by decide +kernel)]; exact ⟨rfl, rfl⟩))
    (fun os started H enc _ => lifted os started H enc)
theorem proved : Rows.ReplicaDoesNotEquivocateSaid := over
#print axioms proved
end Go.Proofs.Ytijhdekfbjafgaa.replicaDoesNotEquivocate
