/- A crash keeps the log, the view and the sent messages; no message is repeated behind it. -/
import Derived.Test.YtijhdekfbjafgaaX6
import Derived.Test.YtijhdekfbjafgaaRows
import Derived.WalkKit
import Derived.ProofKit
import Derived.OpenShut
import Derived.ShutString
import Derived.ChangeOld
import Derived.Below
import Derived.Carry
import Derived.WideShapes
namespace Go.Proofs.Ytijhdekfbjafgaa
open Go Go.RowKit Go.Proofs.Ytijhdekfbjafgaa.RW
open Go.Proofs.Ytijhdekfbjafgaa.AM hiding lk
set_option linter.unusedVariables false
set_option maxRecDepth 100000
theorem twice3_ev {a b : Msg} (h : ¬ twice b a) (k : Nat) (r q : Rep) (i j : Nat) (hi : i < (rS q).length) (hj : j < (rS r).length) (e1 : (rS q)[i] = a) (e2 : (rS r)[j] = b) : armillarylaw30_ReplicaRecovery.j3 k (i : Int) (j : Int) r q = some (.inl ()) := by
 unfold armillarylaw30_ReplicaRecovery.j3
 simp only [inbN hi, inbN hj, AM.ck, cond_true, getD_int hi, getD_int hj, e1, e2]
 by_cases c1 : a.1 = 4
 ·simp [c1]
 ·by_cases c2 : a.1 = b.1
  ·by_cases c3 : a.2.2.1 = b.2.2.1
   ·by_cases c4 : a.2.2.2.1 = b.2.2.2.1
    ·exact absurd ⟨by show b.1 ≠ 4; rw [← c2]; exact c1, c2.symm, c3.symm, c4.symm⟩ h
    ·rw [show (a.1 != 4) = true from by simpa using c1, show (a.1 == b.1) = true from by simpa using c2, show (a.2.2.1 == b.2.2.1) = true from by simpa using c3, show (a.2.2.2.1 == b.2.2.2.1) = false from by simpa using c4]
     rfl
   ·rw [show (a.1 != 4) = true from by simpa using c1, show (a.1 == b.1) = true from by simpa using c2, show (a.2.2.1 == b.2.2.1) = false from by simpa using c3]
    rfl
  ·rw [show (a.1 != 4) = true from by simpa using c1, show (a.1 == b.1) = false from by simpa using c2]
   rfl
theorem armillarylaw30_ReplicaRecovery_holds (a0 : Int) (w0 : (TC.int .u8).wf a0) (a1 : Int) (w1 : (TC.int .u8).wf a1) (a2 : List S38) (w2 : (TC.row c38).wf a2) (a3 : List S38) (w3 : (TC.row c38).wf a3) : ∃ n, armillarylaw30_ReplicaRecovery n a0 a1 a2 a3 = some true := by
 have h0 := wf_u8 w0
 have h1 := wf_u8 w1
 have h2 := ops_wf w2
 have h3 := ops_wf w3
 have h3l := h3.1
 have hR := run_ran (n := a1) h0.1 h2.2
 have hi := hR.inv
 generalize hr : runM a0 a1 a2 = r at hR hi
 have hs := hi.sz.s
 have hg := hi.sz.g
 have hrec := rec_inv hi
 have hfold : ∀ c, Ran (recM r) c ((a3.take c).foldl applyM (recM r)) ∨ 1000000 < c := by
  intro c
  by_cases hc : c ≤ 1000000
  ·have h := Ran.fold (a3.take c) (Ran.start hrec (c := 0) (Nat.le_refl _)) (by rw [List.length_take]; omega) (fun x hx => h3.2 x (List.mem_of_mem_take hx))
   exact .inl ⟨h.inv, h.keeps, Nat.le_trans h.tl (by rw [List.length_take]; omega), h.view⟩
  ·exact .inr (by omega)
 have hq := (hfold 10).resolve_right (by omega)
 generalize hqe : (a3.take 10).foldl applyM (recM r) = q at hq
 have hks : rS r <+: rS q := hq.keeps.s
 have hqi := hq.inv
 have hqs := hqi.sz.s
 refine Ev.get (r := true) ?_
 unfold armillarylaw30_ReplicaRecovery
 refine Ev.bind sane_ev (Ev.bind (run_ev h0 h1 h2.2 h2.1) ?_)
 rw [hr]
 refine Ev.bind (Ev.of fun _ => rec_eq r) (Ev.bind (a := (Sum.inl () : Unit ⊕ Bool)) ?_ (Ev.bind (a := q) ?_ (Ev.bind (a := (Sum.inr (r, q) : (Bool × Rep × Rep) ⊕ (Rep × Rep))) ?_ (Ev.ret _))))
 ·unfold armillarylaw30_ReplicaRecovery.j0
  refine Ev.F rfl (Ev.F (by simp [bne, recM]) (Ev.bind (sameLog_ev (l := rL r) (by omega)) (Ev.F rfl (Ev.bind (sameMsgs_ev (l := rS r) (by omega)) (Ev.F rfl (Ev.F (by simp [bne, recM]) (Ev.F (by simp [bne, recM]) (Ev.ret _))))))))
 ·have hrun := loop_run (L := fun k j (s : Int × Rep) => armillarylaw30_ReplicaRecovery.l2 k j s.1 a3 s.2) (S := fun k s => armillarylaw30_ReplicaRecovery.s2 k s.1 a3 s.2) (fun _ _ _ => rfl) (fun j => ((j : Int), (a3.take j).foldl applyM (recM r))) (min 10 a3.length) q (fun j hj => ?_) (Ev.of fun k => ?_)
  ·exact hrun
  ·have hjl : j < a3.length := by omega
   have hRj := (hfold j).resolve_right (by omega)
   show Ev (fun k => armillarylaw30_ReplicaRecovery.s2 k (j : Int) a3 ((a3.take j).foldl applyM (recM r))) (.inl (((j + 1 : Nat) : Int), (a3.take (j + 1)).foldl applyM (recM r)))
   rw [List.take_add_one, List.getElem?_eq_getElem hjl, List.foldl_append]
   unfold armillarylaw30_ReplicaRecovery.s2 armillarylaw30_ReplicaRecovery.j1
   rw [wr64s j (by omega)]
   refine Ev.bind (a := (Sum.inl () : Unit ⊕ Unit)) (Ev.T (decide_eq_true (by omega)) (Ev.T (decide_eq_true (by omega)) (Ev.ret _))) (Ev.ck (inbN hjl) ?_)
   rw [getD_int hjl]
   exact Ev.bind (apply_ev hRj.inv (by have := hRj.tl; omega) (h3.2 _ (List.getElem_mem hjl))) (Ev.ret _)
  ·show armillarylaw30_ReplicaRecovery.s2 k ((min 10 a3.length : Nat) : Int) a3 ((a3.take (min 10 a3.length)).foldl applyM (recM r)) = _
   unfold armillarylaw30_ReplicaRecovery.s2 armillarylaw30_ReplicaRecovery.j1
   rw [← hqe]
   by_cases h : a3.length ≤ 10
   ·rw [show decide (((min 10 a3.length : Nat) : Int) < (a3.length : Int)) = false from decide_eq_false (by omega), show min 10 a3.length = a3.length from by omega, List.take_length, List.take_of_length_le h]
    rfl
   ·rw [show decide (((min 10 a3.length : Nat) : Int) < (a3.length : Int)) = true from decide_eq_true (by omega), show decide (((min 10 a3.length : Nat) : Int) < 10) = false from decide_eq_false (by omega), show min 10 a3.length = 10 from by omega]
    rfl
 ·have hle := hks.length_le
  have hrun := loop_run (L := fun k j (s : Int × Rep × Rep) => armillarylaw30_ReplicaRecovery.l5 k j s.1 s.2.1 s.2.2) (S := fun k s => armillarylaw30_ReplicaRecovery.s5 k s.1 s.2.1 s.2.2) (fun _ _ _ => rfl) (fun i => ((((rS r).length + i : Nat) : Int), r, q)) ((rS q).length - (rS r).length) (.inr (r, q)) (fun i hil => ?_) (Ev.of fun k => ?_)
  ·exact hrun
  ·have hj : (rS r).length + i < (rS q).length := by omega
   show Ev (fun k => armillarylaw30_ReplicaRecovery.s5 k (((rS r).length + i : Nat) : Int) r q) (.inl ((((rS r).length + (i + 1) : Nat) : Int), r, q))
   unfold armillarylaw30_ReplicaRecovery.s5
   rw [wr64s _ (by omega)]
   refine Ev.T (decide_eq_true (show (((rS r).length + i : Nat) : Int) < ((rS q).length : Int) by omega)) (Ev.bind (a := (Sum.inr (r, q) : (Bool × Rep × Rep) ⊕ (Rep × Rep))) ?_ (Ev.ret _))
   refine loop_run (L := fun k j (s : Int × Rep × Rep) => armillarylaw30_ReplicaRecovery.l4 k j s.1 (((rS r).length + i : Nat) : Int) s.2.1 s.2.2) (S := fun k s => armillarylaw30_ReplicaRecovery.s4 k s.1 (((rS r).length + i : Nat) : Int) s.2.1 s.2.2) (fun _ _ _ => rfl) (fun j => ((j : Int), r, q)) (rS r).length _ (fun j hjr => Ev.of fun k => ?_) (Ev.of fun k => ?_)
   ·obtain ⟨hb, he⟩ := pre_get hks hjr
    show armillarylaw30_ReplicaRecovery.s4 k (j : Int) (((rS r).length + i : Nat) : Int) r q = _
    unfold armillarylaw30_ReplicaRecovery.s4
    rw [show decide ((j : Int) < (r.2.2.2.2.1.length : Int)) = true from decide_eq_true (show (j : Int) < ((rS r).length : Int) by omega), twice3_ev (List.pairwise_iff_getElem.1 hqi.uniq j _ hb hj (by omega)) k r q _ j hj hjr rfl he.symm, wr64s j (by omega)]
    rfl
   ·show armillarylaw30_ReplicaRecovery.s4 k ((rS r).length : Int) (((rS r).length + i : Nat) : Int) r q = _
    unfold armillarylaw30_ReplicaRecovery.s4
    rw [show decide (((rS r).length : Int) < (r.2.2.2.2.1.length : Int)) = false from decide_eq_false (show ¬ (((rS r).length : Int) < ((rS r).length : Int)) by omega)]
    rfl
  ·show armillarylaw30_ReplicaRecovery.s5 k (((rS r).length + ((rS q).length - (rS r).length) : Nat) : Int) r q = _
   unfold armillarylaw30_ReplicaRecovery.s5
   rw [show decide ((((rS r).length + ((rS q).length - (rS r).length) : Nat) : Int) < (q.2.2.2.2.1.length : Int)) = false from decide_eq_false (show ¬ ((((rS r).length + ((rS q).length - (rS r).length) : Nat) : Int) < ((rS q).length : Int)) by omega)]
   rfl
end Go.Proofs.Ytijhdekfbjafgaa
namespace Go.Proofs.Ytijhdekfbjafgaa.replicaRecovery
open Go.ChangeShapes Go.WideShapes Go.ChangeAt Go.RowKit Go.Proofs.Ytijhdekfbjafgaa Go.Proofs.Ytijhdekfbjafgaa.AM
open Go.Proofs.Ytijhdekfbjafgaa.RW hiding lk
set_option linter.unusedVariables false
set_option maxRecDepth 1000000
set_option maxHeartbeats 8000000

theorem own : ownKnob Try.prog.godebug = none := by kernel_rfl
theorem laidOut : laidOutB Try.prog = true := by kernel_rfl
theorem lifted (os : Os) (started : os.Started) (H : Type) (enc : TypeId × Value → H) :
    ReturnsInHanded {} Try.checked os 8 .any (Rows.replicaRecoverySpec.pre6 enc Try.prog Try.f8 Rows.replicaRecoveryRow.domain false) (Rows.replicaRecoverySpec.post enc Try.prog Try.f8 false true false false) := by
  refine returnsInHanded_of_change (C := Try.checked) own started (by kernel_rfl) Try.func8
    (ChangeSpec.witness6 (enc := enc) (C := Try.checked) false ⟨#[], #[.int .u8 0, .int .u8 0, .slice none 0 0, .slice none 0 0], []⟩ 8 (by kernel_rfl) (by kernel_rfl) (by kernel_rfl) (by kernel_rfl)) ?_
  intro W base args ds gs before hval0 hW hcnd _
  have hval : ∀ (j : Nat) t v, Try.f8.params[j]? = some t → args[j]? = some v → Value.okWide Try.prog W .any base t v := hval0
  have hW' := hW
  obtain ⟨p, q, hA0, hV, rfl, hfz, hnd⟩ := hW
  have hA : DataW.TrodAll enc Try.prog W 0 (fun _ => true) true Try.f8.params.toList args.toList ds p := hA0
  rw [Try.params8] at hA hval
  obtain ⟨v0, vs0, d0, ds0, p0, q0, hargs, rfl, rfl, h0, z0⟩ := trodAll_cons hA
  obtain ⟨v1, vs1, d1, ds1, p1, q1, rfl, rfl, rfl, h1, z1⟩ := trodAll_cons z0
  obtain ⟨v2, vs2, d2, ds2, p2, q2, rfl, rfl, rfl, h2, z2⟩ := trodAll_cons z1
  obtain ⟨v3, vs3, d3, ds3, p3, q3, rfl, rfl, rfl, h3, z3⟩ := trodAll_cons z2
  obtain ⟨rfl, rfl, rfl⟩ := trodAll_nil z3
  obtain rfl : args = #[v0, v1, v2, v3] := by cases args; simp_all
  obtain ⟨rfl, rfl⟩ := trodVars_none hV
  have lt0 : ∀ x ∈ p0, x.block < W.heap.size := by obtain ⟨m, hm⟩ := h0; exact DataW.trod_lt m _ _ _ hm
  obtain ⟨a0, w0, f0, g0⟩ := arg_rel (P := Try.prog) (c := (.int .u8)) (fun _ => none) (by kernel_rfl) (hval 0 5 v0 rfl rfl) h0
  have lt1 : ∀ x ∈ p1, x.block < W.heap.size := by obtain ⟨m, hm⟩ := h1; exact DataW.trod_lt m _ _ _ hm
  obtain ⟨a1, w1, f1, g1⟩ := arg_rel (P := Try.prog) (c := (.int .u8)) (fun _ => none) (by kernel_rfl) (hval 1 5 v1 rfl rfl) h1
  have lt2 : ∀ x ∈ p2, x.block < W.heap.size := by obtain ⟨m, hm⟩ := h2; exact DataW.trod_lt m _ _ _ hm
  obtain ⟨a2, w2, f2, g2⟩ := arg_rel (P := Try.prog) (c := (.row c38)) (fun _ => none) (by kernel_rfl) (hval 2 22 v2 rfl rfl) h2
  have lt3 : ∀ x ∈ p3, x.block < W.heap.size := by obtain ⟨m, hm⟩ := h3; exact DataW.trod_lt m _ _ _ hm
  obtain ⟨a3, w3, f3, g3⟩ := arg_rel (P := Try.prog) (c := (.row c38)) (fun _ => none) (by kernel_rfl) (hval 3 22 v3 rfl rfl) h3
  clear hA0 hval0
  obtain ⟨n, hn⟩ := armillarylaw30_ReplicaRecovery_holds a0 w0 a1 w1 a2 w2 a3 w3
  refine (law_calls (fn := Try.f8) (by kernel_rfl) (armillarylaw30_ReplicaRecovery.ok n) (a0, (a1, (a2, (a3, ())))) hn (vs := [v0, v1, v2, v3]) (Nat.le_of_ble_eq_true (by kernel_rfl)) ⟨rfl, g0 rfl, rfl, g1 rfl, rfl, g2 rfl, rfl, g3 rfl, trivial⟩).mono ?_
  rintro e W' ⟨rfl, bel⟩
  exact ⟨_, rfl, _, _, _, [], _, [], hW', trodAll_mk1 (shut_bool Try.underlying4 _), (trodAll_cons_mk (Below.trod laidOut (by kernel_rfl) (of_decide_eq_true (by kernel_rfl)) h0 bel lt0) (trodAll_cons_mk (Below.trod laidOut (by kernel_rfl) (of_decide_eq_true (by kernel_rfl)) h1 bel lt1) (trodAll_cons_mk (Below.trod laidOut (by kernel_rfl) (of_decide_eq_true (by kernel_rfl)) h2 bel lt2) (trodAll_cons_mk (Below.trod laidOut (by kernel_rfl) (of_decide_eq_true (by kernel_rfl)) h3 bel lt3) trodAll_mk0)))), rfl, bel.frame _, fun h => by cases h⟩

theorem over : Rows.replicaRecoveryRow.holds Try.pinned (OpenSpec.ofChange Rows.replicaRecoverySpec) :=
  OpenClaim.holds_of_wide 8 Try.f8 rfl rfl rfl rfl rfl rfl rfl ⟨rfl, rfl, rfl, rfl, rfl⟩ rfl rfl rfl rfl rfl (by kernel_rfl) Try.func8 (by kernel_rfl)
    (of_decide_eq_true (by kernel_rfl)) (by unfold Func.isWrapper; first | (rw [if_pos (by decide +kernel)]; kernel_rfl) | (rw [if_neg (by decide +kernel)]; exact ⟨rfl, rfl⟩))
    (fun os started H enc _ => lifted os started H enc)
theorem proved : Rows.ReplicaRecoverySaid := over
#print axioms proved
end Go.Proofs.Ytijhdekfbjafgaa.replicaRecovery
