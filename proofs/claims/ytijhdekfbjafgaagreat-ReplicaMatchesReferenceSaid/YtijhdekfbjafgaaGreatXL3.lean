/- After any history, handling a message, proposing and timing out answer as the reference. -/
import Derived.Test.YtijhdekfbjafgaaGreatX7
import Derived.Test.YtijhdekfbjafgaaGreatRows
import Derived.WalkKit
import Derived.ProofKit
import Derived.OpenShut
import Derived.ShutString
import Derived.ChangeOld
import Derived.Below
import Derived.Carry
import Derived.WideShapes
namespace Go.Proofs.YtijhdekfbjafgaaGreat
open Go Go.RowKit Go.Proofs.YtijhdekfbjafgaaGreat.RW
open Go.Proofs.YtijhdekfbjafgaaGreat.AM hiding lk
set_option linter.unusedVariables false
set_option maxRecDepth 100000
theorem rapply_ev {r : Rep} (h : Inv r) (hl : (rT r).length < 1000000) {x : OpM} (hx : opWf x) : Ev (fun k => armillaryref30_Apply k r x) (applyM r x, (rS (applyM r x)).drop (rS r).length) := by
 have hn := h.n1
 unfold armillaryref30_Apply applyM
 by_cases c0 : x.1.tmod 12 = 0
 ·rw [if_pos c0]
  exact Ev.T (by simpa using c0) (Ev.bind (Ev.of fun _ => entry_eq hx.2.1) (Ev.bind (rpropose_ev h (entM_bytes x.2.2)) (Ev.ret _)))
 ·rw [if_neg c0]
  refine Ev.F (by simpa using c0) ?_
  by_cases c1 : x.1.tmod 12 = 1
  ·rw [if_pos c1]
   exact Ev.T (by simpa using c1) (Ev.bind (rtimeout_ev h) (Ev.ret _))
  ·rw [if_neg c1]
   refine Ev.F (by simpa using c1) ?_
   by_cases c2 : x.1.tmod 12 = 2
   ·rw [if_pos c2]
    refine Ev.T (by simpa using c2) (Ev.bind (Ev.of fun _ => rrec_eq r) (Ev.cast (Ev.ret _) ?_))
    rw [show rS (recM r) = rS r from rfl, List.drop_length]
   ·rw [if_neg c2]
    refine Ev.F (by simpa using c2) ?_
    exact Ev.bind (made_ev x.2.1 hx.2.1 hn) (Ev.bind (rhandle_ev h (made_bytes _ _ _) hl) (Ev.ret _))
theorem history_ev {i n : Int} (hi : 0 ≤ i ∧ i ≤ 255) (hn : 0 ≤ n ∧ n ≤ 255) {l : List OpM} (hl : ∀ x ∈ l, opWf x) (hlen : l.length ≤ 9223372036854775807) : Ev (fun k => armillaryref30_History k i n l) (runM i n l) := by
 have e1 : W .i64 (1 + (W .i64 (n.tmod 7))) = nM n := by
  rw [Int.tmod_eq_emod_of_nonneg hn.1, wr64 (n := n % 7) (by omega) (by omega), wr64 (by omega) (by omega)]
  rfl
 have hN := nM_in (n := n)
 have e2 : (W .i64 i).tmod (nM n) = i % nM n := by
  rw [wr64 (by omega) (by omega), Int.tmod_eq_emod_of_nonneg hi.1]
 unfold armillaryref30_History
 simp only [e1, e2]
 refine Ev.ck (by rw [decide_eq_false (by omega)]; rfl) (Ev.bind (Ev.of fun _ => rnew_eq _ _) (Ev.bind (a := runM i n l) ?_ (Ev.ret _)))
 refine loop_run (L := fun k j (s : Int × Rep) => armillaryref30_History.l1 k j s.1 l s.2) (S := fun k s => armillaryref30_History.s1 k s.1 l s.2) (fun _ _ _ => rfl)
  (fun j => ((j : Int), (l.take j).foldl applyM (newM (i % nM n) (nM n)))) (min 40 l.length) _ (fun j hj => ?_) (Ev.of fun k => ?_)
 ·have hjl : j < l.length := by omega
  have hR := Ran.fold (l.take j) (Ran.start (new_run (n := n) hi.1) (c := 0) (Nat.le_refl _)) (by rw [List.length_take]; omega) (fun x hx => hl x (List.mem_of_mem_take hx))
  show Ev (fun k => armillaryref30_History.s1 k (j : Int) l ((l.take j).foldl applyM (newM (i % nM n) (nM n)))) (.inl (((j + 1 : Nat) : Int), (l.take (j + 1)).foldl applyM (newM (i % nM n) (nM n))))
  rw [List.take_add_one, List.getElem?_eq_getElem hjl, List.foldl_append]
  unfold armillaryref30_History.s1 armillaryref30_History.j0
  rw [wr64s j (by omega)]
  refine Ev.bind (a := (Sum.inl () : Unit ⊕ Unit)) (Ev.T (decide_eq_true (by omega)) (Ev.T (decide_eq_true (by omega)) (Ev.ret _))) (Ev.ck (inbN hjl) ?_)
  rw [getD_int hjl]
  refine Ev.bind (rapply_ev hR.inv (by have := hR.tl; rw [List.length_take] at this; omega) (hl _ (List.getElem_mem hjl))) (Ev.ret _)
 ·show armillaryref30_History.s1 k ((min 40 l.length : Nat) : Int) l ((l.take (min 40 l.length)).foldl applyM (newM (i % nM n) (nM n))) = _
  unfold armillaryref30_History.s1 armillaryref30_History.j0 runM
  by_cases h : l.length ≤ 40
  ·rw [show decide (((min 40 l.length : Nat) : Int) < (l.length : Int)) = false from decide_eq_false (by omega), show min 40 l.length = l.length from by omega, List.take_length, List.take_of_length_le h]
   rfl
  ·rw [show decide (((min 40 l.length : Nat) : Int) < (l.length : Int)) = true from decide_eq_true (by omega), show decide (((min 40 l.length : Nat) : Int) < 40) = false from decide_eq_false (by omega), show min 40 l.length = 40 from by omega]
   rfl
theorem armillarylaw30_ReplicaMatchesReference_holds (a0 : Int) (w0 : (TC.int .u8).wf a0) (a1 : Int) (w1 : (TC.int .u8).wf a1) (a2 : List S49) (w2 : (TC.row c49).wf a2) (a3 : S28) (w3 : c28.wf a3) (a4 : S26) (w4 : c26.wf a4) : ∃ n, armillarylaw30_ReplicaMatchesReference n a0 a1 a2 a3 a4 = some true := by
 have h0 := wf_u8 w0
 have h1 := wf_u8 w1
 have h2 := ops_wf w2
 have hb3 : bytesE (mE a3) := fun y hy => wf_u8 (w3.2.2.2.2.2.2.2.2 y hy)
 have hb4 : bytesE a4 := fun y hy => wf_u8 (w4.2.2.2 y hy)
 have hR := run_ran (n := a1) h0.1 h2.2
 have hi := hR.inv
 have hrun := run_ev h0 h1 h2.2 h2.1
 have hhis := history_ev h0 h1 h2.2 h2.1
 generalize runM a0 a1 a2 = r at hR hi hrun hhis
 have ht := hR.tl
 have hih := handle_inv hi hb3 (by omega)
 have hit := timeout_inv hi
 have hip := propose_inv hi hb4
 have hd : ∀ (q : Rep), Inv q → ((rS q).drop (rS r).length).length < 4611686018427387904 := fun q hq => by
  have := hq.sz.s
  rw [List.length_drop]
  omega
 refine Ev.get (r := true) ?_
 unfold armillarylaw30_ReplicaMatchesReference
 refine Ev.bind sane_ev (Ev.bind hrun ?_)
 unfold armillarylaw30_ReplicaMatchesReference.j1 armillarylaw30_ReplicaMatchesReference.j0
 by_cases c1 : (a3.2.2.2.2.2.2.2.length : Int) > 300
 ·exact Ev.bind (a := (Sum.inr true : Unit ⊕ Bool)) (Ev.bind (Ev.bind hhis (Ev.bind (sameR_ev hi.sz) (Ev.F rfl (Ev.T (decide_eq_true c1) (Ev.ret _))))) (Ev.T rfl (Ev.T rfl (Ev.T (decide_eq_true c1) (Ev.ret _))))) (Ev.ret _)
 ·by_cases c2 : (a4.2.2.length : Int) > 300
  ·exact Ev.bind (a := (Sum.inr true : Unit ⊕ Bool)) (Ev.bind (Ev.bind hhis (Ev.bind (sameR_ev hi.sz) (Ev.F rfl (Ev.F (decide_eq_false c1) (Ev.ret _))))) (Ev.T (decide_eq_true c2) (Ev.T rfl (Ev.F (decide_eq_false c1) (Ev.cast (Ev.ret _) (by rw [decide_eq_true c2])))))) (Ev.ret _)
  ·refine Ev.bind (a := (Sum.inl () : Unit ⊕ Bool)) (Ev.bind (Ev.bind hhis (Ev.bind (sameR_ev hi.sz) (Ev.F rfl (Ev.F (decide_eq_false c1) (Ev.ret _))))) (Ev.F (decide_eq_false c2) (Ev.ret _))) ?_
   refine Ev.bind (handle_ev hi hb3 (by omega)) (Ev.bind (rhandle_ev hi hb3 (by omega)) (Ev.bind (propose_ev hi a4) (Ev.bind (rpropose_ev hi hb4) (Ev.bind (timeout_ev hi) (Ev.bind (rtimeout_ev hi) ?_)))))
   exact Ev.T rfl (Ev.bind (sameR_ev hih.sz) (Ev.T rfl (Ev.bind (sameMsgs_ev (hd _ hih)) (Ev.T rfl (Ev.bind (sameR_ev hip.sz) (Ev.T rfl (Ev.bind (sameMsgs_ev (hd _ hip)) (Ev.T rfl (Ev.T (beq_self_eq_true _) (Ev.bind (sameR_ev hit.sz) (Ev.T rfl (Ev.bind (sameMsgs_ev (hd _ hit)) (Ev.T rfl (Ev.bind (Ev.of fun _ => rec_eq _) (Ev.bind (Ev.of fun _ => rrec_eq _) (Ev.bind (sameR_ev (rec_inv hi).sz) (Ev.ret _)))))))))))))))))
end Go.Proofs.YtijhdekfbjafgaaGreat
namespace Go.Proofs.YtijhdekfbjafgaaGreat.replicaMatchesReference
open Go.ChangeShapes Go.WideShapes Go.ChangeAt Go.RowKit Go.Proofs.YtijhdekfbjafgaaGreat Go.Proofs.YtijhdekfbjafgaaGreat.AM
open Go.Proofs.YtijhdekfbjafgaaGreat.RW hiding lk
set_option linter.unusedVariables false
set_option maxRecDepth 1000000
set_option maxHeartbeats 8000000

theorem own : ownKnob Tryz.prog.godebug = none := by kernel_rfl
theorem laidOut : laidOutB Tryz.prog = true := by kernel_rfl
theorem lifted (os : Os) (started : os.Started) (H : Type) (enc : TypeId × Value → H) :
    ReturnsInHanded {} Tryz.checked os 3 .any (Rows.replicaMatchesReferenceSpec.pre6 enc Tryz.prog Tryz.f3 Rows.replicaMatchesReferenceRow.domain false) (Rows.replicaMatchesReferenceSpec.post enc Tryz.prog Tryz.f3 false true false false) := by
  refine returnsInHanded_of_change (C := Tryz.checked) own started (by kernel_rfl) Tryz.func3
    (ChangeSpec.witness6 (enc := enc) (C := Tryz.checked) false ⟨#[], #[.int .u8 0, .int .u8 0, .slice none 0 0, .agg #[.int .i64 0, .int .i64 0, .int .i64 0, .int .i64 0, .int .u32 0, .int .i64 0, .string ⟨#[]⟩, .slice none 0 0], .agg #[.int .i64 0, .string ⟨#[]⟩, .slice none 0 0]], []⟩ 8 (by kernel_rfl) (by kernel_rfl) (by kernel_rfl) (by kernel_rfl)) ?_
  intro W base args ds gs before hval0 hW hcnd _
  have hval : ∀ (j : Nat) t v, Tryz.f3.params[j]? = some t → args[j]? = some v → Value.okWide Tryz.prog W .any base t v := hval0
  have hW' := hW
  obtain ⟨p, q, hA0, hV, rfl, hfz, hnd⟩ := hW
  have hA : DataW.TrodAll enc Tryz.prog W 0 (fun _ => true) true Tryz.f3.params.toList args.toList ds p := hA0
  rw [Tryz.params3] at hA hval
  obtain ⟨v0, vs0, d0, ds0, p0, q0, hargs, rfl, rfl, h0, z0⟩ := trodAll_cons hA
  obtain ⟨v1, vs1, d1, ds1, p1, q1, rfl, rfl, rfl, h1, z1⟩ := trodAll_cons z0
  obtain ⟨v2, vs2, d2, ds2, p2, q2, rfl, rfl, rfl, h2, z2⟩ := trodAll_cons z1
  obtain ⟨v3, vs3, d3, ds3, p3, q3, rfl, rfl, rfl, h3, z3⟩ := trodAll_cons z2
  obtain ⟨v4, vs4, d4, ds4, p4, q4, rfl, rfl, rfl, h4, z4⟩ := trodAll_cons z3
  obtain ⟨rfl, rfl, rfl⟩ := trodAll_nil z4
  obtain rfl : args = #[v0, v1, v2, v3, v4] := by cases args; simp_all
  obtain ⟨rfl, rfl⟩ := trodVars_none hV
  have lt0 : ∀ x ∈ p0, x.block < W.heap.size := by obtain ⟨m, hm⟩ := h0; exact DataW.trod_lt m _ _ _ hm
  obtain ⟨a0, w0, f0, g0⟩ := arg_rel (P := Tryz.prog) (c := (.int .u8)) (fun _ => none) (by kernel_rfl) (hval 0 5 v0 rfl rfl) h0
  have lt1 : ∀ x ∈ p1, x.block < W.heap.size := by obtain ⟨m, hm⟩ := h1; exact DataW.trod_lt m _ _ _ hm
  obtain ⟨a1, w1, f1, g1⟩ := arg_rel (P := Tryz.prog) (c := (.int .u8)) (fun _ => none) (by kernel_rfl) (hval 1 5 v1 rfl rfl) h1
  have lt2 : ∀ x ∈ p2, x.block < W.heap.size := by obtain ⟨m, hm⟩ := h2; exact DataW.trod_lt m _ _ _ hm
  obtain ⟨a2, w2, f2, g2⟩ := arg_rel (P := Tryz.prog) (c := (.row c49)) (fun _ => none) (by kernel_rfl) (hval 2 22 v2 rfl rfl) h2
  have lt3 : ∀ x ∈ p3, x.block < W.heap.size := by obtain ⟨m, hm⟩ := h3; exact DataW.trod_lt m _ _ _ hm
  obtain ⟨a3, w3, f3, g3⟩ := arg_rel (P := Tryz.prog) (c := c28) (fun _ => none) (by kernel_rfl) (hval 3 28 v3 rfl rfl) h3
  have lt4 : ∀ x ∈ p4, x.block < W.heap.size := by obtain ⟨m, hm⟩ := h4; exact DataW.trod_lt m _ _ _ hm
  obtain ⟨a4, w4, f4, g4⟩ := arg_rel (P := Tryz.prog) (c := c26) (fun _ => none) (by kernel_rfl) (hval 4 26 v4 rfl rfl) h4
  clear hA0 hval0
  obtain ⟨n, hn⟩ := armillarylaw30_ReplicaMatchesReference_holds a0 w0 a1 w1 a2 w2 a3 w3 a4 w4
  refine (law_calls (fn := Tryz.f3) (by kernel_rfl) (armillarylaw30_ReplicaMatchesReference.ok n) (a0, (a1, (a2, (a3, (a4, ()))))) hn (vs := [v0, v1, v2, v3, v4]) (Nat.le_of_ble_eq_true (by kernel_rfl)) ⟨rfl, g0 rfl, rfl, g1 rfl, rfl, g2 rfl, rfl, f3 rfl, rfl, f4 rfl, trivial⟩).mono ?_
  rintro e W' ⟨rfl, bel⟩
  exact ⟨_, rfl, _, _, _, [], _, [], hW', trodAll_mk1 (shut_bool Tryz.underlying4 _), (trodAll_cons_mk (Below.trod laidOut (by kernel_rfl) (of_decide_eq_true (by kernel_rfl)) h0 bel lt0) (trodAll_cons_mk (Below.trod laidOut (by kernel_rfl) (of_decide_eq_true (by kernel_rfl)) h1 bel lt1) (trodAll_cons_mk (Below.trod laidOut (by kernel_rfl) (of_decide_eq_true (by kernel_rfl)) h2 bel lt2) (trodAll_cons_mk (Below.trod laidOut (by kernel_rfl) (of_decide_eq_true (by kernel_rfl)) h3 bel lt3) (trodAll_cons_mk (Below.trod laidOut (by kernel_rfl) (of_decide_eq_true (by kernel_rfl)) h4 bel lt4) trodAll_mk0))))), rfl, bel.frame _, fun h => by cases h⟩

theorem over : Rows.replicaMatchesReferenceRow.holds Tryz.pinned (OpenSpec.ofChange Rows.replicaMatchesReferenceSpec) :=
  OpenClaim.holds_of_wide 3 Tryz.f3 rfl rfl rfl rfl rfl rfl rfl ⟨rfl, rfl, rfl, rfl, rfl⟩ rfl rfl rfl rfl rfl (by kernel_rfl) Tryz.func3 (by kernel_rfl)
    (of_decide_eq_true (by kernel_rfl)) (by unfold Func.isWrapper; first | (rw [if_pos (by decide +kernel)]; kernel_rfl) | (rw [if_neg (by decide +kernel)]; exact ⟨rfl, rfl⟩))
    (fun os started H enc _ => lifted os started H enc)
theorem proved : Rows.ReplicaMatchesReferenceSaid := over
#print axioms proved
end Go.Proofs.YtijhdekfbjafgaaGreat.replicaMatchesReference
