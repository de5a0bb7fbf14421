/- What a handled message commits has a quorum of commit messages behind it. -/
import Derived.Test.YtijhdekfbjafgaaX6
import Derived.Test.YtijhdekfbjafgaaRows
import Derived.WalkKit
import Derived.ProofKit
import Derived.OpenShut
import Derived.ShutString
import Derived.ChangeOld
import Derived.Below
import Derived.Carry
import Derived.WideShapes
namespace Go.Proofs.Ytijhdekfbjafgaa
open Go Go.RowKit Go.Proofs.Ytijhdekfbjafgaa.RW
open Go.Proofs.Ytijhdekfbjafgaa.AM hiding lk
set_option linter.unusedVariables false
set_option maxRecDepth 100000
theorem armillarylaw30_ReplicaCommitsWithQuorum_holds (a0 : Int) (w0 : (TC.int .u8).wf a0) (a1 : Int) (w1 : (TC.int .u8).wf a1) (a2 : List S38) (w2 : (TC.row c38).wf a2) (a3 : S34) (w3 : c34.wf a3) (a4 : Int) (w4 : (TC.int .u8).wf a4) : ∃ n, armillarylaw30_ReplicaCommitsWithQuorum n a0 a1 a2 a3 a4 = some true := by
 have h0 := wf_u8 w0
 have h1 := wf_u8 w1
 have h2 := ops_wf w2
 have h4 := wf_u8 w4
 have hR := run_ran (n := a1) h0.1 h2.2
 have hsm := run_small (n := a1) h0.1 h2.2
 have hi := hR.inv
 generalize hr : runM a0 a1 a2 = r at hR hi hsm
 have ht := hR.tl
 have hn := hi.n1
 have hb := made_bytes a3 a4 (rN r)
 have hi2 := handle_inv hi hb (by omega)
 have hbk := handle_backed hi hsm hb (by omega) (made_seq a3 a4 (rN r)) (made_view a3 a4 (rN r)).2
 have hk := handle_keeps hi hb (by omega)
 have l1 := hk.l.length_le
 refine Ev.get (r := true) ?_
 unfold armillarylaw30_ReplicaCommitsWithQuorum
 refine Ev.bind sane_ev (Ev.bind (run_ev h0 h1 h2.2 h2.1) ?_)
 rw [hr]
 refine Ev.F (decide_eq_false (show ¬ (rN r < 1) by omega)) (Ev.bind (made_ev a3 h4.1 hn) (Ev.bind (handle_ev hi hb (by omega)) ?_))
 generalize handleM r (madeM a3 a4 (rN r)) = q at hi2 hbk hk l1
 have hg := hi2.gl
 have hbl := hi2.bl
 have hbt := hi2.bt
 have htl := hi2.tl
 refine Ev.bind (a := (Sum.inr q : (Bool × Rep) ⊕ Rep)) ?_ (Ev.ret _)
 show Ev (fun n => armillarylaw30_ReplicaCommitsWithQuorum.l1 n n ((rL r).length : Int) q) _
 have hrun := loop_run (L := fun k j (s : Int × Rep) => armillarylaw30_ReplicaCommitsWithQuorum.l1 k j s.1 s.2) (S := fun k s => armillarylaw30_ReplicaCommitsWithQuorum.s1 k s.1 s.2) (fun _ _ _ => rfl) (fun i => ((((rL r).length + i : Nat) : Int), q)) ((rL q).length - (rL r).length) (.inr q) (fun i hil => ?_) (Ev.of fun k => ?_)
 ·exact hrun
 ·have hj : (rL r).length + i < (rL q).length := by omega
  obtain ⟨he, v, v0, v3, hd⟩ := hbk _ hj (by omega)
  show Ev (fun k => armillarylaw30_ReplicaCommitsWithQuorum.s1 k (((rL r).length + i : Nat) : Int) q) (.inl (((((rL r).length + (i + 1)) : Nat) : Int), q))
  unfold armillarylaw30_ReplicaCommitsWithQuorum.s1
  refine Ev.T (decide_eq_true (show (((rL r).length + i : Nat) : Int) < ((rL q).length : Int) by omega)) (Ev.ck (inbN hj) ?_)
  show Ev (fun k => (armillaryref27_EncodeEntry k ((rL q).getD (((rL r).length + i : Nat) : Int).toNat z32)).bind _) _
  rw [getD_int hj, wr64s _ (by omega)]
  have hby := encR_byte (hbl _ (List.getElem_mem hj))
  have hcl := encR_len (rL q)[(rL r).length + i]
  have hen : encR (rL q)[(rL r).length + i] = (0, encB (rL q)[(rL r).length + i]) := by unfold encR; rw [if_pos he]
  refine Ev.bind (refenc_ev _) ?_
  rw [hen] at hby hcl ⊢
  refine Ev.F rfl (Ev.bind (a := (true, q)) ?_ (Ev.ret _))
  have hrun := loop_run (L := fun k j (s : Bool × Int × Rep) => armillarylaw30_ReplicaCommitsWithQuorum.l0 k j s.1 s.2.1 (((rL r).length + i : Nat) : Int) (encB (rL q)[(rL r).length + i]) s.2.2) (S := fun k s => armillarylaw30_ReplicaCommitsWithQuorum.s0 k s.1 s.2.1 (((rL r).length + i : Nat) : Int) (encB (rL q)[(rL r).length + i]) s.2.2) (fun _ _ _ => rfl)
   (fun j => (decide (∃ u : Nat, u < j ∧ decM (rN q) (rT q) 3 (u : Int) (((rL r).length + i : Nat) : Int) = some (crc (encB (rL q)[(rL r).length + i]))), (j : Int), q)) 4 (true, q) (fun j hj4 => ?_) (Ev.of fun k => ?_)
  ·rw [show decide (∃ u : Nat, u < 0 ∧ decM (rN q) (rT q) 3 (u : Int) (((rL r).length + i : Nat) : Int) = some (crc (encB (rL q)[(rL r).length + i]))) = false from decide_eq_false (by rintro ⟨u, h, _⟩; omega)] at hrun
   exact hrun
  ·simp only
   unfold armillarylaw30_ReplicaCommitsWithQuorum.s0
   rw [wr64s j (by omega)]
   refine Ev.T (decide_eq_true (by omega)) (Ev.bind (refcomm_ev hi2.n1 hi2.n2 hi2.took hbt htl _ _) ?_)
   by_cases hx : ∃ u : Nat, u < j ∧ decM (rN q) (rT q) 3 (u : Int) (((rL r).length + i : Nat) : Int) = some (crc (encB (rL q)[(rL r).length + i]))
   ·refine Ev.T (decide_eq_true hx) (Ev.cast (Ev.ret _) ?_)
    obtain ⟨u, hu, hd⟩ := hx
    rw [decide_eq_true (⟨u, by omega, hd⟩ : ∃ u : Nat, u < j + 1 ∧ decM (rN q) (rT q) 3 (u : Int) (((rL r).length + i : Nat) : Int) = some (crc (encB (rL q)[(rL r).length + i])))]
   ·refine Ev.F (decide_eq_false hx) ?_
    have hiff : (∃ u : Nat, u < j + 1 ∧ decM (rN q) (rT q) 3 (u : Int) (((rL r).length + i : Nat) : Int) = some (crc (encB (rL q)[(rL r).length + i]))) ↔ decM (rN q) (rT q) 3 (j : Int) (((rL r).length + i : Nat) : Int) = some (crc (encB (rL q)[(rL r).length + i])) := by
     constructor
     ·rintro ⟨u, hu, hd⟩
      by_cases e : u = j
      ·rw [← e]; exact hd
      ·exact absurd ⟨u, by omega, hd⟩ hx
     ·intro hd; exact ⟨j, by omega, hd⟩
    cases hdd : decM (rN q) (rT q) 3 (j : Int) (((rL r).length + i : Nat) : Int) with
    | none =>
     refine Ev.F rfl (Ev.cast (Ev.ret _) ?_)
     rw [decide_eq_false (fun h => by have := hiff.1 h; rw [hdd] at this; cases this)]
    | some s =>
     refine Ev.T rfl (Ev.bind (refcrc_ev (by simp only at hcl; omega) hby) (Ev.cast (Ev.ret _) ?_))
     simp only [Option.getD_some]
     congr 2
     rw [Bool.eq_iff_iff, beq_iff_eq, decide_eq_true_eq, hiff, hdd]
     exact ⟨fun h => by rw [h], fun h => Option.some.inj h⟩
  ·simp only
   unfold armillarylaw30_ReplicaCommitsWithQuorum.s0
   rw [show decide (((4 : Nat) : Int) < 4) = false from rfl, decide_eq_true (⟨v.toNat, by omega, by rw [show ((v.toNat : Nat) : Int) = v from by omega]; exact hd⟩ : ∃ u : Nat, u < 4 ∧ decM (rN q) (rT q) 3 (u : Int) (((rL r).length + i : Nat) : Int) = some (crc (encB (rL q)[(rL r).length + i])))]
   rfl
 ·show armillarylaw30_ReplicaCommitsWithQuorum.s1 k (((rL r).length + ((rL q).length - (rL r).length) : Nat) : Int) q = _
  unfold armillarylaw30_ReplicaCommitsWithQuorum.s1
  rw [show decide ((((rL r).length + ((rL q).length - (rL r).length) : Nat) : Int) < (q.2.2.2.2.2.length : Int)) = false from decide_eq_false (by show ¬ ((((rL r).length + ((rL q).length - (rL r).length) : Nat) : Int) < ((rL q).length : Int)); omega)]
  rfl
end Go.Proofs.Ytijhdekfbjafgaa
namespace Go.Proofs.Ytijhdekfbjafgaa.replicaCommitsWithQuorum
open Go.ChangeShapes Go.WideShapes Go.ChangeAt Go.RowKit Go.Proofs.Ytijhdekfbjafgaa Go.Proofs.Ytijhdekfbjafgaa.AM
open Go.Proofs.Ytijhdekfbjafgaa.RW hiding lk
set_option linter.unusedVariables false
set_option maxRecDepth 1000000
set_option maxHeartbeats 8000000

theorem own : ownKnob Try.prog.godebug = none := by kernel_rfl
theorem laidOut : laidOutB Try.prog = true := by kernel_rfl
theorem lifted (os : Os) (started : os.Started) (H : Type) (enc : TypeId × Value → H) :
    ReturnsInHanded {} Try.checked os 5 .any (Rows.replicaCommitsWithQuorumSpec.pre6 enc Try.prog Try.f5 Rows.replicaCommitsWithQuorumRow.domain false) (Rows.replicaCommitsWithQuorumSpec.post enc Try.prog Try.f5 false true false false) := by
  refine returnsInHanded_of_change (C := Try.checked) own started (by kernel_rfl) Try.func5
    (ChangeSpec.witness6 (enc := enc) (C := Try.checked) false ⟨#[], #[.int .u8 0, .int .u8 0, .slice none 0 0, .agg #[.int .i64 0, .int .i64 0, .int .i64 0, .int .i64 0, .int .u32 0, .int .i64 0, .string ⟨#[]⟩, .slice none 0 0], .int .u8 0], []⟩ 8 (by kernel_rfl) (by kernel_rfl) (by kernel_rfl) (by kernel_rfl)) ?_
  intro W base args ds gs before hval0 hW hcnd _
  have hval : ∀ (j : Nat) t v, Try.f5.params[j]? = some t → args[j]? = some v → Value.okWide Try.prog W .any base t v := hval0
  have hW' := hW
  obtain ⟨p, q, hA0, hV, rfl, hfz, hnd⟩ := hW
  have hA : DataW.TrodAll enc Try.prog W 0 (fun _ => true) true Try.f5.params.toList args.toList ds p := hA0
  rw [Try.params5] at hA hval
  obtain ⟨v0, vs0, d0, ds0, p0, q0, hargs, rfl, rfl, h0, z0⟩ := trodAll_cons hA
  obtain ⟨v1, vs1, d1, ds1, p1, q1, rfl, rfl, rfl, h1, z1⟩ := trodAll_cons z0
  obtain ⟨v2, vs2, d2, ds2, p2, q2, rfl, rfl, rfl, h2, z2⟩ := trodAll_cons z1
  obtain ⟨v3, vs3, d3, ds3, p3, q3, rfl, rfl, rfl, h3, z3⟩ := trodAll_cons z2
  obtain ⟨v4, vs4, d4, ds4, p4, q4, rfl, rfl, rfl, h4, z4⟩ := trodAll_cons z3
  obtain ⟨rfl, rfl, rfl⟩ := trodAll_nil z4
  obtain rfl : args = #[v0, v1, v2, v3, v4] := by cases args; simp_all
  obtain ⟨rfl, rfl⟩ := trodVars_none hV
  have lt0 : ∀ x ∈ p0, x.block < W.heap.size := by obtain ⟨m, hm⟩ := h0; exact DataW.trod_lt m _ _ _ hm
  obtain ⟨a0, w0, f0, g0⟩ := arg_rel (P := Try.prog) (c := (.int .u8)) (fun _ => none) (by kernel_rfl) (hval 0 5 v0 rfl rfl) h0
  have lt1 : ∀ x ∈ p1, x.block < W.heap.size := by obtain ⟨m, hm⟩ := h1; exact DataW.trod_lt m _ _ _ hm
  obtain ⟨a1, w1, f1, g1⟩ := arg_rel (P := Try.prog) (c := (.int .u8)) (fun _ => none) (by kernel_rfl) (hval 1 5 v1 rfl rfl) h1
  have lt2 : ∀ x ∈ p2, x.block < W.heap.size := by obtain ⟨m, hm⟩ := h2; exact DataW.trod_lt m _ _ _ hm
  obtain ⟨a2, w2, f2, g2⟩ := arg_rel (P := Try.prog) (c := (.row c38)) (fun _ => none) (by kernel_rfl) (hval 2 22 v2 rfl rfl) h2
  have lt3 : ∀ x ∈ p3, x.block < W.heap.size := by obtain ⟨m, hm⟩ := h3; exact DataW.trod_lt m _ _ _ hm
  obtain ⟨a3, w3, f3, g3⟩ := arg_rel (P := Try.prog) (c := c34) (fun _ => none) (by kernel_rfl) (hval 3 34 v3 rfl rfl) h3
  have lt4 : ∀ x ∈ p4, x.block < W.heap.size := by obtain ⟨m, hm⟩ := h4; exact DataW.trod_lt m _ _ _ hm
  obtain ⟨a4, w4, f4, g4⟩ := arg_rel (P := Try.prog) (c := (.int .u8)) (fun _ => none) (by kernel_rfl) (hval 4 5 v4 rfl rfl) h4
  clear hA0 hval0
  obtain ⟨n, hn⟩ := armillarylaw30_ReplicaCommitsWithQuorum_holds a0 w0 a1 w1 a2 w2 a3 w3 a4 w4
  refine (law_calls (fn := Try.f5) (by kernel_rfl) (armillarylaw30_ReplicaCommitsWithQuorum.ok n) (a0, (a1, (a2, (a3, (a4, ()))))) hn (vs := [v0, v1, v2, v3, v4]) (Nat.le_of_ble_eq_true (by kernel_rfl)) ⟨rfl, g0 rfl, rfl, g1 rfl, rfl, g2 rfl, rfl, f3 rfl, rfl, g4 rfl, trivial⟩).mono ?_
  rintro e W' ⟨rfl, bel⟩
  exact ⟨_, rfl, _, _, _, [], _, [], hW', trodAll_mk1 (shut_bool Try.underlying4 _), (trodAll_cons_mk (Below.trod laidOut (by kernel_rfl) (of_decide_eq_true (by kernel_rfl)) h0 bel lt0) (trodAll_cons_mk (Below.trod laidOut (by kernel_rfl) (of_decide_eq_true (by kernel_rfl)) h1 bel lt1) (trodAll_cons_mk (Below.trod laidOut (by kernel_rfl) (of_decide_eq_true (by kernel_rfl)) h2 bel lt2) (trodAll_cons_mk (Below.trod laidOut (by kernel_rfl) (of_decide_eq_true (by kernel_rfl)) h3 bel lt3) (trodAll_cons_mk (Below.trod laidOut (by kernel_rfl) (of_decide_eq_true (by kernel_rfl)) h4 bel lt4) trodAll_mk0))))), rfl, bel.frame _, fun h => by cases h⟩

theorem over : Rows.replicaCommitsWithQuorumRow.holds Try.pinned (OpenSpec.ofChange Rows.replicaCommitsWithQuorumSpec) :=
  OpenClaim.holds_of_wide 5 Try.f5 rfl rfl rfl rfl rfl rfl rfl ⟨rfl, rfl, rfl, rfl, rfl⟩ rfl rfl rfl rfl rfl (by kernel_rfl) Try.func5 (by kernel_rfl)
    (of_decide_eq_true (by kernel_rfl)) (by unfold Func.isWrapper; first | (rw [if_pos (by decide +kernel)]; kernel_rfl) | (rw [if_neg (by decide +kernel)]; exact ⟨rfl, rfl⟩))
    (fun os started H enc _ => lifted os started H enc)
theorem proved : Rows.ReplicaCommitsWithQuorumSaid := over
#print axioms proved
end Go.Proofs.Ytijhdekfbjafgaa.replicaCommitsWithQuorum
