/- An operation keeps the log and the sent messages as prefixes and does not lower the view. -/
import Derived.Test.YtijhdekfbjafgaaX6
import Derived.Test.YtijhdekfbjafgaaRows
import Derived.WalkKit
import Derived.ProofKit
import Derived.OpenShut
import Derived.ShutString
import Derived.ChangeOld
import Derived.Below
import Derived.Carry
import Derived.WideShapes
namespace Go.Proofs.Ytijhdekfbjafgaa
open Go Go.RowKit Go.Proofs.Ytijhdekfbjafgaa.RW
open Go.Proofs.Ytijhdekfbjafgaa.AM hiding lk
set_option linter.unusedVariables false
set_option maxRecDepth 100000
theorem armillarylaw30_ReplicaLogIsAppendOnly_holds (a0 : Int) (w0 : (TC.int .u8).wf a0) (a1 : Int) (w1 : (TC.int .u8).wf a1) (a2 : List S38) (w2 : (TC.row c38).wf a2) (a3 : S38) (w3 : c38.wf a3) : ∃ n, armillarylaw30_ReplicaLogIsAppendOnly n a0 a1 a2 a3 = some true := by
 have h0 := wf_u8 w0
 have h1 := wf_u8 w1
 have h2 := ops_wf w2
 have h3 : opWf a3 := ⟨wf_u8 w3.1, wf_u8 w3.2.2⟩
 have hR := run_ran (n := a1) h0.1 h2.2
 have hi := hR.inv
 generalize hr : runM a0 a1 a2 = r at hR hi
 have ht := hR.tl
 have hk := apply_keeps hi (by omega) h3
 have hi2 := apply_inv hi (by omega) h3
 have hs := hi.sz.s
 have hg := hi.sz.g
 have hs2 := hi2.sz.s
 have l1 := hk.l.length_le
 have l2 := hk.s.length_le
 have kv := hk.v
 refine Ev.get (r := true) ?_
 unfold armillarylaw30_ReplicaLogIsAppendOnly
 refine Ev.bind sane_ev (Ev.bind (run_ev h0 h1 h2.2 h2.1) ?_)
 rw [hr]
 refine Ev.bind (apply_ev hi (by omega) h3) (Ev.bind (a := (Sum.inl () : Unit ⊕ Bool)) ?_ ?_)
 ·unfold armillarylaw30_ReplicaLogIsAppendOnly.j0
  refine Ev.F (decide_eq_false (show ¬ (((rL (applyM r a3)).length : Int) < ((rL r).length : Int)) by omega)) (Ev.F (decide_eq_false (show ¬ (rV (applyM r a3) < rV r) by omega)) (Ev.F (decide_eq_false (show ¬ (((rS (applyM r a3)).length : Int) < ((rS r).length : Int)) by omega)) (Ev.F ?_ (Ev.F ?_ (Ev.ret _)))))
  ·simp only [bne, Bool.not_eq_false', beq_iff_eq]; exact hk.i
  ·simp only [bne, Bool.not_eq_false', beq_iff_eq]; exact hk.n
 ·refine Ev.T rfl (Ev.ck (drop_pre hk.l) ?_)
  show Ev (fun n => (armillaryref30_SameLog n ((rL (applyM r a3)).take ((rL r).length : Int).toNat) (rL r)).bind _) _
  rw [Int.toNat_natCast, pre_take hk.l]
  refine Ev.bind (sameLog_ev (by omega)) (Ev.T rfl (Ev.ck (drop_pre hk.s) ?_))
  show Ev (fun n => (armillaryref30_SameMessages n ((rS (applyM r a3)).take ((rS r).length : Int).toNat) (rS r)).bind _) _
  rw [Int.toNat_natCast, pre_take hk.s]
  refine Ev.bind (sameMsgs_ev (by omega)) (Ev.T rfl (Ev.ck (drop_pre hk.s) ?_))
  show Ev (fun n => (armillaryref30_SameMessages n ((rS (applyM r a3)).drop ((rS r).length : Int).toNat) ((rS (applyM r a3)).drop (rS r).length)).bind _) _
  rw [Int.toNat_natCast]
  exact Ev.bind (sameMsgs_ev (by rw [List.length_drop]; omega)) (Ev.ret _)
end Go.Proofs.Ytijhdekfbjafgaa
namespace Go.Proofs.Ytijhdekfbjafgaa.replicaLogIsAppendOnly
open Go.ChangeShapes Go.WideShapes Go.ChangeAt Go.RowKit Go.Proofs.Ytijhdekfbjafgaa Go.Proofs.Ytijhdekfbjafgaa.AM
open Go.Proofs.Ytijhdekfbjafgaa.RW hiding lk
set_option linter.unusedVariables false
set_option maxRecDepth 1000000
set_option maxHeartbeats 8000000

theorem own : ownKnob Try.prog.godebug = none := by kernel_rfl
theorem laidOut : laidOutB Try.prog = true := by kernel_rfl
theorem lifted (os : Os) (started : os.Started) (H : Type) (enc : TypeId × Value → H) :
    ReturnsInHanded {} Try.checked os 4 .any (Rows.replicaLogIsAppendOnlySpec.pre6 enc Try.prog Try.f4 Rows.replicaLogIsAppendOnlyRow.domain false) (Rows.replicaLogIsAppendOnlySpec.post enc Try.prog Try.f4 false true false false) := by
  refine returnsInHanded_of_change (C := Try.checked) own started (by kernel_rfl) Try.func4
    (ChangeSpec.witness6 (enc := enc) (C := Try.checked) false ⟨#[], #[.int .u8 0, .int .u8 0, .slice none 0 0, .agg #[.int .u8 0, .int .i64 0, .int .i64 0, .int .i64 0, .int .i64 0, .int .u32 0, .int .i64 0, .string ⟨#[]⟩, .slice none 0 0, .int .u8 0]], []⟩ 8 (by kernel_rfl) (by kernel_rfl) (by kernel_rfl) (by kernel_rfl)) ?_
  intro W base args ds gs before hval0 hW hcnd _
  have hval : ∀ (j : Nat) t v, Try.f4.params[j]? = some t → args[j]? = some v → Value.okWide Try.prog W .any base t v := hval0
  have hW' := hW
  obtain ⟨p, q, hA0, hV, rfl, hfz, hnd⟩ := hW
  have hA : DataW.TrodAll enc Try.prog W 0 (fun _ => true) true Try.f4.params.toList args.toList ds p := hA0
  rw [Try.params4] at hA hval
  obtain ⟨v0, vs0, d0, ds0, p0, q0, hargs, rfl, rfl, h0, z0⟩ := trodAll_cons hA
  obtain ⟨v1, vs1, d1, ds1, p1, q1, rfl, rfl, rfl, h1, z1⟩ := trodAll_cons z0
  obtain ⟨v2, vs2, d2, ds2, p2, q2, rfl, rfl, rfl, h2, z2⟩ := trodAll_cons z1
  obtain ⟨v3, vs3, d3, ds3, p3, q3, rfl, rfl, rfl, h3, z3⟩ := trodAll_cons z2
  obtain ⟨rfl, rfl, rfl⟩ := trodAll_nil z3
  obtain rfl : args = #[v0, v1, v2, v3] := by cases args; simp_all
  obtain ⟨rfl, rfl⟩ := trodVars_none hV
  have lt0 : ∀ x ∈ p0, x.block < W.heap.size := by obtain ⟨m, hm⟩ := h0; exact DataW.trod_lt m _ _ _ hm
  obtain ⟨a0, w0, f0, g0⟩ := arg_rel (P := Try.prog) (c := (.int .u8)) (fun _ => none) (by kernel_rfl) (hval 0 5 v0 rfl rfl) h0
  have lt1 : ∀ x ∈ p1, x.block < W.heap.size := by obtain ⟨m, hm⟩ := h1; exact DataW.trod_lt m _ _ _ hm
  obtain ⟨a1, w1, f1, g1⟩ := arg_rel (P := Try.prog) (c := (.int .u8)) (fun _ => none) (by kernel_rfl) (hval 1 5 v1 rfl rfl) h1
  have lt2 : ∀ x ∈ p2, x.block < W.heap.size := by obtain ⟨m, hm⟩ := h2; exact DataW.trod_lt m _ _ _ hm
  obtain ⟨a2, w2, f2, g2⟩ := arg_rel (P := Try.prog) (c := (.row c38)) (fun _ => none) (by kernel_rfl) (hval 2 22 v2 rfl rfl) h2
  have lt3 : ∀ x ∈ p3, x.block < W.heap.size := by obtain ⟨m, hm⟩ := h3; exact DataW.trod_lt m _ _ _ hm
  obtain ⟨a3, w3, f3, g3⟩ := arg_rel (P := Try.prog) (c := c38) (fun _ => none) (by kernel_rfl) (hval 3 38 v3 rfl rfl) h3
  clear hA0 hval0
  obtain ⟨n, hn⟩ := armillarylaw30_ReplicaLogIsAppendOnly_holds a0 w0 a1 w1 a2 w2 a3 w3
  refine (law_calls (fn := Try.f4) (by kernel_rfl) (armillarylaw30_ReplicaLogIsAppendOnly.ok n) (a0, (a1, (a2, (a3, ())))) hn (vs := [v0, v1, v2, v3]) (Nat.le_of_ble_eq_true (by kernel_rfl)) ⟨rfl, g0 rfl, rfl, g1 rfl, rfl, g2 rfl, rfl, f3 rfl, trivial⟩).mono ?_
  rintro e W' ⟨rfl, bel⟩
  exact ⟨_, rfl, _, _, _, [], _, [], hW', trodAll_mk1 (shut_bool Try.underlying4 _), (trodAll_cons_mk (Below.trod laidOut (by kernel_rfl) (of_decide_eq_true (by kernel_rfl)) h0 bel lt0) (trodAll_cons_mk (Below.trod laidOut (by kernel_rfl) (of_decide_eq_true (by kernel_rfl)) h1 bel lt1) (trodAll_cons_mk (Below.trod laidOut (by kernel_rfl) (of_decide_eq_true (by kernel_rfl)) h2 bel lt2) (trodAll_cons_mk (Below.trod laidOut (by kernel_rfl) (of_decide_eq_true (by kernel_rfl)) h3 bel lt3) trodAll_mk0)))), rfl, bel.frame _, fun h => by cases h⟩

theorem over : Rows.replicaLogIsAppendOnlyRow.holds Try.pinned (OpenSpec.ofChange Rows.replicaLogIsAppendOnlySpec) :=
  OpenClaim.holds_of_wide 4 Try.f4 rfl rfl rfl rfl rfl rfl rfl ⟨rfl, rfl, rfl, rfl, rfl⟩ rfl rfl rfl rfl rfl (by kernel_rfl) Try.func4 (by kernel_rfl)
    (of_decide_eq_true (by kernel_rfl)) (by unfold Func.isWrapper; first | (rw [if_pos (by decide +kernel)]; kernel_rfl) | (rw [if_neg (by decide +kernel)]; exact ⟨rfl, rfl⟩))
    (fun os started H enc _ => lifted os started H enc)
theorem proved : Rows.ReplicaLogIsAppendOnlySaid := over
#print axioms proved
end Go.Proofs.Ytijhdekfbjafgaa.replicaLogIsAppendOnly
