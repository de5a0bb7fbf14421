/- Apply, Run and Drain leave their argument as it is. -/
import Derived.Test.YtfecniimkgkmfaaGreatP7
import Derived.Test.YtfecniimkgkmfaaGreatRows
import Derived.WalkKit
import Derived.ProofKit
import Derived.OpenShut
import Derived.ShutString
import Derived.ChangeOld
import Derived.Below
import Derived.Carry
import Derived.WideShapes
namespace Go.Proofs.YtfecniimkgkmfaaGreat
open Go Go.RowKit Go.Proofs.YtfecniimkgkmfaaGreat.RW
open Go.Proofs.YtfecniimkgkmfaaGreat.AM hiding lk
set_option linter.unusedVariables false
set_option maxRecDepth 100000
theorem iMin_le {a b : Int} (ha : 0 ≤ a) (hb : 0 ≤ b) : 0 ≤ iMin a b ∧ iMin a b ≤ a := by unfold iMin; split <;> omega
theorem NInv.L {n : Int} {c : Nat} {w : Nw} (h : NInv n c w) : ((w.L.length : Int) == n) = true := by rw [h.len]; exact beq_self_eq_true n
theorem armillarylaw31_SimnetPersistence_holds (a0 : S25) (w0 : c25.wf a0) (a1 : S45) (w1 : c45.wf a1) : ∃ n, armillarylaw31_SimnetPersistence n a0 a1 = some true := by
 have hx := scen_wf w0
 have hn := cntN_in a0.1
 have hs := start_inv hx
 have hlen := start_len a0 40
 have hby := start_bytes a0 40
 have hr := run_ev hs (l := startL a0 40) (by omega) hby
 have hw := (NInv.run (startL a0 40) hs (by omega) hby).mono (c' := 40) (by omega)
 have hst := start_ev hx (most := 40) (by omega)
 refine Ev.get (r := true) ?_
 unfold armillarylaw31_SimnetPersistence
 refine Ev.bind sane_ev (Ev.bind hst (Ev.bind hr ?_))
 generalize runN (startN a0) (startL a0 40) = w at hw
 have f1 := hw.fit.wt; have f2 := hw.fit.le; have f3 := hw.fit.ln
 have hm := madeE_ev hn.1 a1
 have hb := madeE_bytes (cntN a0.1) a1
 have ha := apply_ev hw (e := madeE (cntN a0.1) a1) (by omega) hb
 have hia := hw.ev (e := madeE (cntN a0.1) a1) (by omega) hb
 have hmin := iMin_le (a := ((startL a0 40).length : Int)) (b := 10) (by omega) (by omega)
 refine Ev.ck (roomT (n := 0 + w.L.length) (by omega) (by omega)) (Ev.ck (roomT (n := 0 + w.W.length) (by omega) (by omega)) (Ev.ck (roomT (n := 0 + w.T.length) (by omega) (by omega)) ?_))
 refine Ev.bind hm (Ev.bind ha (Ev.ck (inbT hmin.1 (by show iMin ((startL a0 40).length : Int) 10 < (((startL a0 40).length + 1 : Nat) : Int); omega)) ?_))
 have hby2 : ∀ e ∈ (startL a0 40).take (iMin ((startL a0 40).length : Int) 10).toNat, bytesE (mE e.2.2.2) := fun e he => hby e (List.mem_of_mem_take he)
 have hl2 : ((startL a0 40).take (iMin ((startL a0 40).length : Int) 10).toNat).length ≤ 40 := by rw [List.length_take]; omega
 refine Ev.bind (run_ev hw (l := (startL a0 40).take (iMin ((startL a0 40).length : Int) 10).toNat) (by omega) hby2) (Ev.bind (drain_ev hw (most := 10) (by decide)) (Ev.bind hm (Ev.bind ha (Ev.bind (sameN_ev hw) (Ev.T rfl (Ev.bind (sameN_ev hia) (Ev.T rfl (Ev.T ?_ (Ev.T ?_ (Ev.ret _))))))))))
 ·exact (NInv.run ((startL a0 40).take (iMin ((startL a0 40).length : Int) 10).toNat) hw (by omega) hby2).L
 ·exact (NInv.drain 10 hw (by omega)).L
end Go.Proofs.YtfecniimkgkmfaaGreat
namespace Go.Proofs.YtfecniimkgkmfaaGreat.simnetPersistence
open Go.ChangeShapes Go.WideShapes Go.ChangeAt Go.RowKit Go.Proofs.YtfecniimkgkmfaaGreat Go.Proofs.YtfecniimkgkmfaaGreat.AM
open Go.Proofs.YtfecniimkgkmfaaGreat.RW hiding lk
set_option linter.unusedVariables false
set_option maxRecDepth 1000000
set_option maxHeartbeats 8000000

theorem own : ownKnob Tryz.prog.godebug = none := by kernel_rfl
theorem laidOut : laidOutB Tryz.prog = true := by kernel_rfl
theorem lifted (os : Os) (started : os.Started) (H : Type) (enc : TypeId × Value → H) :
    ReturnsInHanded {} Tryz.checked os 10 .any (Rows.simnetPersistenceSpec.pre6 enc Tryz.prog Tryz.f10 Rows.simnetPersistenceRow.domain false) (Rows.simnetPersistenceSpec.post enc Tryz.prog Tryz.f10 false true false false) := by
  refine returnsInHanded_of_change (C := Tryz.checked) own started (by kernel_rfl) Tryz.func10
    (ChangeSpec.witness6 (enc := enc) (C := Tryz.checked) false ⟨#[], #[.agg #[.int .u8 0, .slice none 0 0, .slice none 0 0], .agg #[.int .i64 0, .int .i64 0, .int .i64 0, .int .i64 0, .int .i64 0, .int .i64 0, .int .i64 0, .int .u32 0, .int .i64 0, .string ⟨#[]⟩, .slice none 0 0]], []⟩ 8 (by kernel_rfl) (by kernel_rfl) (by kernel_rfl) (by kernel_rfl)) ?_
  intro W base args ds gs before hval0 hW hcnd _
  have hval : ∀ (j : Nat) t v, Tryz.f10.params[j]? = some t → args[j]? = some v → Value.okWide Tryz.prog W .any base t v := hval0
  have hW' := hW
  obtain ⟨p, q, hA0, hV, rfl, hfz, hnd⟩ := hW
  have hA : DataW.TrodAll enc Tryz.prog W 0 (fun _ => true) true Tryz.f10.params.toList args.toList ds p := hA0
  rw [Tryz.params10] at hA hval
  obtain ⟨v0, vs0, d0, ds0, p0, q0, hargs, rfl, rfl, h0, z0⟩ := trodAll_cons hA
  obtain ⟨v1, vs1, d1, ds1, p1, q1, rfl, rfl, rfl, h1, z1⟩ := trodAll_cons z0
  obtain ⟨rfl, rfl, rfl⟩ := trodAll_nil z1
  obtain rfl : args = #[v0, v1] := by cases args; simp_all
  obtain ⟨rfl, rfl⟩ := trodVars_none hV
  have lt0 : ∀ x ∈ p0, x.block < W.heap.size := by obtain ⟨m, hm⟩ := h0; exact DataW.trod_lt m _ _ _ hm
  obtain ⟨a0, w0, f0, g0⟩ := arg_rel (P := Tryz.prog) (c := c25) (fun _ => none) (by kernel_rfl) (hval 0 25 v0 rfl rfl) h0
  have lt1 : ∀ x ∈ p1, x.block < W.heap.size := by obtain ⟨m, hm⟩ := h1; exact DataW.trod_lt m _ _ _ hm
  obtain ⟨a1, w1, f1, g1⟩ := arg_rel (P := Tryz.prog) (c := c45) (fun _ => none) (by kernel_rfl) (hval 1 45 v1 rfl rfl) h1
  clear hA0 hval0
  obtain ⟨n, hn⟩ := armillarylaw31_SimnetPersistence_holds a0 w0 a1 w1
  refine (law_calls (fn := Tryz.f10) (by kernel_rfl) (armillarylaw31_SimnetPersistence.ok n) (a0, (a1, ())) hn (vs := [v0, v1]) (Nat.le_of_ble_eq_true (by kernel_rfl)) ⟨rfl, f0 rfl, rfl, f1 rfl, trivial⟩).mono ?_
  rintro e W' ⟨rfl, bel⟩
  exact ⟨_, rfl, _, _, _, [], _, [], hW', trodAll_mk1 (shut_bool Tryz.underlying4 _), (trodAll_cons_mk (Below.trod laidOut (by kernel_rfl) (of_decide_eq_true (by kernel_rfl)) h0 bel lt0) (trodAll_cons_mk (Below.trod laidOut (by kernel_rfl) (of_decide_eq_true (by kernel_rfl)) h1 bel lt1) trodAll_mk0)), rfl, bel.frame _, fun h => by cases h⟩

theorem over : Rows.simnetPersistenceRow.holds Tryz.pinned (OpenSpec.ofChange Rows.simnetPersistenceSpec) :=
  OpenClaim.holds_of_wide 10 Tryz.f10 rfl rfl rfl rfl rfl rfl rfl ⟨rfl, rfl, rfl, rfl, rfl⟩ rfl rfl rfl rfl rfl (by kernel_rfl) Tryz.func10 (by kernel_rfl)
    (of_decide_eq_true (by kernel_rfl)) (by unfold Func.isWrapper; first | (rw [if_pos (by decide +kernel)]; kernel_rfl) | (rw [if_neg (by decide +kernel)]; exact ⟨rfl, rfl⟩))
    (fun os started H enc _ => lifted os started H enc)
theorem proved : Rows.SimnetPersistenceSaid := over
#print axioms proved
end Go.Proofs.YtfecniimkgkmfaaGreat.simnetPersistence
