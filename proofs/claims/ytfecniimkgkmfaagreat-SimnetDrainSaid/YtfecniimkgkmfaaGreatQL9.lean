/- Drain is delivery repeated; it empties the network. -/
import Derived.Test.YtfecniimkgkmfaaGreatQ7
import Derived.Test.YtfecniimkgkmfaaGreatRows
import Derived.WalkKit
import Derived.ProofKit
import Derived.OpenShut
import Derived.ShutString
import Derived.ChangeOld
import Derived.Below
import Derived.Carry
import Derived.WideShapes
namespace Go.Proofs.YtfecniimkgkmfaaGreat
open Go Go.RowKit Go.Proofs.YtfecniimkgkmfaaGreat.RW
open Go.Proofs.YtfecniimkgkmfaaGreat.AM hiding lk
set_option linter.unusedVariables false
set_option maxRecDepth 100000
def iterD : Nat → Nw → Nw
 | 0, w => w
 | k + 1, w => deliverN (iterD k w) 0
theorem deliver_none {w : Nw} (h : w.W.length = 0) (a : Int) : deliverN w a = w := by
 unfold deliverN
 rw [if_neg]
 intro ha
 obtain ⟨h1, h2⟩ := wayN_in ha
 omega
theorem iterD_comm (w : Nw) : ∀ k, iterD k (deliverN w 0) = iterD (k + 1) w
 | 0 => rfl
 | k + 1 => by show deliverN (iterD k (deliverN w 0)) 0 = _; rw [iterD_comm w k]; rfl
theorem iterD_none {w : Nw} (h : w.W.length = 0) : ∀ k, iterD k w = w
 | 0 => rfl
 | k + 1 => by show deliverN (iterD k w) 0 = w; rw [iterD_none h k, deliver_none h]
theorem drain_iter : ∀ (k : Nat) (w : Nw), drainN k w = iterD k w
 | 0, _ => rfl
 | k + 1, w => by
  unfold drainN
  split
  ·rename_i h; rw [iterD_none h]
  ·rw [drain_iter k, iterD_comm]
theorem iterD_add (w : Nw) (p : Nat) : ∀ q, iterD q (iterD p w) = iterD (p + q) w
 | 0 => rfl
 | q + 1 => by show deliverN (iterD q (iterD p w)) 0 = _; rw [iterD_add w p q]; rfl
theorem NInv.iter {n : Int} {c : Nat} {w : Nw} (h : NInv n c w) (k : Nat) (hc : c + k ≤ 1000000) : NInv n (c + k) (iterD k w) := by rw [← drain_iter]; exact h.drain k hc
def dEv : Evt := (1, 0, 0, 0, 0, 0, 0, 0, 0, (⟨#[]⟩ : ByteArray), ([] : List Int))
theorem ev_d (w : Nw) : evN w dEv = deliverN w 0 := rfl
theorem steps_ev {n : Int} {c : Nat} {w : Nw} (h : NInv n c w) (p : Nat) (hc : c + p ≤ 1000000) : Ev (fun m => armillarylaw31_SimnetDrain.l0 m m 0 (p : Int) w.toS) (iterD p w).toS := by
 refine loop_run (σ := Int × S31) (L := fun m k s => armillarylaw31_SimnetDrain.l0 m k s.1 (p : Int) s.2) (S := fun m s => armillarylaw31_SimnetDrain.s0 m s.1 (p : Int) s.2) (fun _ _ _ => rfl) (fun i => ((i : Int), (iterD i w).toS)) p _ (fun i hi => ?_) (Ev.of fun m => ?_)
 ·show Ev (fun m => armillarylaw31_SimnetDrain.s0 m (i : Int) (p : Int) (iterD i w).toS) _
  unfold armillarylaw31_SimnetDrain.s0
  rw [wr64s i (by omega)]
  exact Ev.T (decide_eq_true (by omega)) (Ev.bind (apply_ev (h.iter i (by omega)) (e := dEv) (by omega) bytes_zE) (Ev.ret _))
 ·show armillarylaw31_SimnetDrain.s0 m (p : Int) (p : Int) _ = _
  unfold armillarylaw31_SimnetDrain.s0
  rw [show decide ((p : Int) < (p : Int)) = false from decide_eq_false (by omega)]
  rfl
theorem potL_le {V : Int} {B : Nat} : ∀ (l : List Rep), (∀ r ∈ l, muV V r ≤ B) → potL V l ≤ l.length * B
 | [], _ => Nat.zero_le _
 | a :: l, h => by
  have h1 := h a List.mem_cons_self
  have h2 := potL_le l (fun r hr => h r (List.mem_cons_of_mem _ hr))
  unfold potL at h2 ⊢
  rw [List.map_cons, List.sum_cons, List.length_cons, Nat.succ_mul]
  omega
theorem madeE_view (n : Int) (e : Evt) : mV (madeE n e).2.2.2 ≤ 3 := by
 unfold madeE
 split
 ·show (0 : Int) ≤ 3; decide
 ·exact (made_view _ _ _).2
theorem start_view (x : Scen) (most : Nat) : ∀ e ∈ startL x most, mV e.2.2.2 ≤ 3 := fun e he => by
 obtain ⟨a, _, rfl⟩ := List.mem_map.1 he
 exact madeE_view _ _
theorem start_nv (x : Scen) : NV 3 (startN x) := ⟨fun r hr => by
 obtain ⟨i, _, rfl⟩ := List.mem_map.1 (show r ∈ newL (cntN x.1) from hr)
 exact ⟨by show (0 : Int) ≤ 3; decide, (fun m hm => by cases hm), (fun m hm => by cases hm)⟩, fun m hm => by cases hm⟩
theorem tmod_small {x : Int} (h : 0 ≤ x ∧ x ≤ 255) : (W .i64 x).tmod 20 = ((x.toNat % 20 : Nat) : Int) := by
 rw [wr64 (by omega) (by omega), Int.tmod_eq_emod_of_nonneg h.1]
 omega
theorem armillarylaw31_SimnetDrain_holds (a0 : S25) (w0 : c25.wf a0) (a1 : Int) (w1 : (TC.int .u8).wf a1) (a2 : Int) (w2 : (TC.int .u8).wf a2) : ∃ n, armillarylaw31_SimnetDrain n a0 a1 a2 = some true := by
 have hx0 := scen_wf w0
 have hm4 : a0.1.tmod 4 = a0.1 % 4 := Int.tmod_eq_emod_of_nonneg hx0.n.1
 have hx : ScenWf (a0.1.tmod 4, a0.2) := ⟨by show 0 ≤ a0.1.tmod 4 ∧ a0.1.tmod 4 ≤ 255; rw [hm4]; omega, hx0.raw, hx0.rl⟩
 have hcn : cntN (a0.1.tmod 4) ≤ 4 := by rw [hm4]; unfold cntN; omega
 have hn := cntN_in (a0.1.tmod 4)
 have h1 := wf_u8 w1
 have h2 := wf_u8 w2
 generalize hxx : (a0.1.tmod 4, a0.2) = x at hx
 have hcx : cntN x.1 = cntN (a0.1.tmod 4) := by rw [← hxx]
 have hs := start_inv hx
 have hlen := start_len x 30
 have hby := start_bytes x 30
 have hr := run_ev hs (l := startL x 30) (by omega) hby
 have hw := (NInv.run (startL x 30) hs (by omega) hby).mono (c' := 30) (by omega)
 have hv := ((start_nv x).run (startL x 30) hs (by omega) hby (by omega) (start_view x 30)).mono (V' := 33) (by omega)
 have hst := start_ev hx (most := 30) (by omega)
 refine Ev.get (r := true) ?_
 unfold armillarylaw31_SimnetDrain armillarylaw31_SimnetDrain.j1
 rw [hxx, tmod_small h1, tmod_small h2]
 refine Ev.bind sane_ev (Ev.bind hst (Ev.bind hr ?_))
 generalize runN (startN x) (startL x 30) = w at hw hv
 generalize hp : a1.toNat % 20 = p
 generalize hq : a2.toNat % 20 = q
 have hpl : p < 20 := by omega
 have hql : q < 20 := by omega
 have hip := hw.iter p (by omega)
 have hiq := hip.iter q (by omega)
 have dp := drain_ev hw (most := (p : Int)) (by omega)
 rw [Int.toNat_natCast, drain_iter] at dp
 have dq := drain_ev hip (most := (q : Int)) (by omega)
 rw [Int.toNat_natCast, drain_iter, iterD_add] at dq
 have dpq := drain_ev hw (most := W .i64 ((p : Int) + (q : Int))) (by rw [wr64 (by omega) (by omega)]; omega)
 rw [wr64 (n := (p : Int) + (q : Int)) (by omega) (by omega), show ((p : Int) + (q : Int)).toNat = p + q by omega, drain_iter] at dpq
 rw [iterD_add] at hiq
 have hlL := hw.len
 have hpot : pot 33 w ≤ 100000 := by
  have hb : ∀ r ∈ w.L, muV 33 r ≤ 4135 := fun r hr => by
   obtain ⟨i, hi, rfl⟩ := List.getElem_of_mem hr
   have hv0 := (hw.rep i hi).1.v0
   have := nb_le (sentM w.L[i] 1)
   have := nb_le (sentM w.L[i] 2)
   have := nb_le (sentM w.L[i] 3)
   unfold muV
   omega
  have h3 := potL_le w.L hb
  have h4 : w.L.length ≤ 4 := by omega
  have h5 := hw.fit.le
  have h6 : w.L.length * potL 33 w.L ≤ 4 * (4 * 4135) := Nat.mul_le_mul h4 (Nat.le_trans h3 (Nat.mul_le_mul_right _ h4))
  unfold pot
  omega
 have hemp := drain_empty 100000 hv hw (by omega) hpot
 have dbig := drain_ev hw (most := 100000) (by omega)
 rw [show ((100000 : Int)).toNat = 100000 from rfl] at dbig
 refine Ev.bind (steps_ev hw p (by omega)) (Ev.bind (a := (Sum.inl () : Unit ⊕ Bool)) ?_ (Ev.bind dbig (Ev.T ?_ (Ev.ret _))))
 ·refine Ev.bind dp ?_
  refine Ev.bind (sameN_ev hip) ?_
  refine Ev.F rfl ?_
  refine Ev.bind dp ?_
  refine Ev.bind dq ?_
  rw [wr64 (n := (p : Int) + (q : Int)) (by omega) (by omega)]
  refine Ev.bind dpq ?_
  refine Ev.bind (sameN_ev hiq) ?_
  exact Ev.F rfl (Ev.ret _)
 ·show ((((drainN 100000 w).W.length : Nat) : Int) == 0) = true
  rw [hemp]
  rfl
end Go.Proofs.YtfecniimkgkmfaaGreat
namespace Go.Proofs.YtfecniimkgkmfaaGreat.simnetDrain
open Go.ChangeShapes Go.WideShapes Go.ChangeAt Go.RowKit Go.Proofs.YtfecniimkgkmfaaGreat Go.Proofs.YtfecniimkgkmfaaGreat.AM
open Go.Proofs.YtfecniimkgkmfaaGreat.RW hiding lk
set_option linter.unusedVariables false
set_option maxRecDepth 1000000
set_option maxHeartbeats 8000000

theorem own : ownKnob Tryz.prog.godebug = none := by kernel_rfl
theorem laidOut : laidOutB Tryz.prog = true := by kernel_rfl
theorem lifted (os : Os) (started : os.Started) (H : Type) (enc : TypeId × Value → H) :
    ReturnsInHanded {} Tryz.checked os 9 .any (Rows.simnetDrainSpec.pre6 enc Tryz.prog Tryz.f9 Rows.simnetDrainRow.domain false) (Rows.simnetDrainSpec.post enc Tryz.prog Tryz.f9 false true false false) := by
  refine returnsInHanded_of_change (C := Tryz.checked) own started (by kernel_rfl) Tryz.func9
    (ChangeSpec.witness6 (enc := enc) (C := Tryz.checked) false ⟨#[], #[.agg #[.int .u8 0, .slice none 0 0, .slice none 0 0], .int .u8 0, .int .u8 0], []⟩ 8 (by kernel_rfl) (by kernel_rfl) (by kernel_rfl) (by kernel_rfl)) ?_
  intro W base args ds gs before hval0 hW hcnd _
  have hval : ∀ (j : Nat) t v, Tryz.f9.params[j]? = some t → args[j]? = some v → Value.okWide Tryz.prog W .any base t v := hval0
  have hW' := hW
  obtain ⟨p, q, hA0, hV, rfl, hfz, hnd⟩ := hW
  have hA : DataW.TrodAll enc Tryz.prog W 0 (fun _ => true) true Tryz.f9.params.toList args.toList ds p := hA0
  rw [Tryz.params9] at hA hval
  obtain ⟨v0, vs0, d0, ds0, p0, q0, hargs, rfl, rfl, h0, z0⟩ := trodAll_cons hA
  obtain ⟨v1, vs1, d1, ds1, p1, q1, rfl, rfl, rfl, h1, z1⟩ := trodAll_cons z0
  obtain ⟨v2, vs2, d2, ds2, p2, q2, rfl, rfl, rfl, h2, z2⟩ := trodAll_cons z1
  obtain ⟨rfl, rfl, rfl⟩ := trodAll_nil z2
  obtain rfl : args = #[v0, v1, v2] := by cases args; simp_all
  obtain ⟨rfl, rfl⟩ := trodVars_none hV
  have lt0 : ∀ x ∈ p0, x.block < W.heap.size := by obtain ⟨m, hm⟩ := h0; exact DataW.trod_lt m _ _ _ hm
  obtain ⟨a0, w0, f0, g0⟩ := arg_rel (P := Tryz.prog) (c := c25) (fun _ => none) (by kernel_rfl) (hval 0 25 v0 rfl rfl) h0
  have lt1 : ∀ x ∈ p1, x.block < W.heap.size := by obtain ⟨m, hm⟩ := h1; exact DataW.trod_lt m _ _ _ hm
  obtain ⟨a1, w1, f1, g1⟩ := arg_rel (P := Tryz.prog) (c := (.int .u8)) (fun _ => none) (by kernel_rfl) (hval 1 5 v1 rfl rfl) h1
  have lt2 : ∀ x ∈ p2, x.block < W.heap.size := by obtain ⟨m, hm⟩ := h2; exact DataW.trod_lt m _ _ _ hm
  obtain ⟨a2, w2, f2, g2⟩ := arg_rel (P := Tryz.prog) (c := (.int .u8)) (fun _ => none) (by kernel_rfl) (hval 2 5 v2 rfl rfl) h2
  clear hA0 hval0
  obtain ⟨n, hn⟩ := armillarylaw31_SimnetDrain_holds a0 w0 a1 w1 a2 w2
  refine (law_calls (fn := Tryz.f9) (by kernel_rfl) (armillarylaw31_SimnetDrain.ok n) (a0, (a1, (a2, ()))) hn (vs := [v0, v1, v2]) (Nat.le_of_ble_eq_true (by kernel_rfl)) ⟨rfl, f0 rfl, rfl, g1 rfl, rfl, g2 rfl, trivial⟩).mono ?_
  rintro e W' ⟨rfl, bel⟩
  exact ⟨_, rfl, _, _, _, [], _, [], hW', trodAll_mk1 (shut_bool Tryz.underlying4 _), (trodAll_cons_mk (Below.trod laidOut (by kernel_rfl) (of_decide_eq_true (by kernel_rfl)) h0 bel lt0) (trodAll_cons_mk (Below.trod laidOut (by kernel_rfl) (of_decide_eq_true (by kernel_rfl)) h1 bel lt1) (trodAll_cons_mk (Below.trod laidOut (by kernel_rfl) (of_decide_eq_true (by kernel_rfl)) h2 bel lt2) trodAll_mk0))), rfl, bel.frame _, fun h => by cases h⟩

theorem over : Rows.simnetDrainRow.holds Tryz.pinned (OpenSpec.ofChange Rows.simnetDrainSpec) :=
  OpenClaim.holds_of_wide 9 Tryz.f9 rfl rfl rfl rfl rfl rfl rfl ⟨rfl, rfl, rfl, rfl, rfl⟩ rfl rfl rfl rfl rfl (by kernel_rfl) Tryz.func9 (by kernel_rfl)
    (of_decide_eq_true (by kernel_rfl)) (by unfold Func.isWrapper; first | (rw [if_pos (by decide +kernel)]; kernel_rfl) | (rw [if_neg (by decide +kernel)]; exact ⟨rfl, rfl⟩))
    (fun os started H enc _ => lifted os started H enc)
theorem proved : Rows.SimnetDrainSaid := over
#print axioms proved
end Go.Proofs.YtfecniimkgkmfaaGreat.simnetDrain
