/- Logs only grow, liars stay as they were, and what is logged was requested or forged. -/
import Derived.Test.YtfecniimkgkmfaaGreatX7
import Derived.Test.YtfecniimkgkmfaaGreatRows
import Derived.WalkKit
import Derived.ProofKit
import Derived.OpenShut
import Derived.ShutString
import Derived.ChangeOld
import Derived.Below
import Derived.Carry
import Derived.WideShapes
namespace Go.Proofs.YtfecniimkgkmfaaGreat
open Go Go.RowKit Go.Proofs.YtfecniimkgkmfaaGreat.RW
open Go.Proofs.YtfecniimkgkmfaaGreat.AM hiding lk
set_option linter.unusedVariables false
set_option maxRecDepth 100000
theorem prefix_ev {a b : List Ent} (h : a <+: b) (hb : b.length < 4611686018427387904) : Ev (fun k => armillaryref31_Prefix k a b) true := by
 have hl := h.length_le
 unfold armillaryref31_Prefix
 have e : b.take ((a.length : Nat) : Int).toNat = a := by
  rw [Int.toNat_natCast]
  obtain ⟨c, rfl⟩ := h
  exact List.take_left' rfl
 rw [e]
 exact Ev.T (decide_eq_true (by omega)) (Ev.ck (inbN (by omega)) (Ev.bind (sameLog_ev (by omega)) (Ev.ret _)))
def sameB (a b : Ent) : Bool := (a.1 == b.1) && ((a.2.1.toList == b.2.1.toList) && ((strOfNums a.2.2).toList == (strOfNums b.2.2).toList))
theorem sameB_eq (a b : Ent) : armillaryref27_Same a b = some (sameB a b) := by
 unfold armillaryref27_Same sameB
 cases (a.1 == b.1) with
 | false => rfl
 | true => cases (a.2.1.toList == b.2.1.toList) <;> rfl
theorem occurs_ev {l : List Evt} (hl : l.length < 4611686018427387904) {e : Ent} (h : ∃ x ∈ l, mE x.2.2.2 = e) : Ev (fun k => armillarylaw31_occurs k l e) true := by
 unfold armillarylaw31_occurs
 have hf := search_run (γ := Ent) (L := fun n j s => armillarylaw31_occurs.l0 n j s.1 l s.2) (S := fun n s => armillarylaw31_occurs.s0 n s.1 l s.2) (fun _ _ _ => rfl)
  l e (fun x => sameB (mE x.2.2.2) e) (fun _ => (Sum.inl (true, e) : (Bool × Ent) ⊕ Ent)) (.inr e) hl (fun i hi => Ev.of fun n => ?_) (Ev.of fun n => ?_)
 ·refine Ev.bind hf ?_
  obtain ⟨x, hx, hxe⟩ := h
  have hp : sameB (mE x.2.2.2) e = true := by
   have := sameB_eq e e
   rw [same_self] at this
   rw [hxe]
   exact (Option.some.inj this).symm
  cases hfi : l.find? (fun x => sameB (mE x.2.2.2) e) with
  | none => have := List.find?_eq_none.1 hfi x hx; exact absurd hp this
  | some y => exact Ev.ret _
 ·show armillarylaw31_occurs.s0 n (i : Int) l e = _
  unfold armillarylaw31_occurs.s0
  rw [show decide ((i : Int) < (l.length : Int)) = true from decide_eq_true (by omega), inbN hi, getD_int hi, wr64s i (by omega)]
  show (armillaryref27_Same (mE l[i].2.2.2) e).bind _ = _
  rw [sameB_eq]
  cases sameB (mE l[i].2.2.2) e <;> rfl
 ·show armillarylaw31_occurs.s0 n (l.length : Int) l e = _
  unfold armillarylaw31_occurs.s0
  rw [show decide ((l.length : Int) < (l.length : Int)) = false from decide_eq_false (by omega)]
  rfl
/-- Liars are as they began. -/
def Idle (n : Int) (w : Nw) : Prop := ∀ i (hi : i < w.L.length), w.X.contains (i : Int) = true → w.L[i] = newM (i : Nat) n
theorem one_ev {n : Int} {c : Nat} {w v : Nw} (hw : NInv n c w) (hv : NInv n (c + 1) v) (hl : Left w v) (hid : Idle n w) {i : Nat} (hi : (i : Int) < n) : Ev (fun k => armillarylaw31_SimnetIntegrity.j0 k n (i : Int) w.toS v.X v.L v.W v.T) (.inl ()) := by
 have h1 := hw.len; have h2 := hv.len; have hx := hw.fit.xl
 have iw : i < w.L.length := by omega
 have iv : i < v.L.length := by omega
 obtain ⟨k1, k2⟩ := hl.log i iw iv
 have hgl := (hv.rep i iv).1.gl
 unfold armillarylaw31_SimnetIntegrity.j0
 have eW : w.toS.1.getD (i : Int).toNat z56 = w.L[i] := getD_int iw
 rw [inbN (n := w.toS.1.length) iw, inbN iv, eW, getD_int (d := z56) iv]
 refine Ev.ck rfl (Ev.ck rfl ?_)
 refine Ev.bind (prefix_ev k1 (by show (rL v.L[i]).length < _; omega)) ?_
 refine Ev.F rfl (Ev.ck rfl (Ev.ck rfl (Ev.F (decide_eq_false (by show ¬ (rV v.L[i] < rV w.L[i]); omega)) ?_)))
 refine Ev.bind (rcontains_ev w.X (i : Int) (by omega)) ?_
 cases hc : w.X.contains (i : Int) with
 | false => exact Ev.F rfl (Ev.ret _)
 | true =>
  refine Ev.T rfl (Ev.ck rfl (Ev.bind (Ev.of fun _ => rnew_eq (i : Int) n) ?_))
  rw [hl.lie i iw iv hc, hid i iw hc]
  refine Ev.bind (sameR_ev (new_inv hw.n1 hw.n2 (by omega) hi).sz) ?_
  exact Ev.F rfl (Ev.ret _)
theorem all_ev {n : Int} {c : Nat} {w v : Nw} (hw : NInv n c w) (hv : NInv n (c + 1) v) (hl : Left w v) (hid : Idle n w) : Ev (fun k => armillarylaw31_SimnetIntegrity.l1 k k 0 n w.toS v.X v.L v.W v.T) (.inr (w.toS, v.X, v.L, v.W, v.T)) := by
 have h1 := hw.n1; have h2 := hw.n2
 refine loop_run (σ := Int × S31 × List Int × List Rep × List Msg × List Int) (L := fun k j s => armillarylaw31_SimnetIntegrity.l1 k j s.1 n s.2.1 s.2.2.1 s.2.2.2.1 s.2.2.2.2.1 s.2.2.2.2.2) (S := fun k s => armillarylaw31_SimnetIntegrity.s1 k s.1 n s.2.1 s.2.2.1 s.2.2.2.1 s.2.2.2.2.1 s.2.2.2.2.2) (fun _ _ _ => rfl)
  (fun i => ((i : Int), w.toS, v.X, v.L, v.W, v.T)) n.toNat _ (fun i hi => ?_) (Ev.of fun k => ?_)
 ·show Ev (fun k => armillarylaw31_SimnetIntegrity.s1 k (i : Int) n w.toS v.X v.L v.W v.T) _
  unfold armillarylaw31_SimnetIntegrity.s1
  rw [wr64s i (by omega)]
  refine Ev.T (decide_eq_true (by omega)) ?_
  exact Ev.bind (one_ev hw hv hl hid (by omega)) (Ev.ret _)
 ·show armillarylaw31_SimnetIntegrity.s1 k ((n.toNat : Nat) : Int) n w.toS v.X v.L v.W v.T = _
  unfold armillarylaw31_SimnetIntegrity.s1
  rw [show decide (((n.toNat : Nat) : Int) < n) = false from decide_eq_false (by omega)]
  rfl
theorem Idle.ev {n : Int} {c : Nat} {w : Nw} (hid : Idle n w) {v : Nw} (hl : Left w v) : Idle n v := fun i hi hc => by
 have iw : i < w.L.length := by rw [← hl.len]; exact hi
 rw [hl.x] at hc
 rw [hl.lie i iw hi hc]
 exact hid i iw hc
theorem Idle.run {n : Int} : ∀ (l : List Evt) {c : Nat} {w : Nw}, Idle n w → NInv n c w → c + l.length ≤ 1000000 → (∀ e ∈ l, bytesE (mE e.2.2.2)) → Idle n (runN w l)
 | [], _, _, h, _, _, _ => h
 | e :: l, c, w, h, hn, hc, hb => by
  simp only [List.length_cons] at hc
  have h1 := hb e List.mem_cons_self
  exact Idle.run l (h.ev (c := c) (ev_left hn (by omega) h1)) (hn.ev (by omega) h1) (by omega) (fun x hx => hb x (List.mem_cons_of_mem _ hx))
theorem Src.run {P : Ent → Prop} {n : Int} : ∀ (l : List Evt) {c : Nat} {w : Nw}, Src P w → NInv n c w → c + l.length ≤ 1000000 → (∀ e ∈ l, bytesE (mE e.2.2.2)) → (∀ e ∈ l, P (mE e.2.2.2)) → Src P (runN w l)
 | [], _, _, h, _, _, _, _ => h
 | e :: l, c, w, h, hn, hc, hb, hp => by
  simp only [List.length_cons] at hc
  have h1 := hb e List.mem_cons_self
  exact Src.run l (h.ev hn (by omega) (hp e List.mem_cons_self)) (hn.ev (by omega) h1) (by omega) (fun x hx => hb x (List.mem_cons_of_mem _ hx)) (fun x hx => hp x (List.mem_cons_of_mem _ hx))
theorem events_ev {n : Int} {w : Nw} (hw : NInv n 0 w) (hid : Idle n w) {l : List Evt} (hl : l.length ≤ 1000) (hb : ∀ e ∈ l, bytesE (mE e.2.2.2)) : Ev (fun k => armillarylaw31_SimnetIntegrity.l2 k k 0 n w.toS l) (.inr ((runN w l).toS, l)) := by
 have hh := loop_run (σ := Int × S31 × List Evt) (L := fun k j s => armillarylaw31_SimnetIntegrity.l2 k j s.1 n s.2.1 s.2.2) (S := fun k s => armillarylaw31_SimnetIntegrity.s2 k s.1 n s.2.1 s.2.2) (fun _ _ _ => rfl)
  (fun i => ((i : Int), (runN w (l.take i)).toS, l)) l.length (.inr ((runN w l).toS, l)) (fun i hi => ?_) (Ev.of fun k => ?_)
 ·exact hh
 ·show Ev (fun k => armillarylaw31_SimnetIntegrity.s2 k (i : Int) n (runN w (l.take i)).toS l) _
  have hbt : ∀ e ∈ l.take i, bytesE (mE e.2.2.2) := fun e he => hb e (List.mem_of_mem_take he)
  have hlt : (l.take i).length = i := by rw [List.length_take]; omega
  have hq := NInv.run (l.take i) hw (by omega) hbt
  have hqd := Idle.run (l.take i) hid hw (by omega) hbt
  rw [hlt, Nat.zero_add] at hq
  have hbi := hb _ (List.getElem_mem hi)
  have hs : runN w (l.take (i + 1)) = evN (runN w (l.take i)) l[i] := by
   unfold runN
   rw [List.take_add_one, List.getElem?_eq_getElem hi, Option.toList_some, List.foldl_append]
   rfl
  rw [hs]
  generalize runN w (l.take i) = q at hq hqd
  have hv := hq.ev (by omega) hbi
  have hlf := ev_left hq (by omega) hbi
  have ha := apply_ev hq (by omega) hbi
  unfold armillarylaw31_SimnetIntegrity.s2
  rw [inbN hi, getD_int hi, wr64s i (by omega)]
  generalize l[i] = e at hv hlf ha
  refine Ev.T (decide_eq_true (by omega)) (Ev.ck rfl ?_)
  refine Ev.bind ha ?_
  refine Ev.F (by show ((((evN q e).L.length : Nat) : Int) != n) = false; rw [hv.len]; simp) ?_
  refine Ev.bind (all_ev hq hv hlf hqd) ?_
  exact Ev.ret _
 ·show armillarylaw31_SimnetIntegrity.s2 k (l.length : Int) n (runN w (l.take l.length)).toS l = _
  rw [List.take_length]
  unfold armillarylaw31_SimnetIntegrity.s2
  rw [show decide ((l.length : Int) < (l.length : Int)) = false from decide_eq_false (by omega)]
  rfl
theorem log_ev {n : Int} {c : Nat} {w : Nw} (hw : NInv n c w) {l : List Evt} (hl : l.length ≤ 1000) (hs : Src (fun e => ∃ x ∈ l, mE x.2.2.2 = e) w) {i : Nat} (hi : i < w.L.length) : Ev (fun k => armillarylaw31_SimnetIntegrity.l3 k k 0 l (i : Int) w.toS) (.inr w.toS) := by
 have hgl := (hw.rep i hi).1.gl
 have eW : w.toS.1.getD (i : Int).toNat z56 = w.L[i] := getD_int hi
 refine loop_run (σ := Int × S31) (L := fun k j s => armillarylaw31_SimnetIntegrity.l3 k j s.1 l (i : Int) s.2) (S := fun k s => armillarylaw31_SimnetIntegrity.s3 k s.1 l (i : Int) s.2) (fun _ _ _ => rfl)
  (fun j => ((j : Int), w.toS)) (rL w.L[i]).length _ (fun j hj => ?_) (Ev.of fun k => ?_)
 ·show Ev (fun k => armillarylaw31_SimnetIntegrity.s3 k (j : Int) l (i : Int) w.toS) _
  unfold armillarylaw31_SimnetIntegrity.s3
  rw [inbN (n := w.toS.1.length) hi, eW, wr64s j (by omega)]
  have hj' : inb (j : Int) w.L[i].2.2.2.2.2.length = true := inbN hj
  have hg : w.L[i].2.2.2.2.2.getD (j : Int).toNat z41 = (rL w.L[i])[j] := getD_int hj
  rw [hj', hg]
  refine Ev.ck rfl (Ev.T (decide_eq_true (by show (j : Int) < ((rL w.L[i]).length : Int); omega)) (Ev.ck rfl (Ev.ck rfl ?_)))
  refine Ev.bind (occurs_ev (by omega) ((hs.r _ (List.getElem_mem hi)).l _ (List.getElem_mem hj))) ?_
  exact Ev.F rfl (Ev.ret _)
 ·show armillarylaw31_SimnetIntegrity.s3 k (((rL w.L[i]).length : Nat) : Int) l (i : Int) w.toS = _
  unfold armillarylaw31_SimnetIntegrity.s3
  rw [inbN (n := w.toS.1.length) hi, eW, show decide ((((rL w.L[i]).length : Nat) : Int) < (w.L[i].2.2.2.2.2.length : Int)) = false from decide_eq_false (by show ¬ (((rL w.L[i]).length : Int) < ((rL w.L[i]).length : Int)); omega)]
  rfl
theorem logs_ev {n : Int} {c : Nat} {w : Nw} (hw : NInv n c w) {l : List Evt} (hl : l.length ≤ 1000) (hs : Src (fun e => ∃ x ∈ l, mE x.2.2.2 = e) w) : Ev (fun k => armillarylaw31_SimnetIntegrity.l4 k k 0 n l w.toS) (.inr w.toS) := by
 have h1 := hw.len; have h2 := hw.n2; have h3 := hw.n1
 refine loop_run (σ := Int × S31) (L := fun k j s => armillarylaw31_SimnetIntegrity.l4 k j s.1 n l s.2) (S := fun k s => armillarylaw31_SimnetIntegrity.s4 k s.1 n l s.2) (fun _ _ _ => rfl)
  (fun j => ((j : Int), w.toS)) n.toNat _ (fun i hi => ?_) (Ev.of fun k => ?_)
 ·show Ev (fun k => armillarylaw31_SimnetIntegrity.s4 k (i : Int) n l w.toS) _
  unfold armillarylaw31_SimnetIntegrity.s4
  rw [wr64s i (by omega)]
  refine Ev.T (decide_eq_true (by omega)) ?_
  exact Ev.bind (log_ev hw hl hs (by omega)) (Ev.ret _)
 ·show armillarylaw31_SimnetIntegrity.s4 k ((n.toNat : Nat) : Int) n l w.toS = _
  unfold armillarylaw31_SimnetIntegrity.s4
  rw [show decide (((n.toNat : Nat) : Int) < n) = false from decide_eq_false (by omega)]
  rfl
theorem start_idle (x : Scen) : Idle (cntN x.1) (startN x) := fun i hi hc => by
 have key : ∀ r, (newL (cntN x.1))[i]? = some r → r = newM (i : Nat) (cntN x.1) := fun r hr => by
  unfold newL at hr
  rw [List.getElem?_map] at hr
  obtain ⟨j, hj, rfl⟩ := Option.map_eq_some_iff.1 hr
  obtain ⟨_, rfl⟩ := List.getElem?_eq_some_iff.1 hj
  rw [List.getElem_range]
 exact key _ (List.getElem?_eq_getElem hi)
theorem start_src (P : Ent → Prop) (x : Scen) : Src P (startN x) := ⟨fun r hr => by
 obtain ⟨i, _, rfl⟩ := List.mem_map.1 (show r ∈ newL (cntN x.1) from hr)
 exact ⟨(fun m hm => by cases hm), (fun m hm => by cases hm), (fun m hm => by cases hm)⟩, fun m hm => by cases hm⟩
theorem armillarylaw31_SimnetIntegrity_holds (a0 : S25) (w0 : c25.wf a0) : ∃ n, armillarylaw31_SimnetIntegrity n a0 = some true := by
 have hx := scen_wf w0
 have hs := start_inv hx
 have hlen := start_len a0 80
 have hby := start_bytes a0 80
 have hw := NInv.run (startL a0 80) hs (by omega) hby
 have hsrc := (start_src (fun e => ∃ x ∈ startL a0 80, mE x.2.2.2 = e) a0).run (startL a0 80) hs (by omega) hby (fun e he => ⟨e, he, rfl⟩)
 refine Ev.get (r := true) ?_
 unfold armillarylaw31_SimnetIntegrity
 refine Ev.bind sane_ev (Ev.bind (start_ev hx (most := 80) (by omega)) ?_)
 refine Ev.bind (events_ev hs (start_idle a0) (l := startL a0 80) (by omega) hby) ?_
 refine Ev.bind (logs_ev hw (l := startL a0 80) (by omega) hsrc) ?_
 exact Ev.ret _
end Go.Proofs.YtfecniimkgkmfaaGreat
namespace Go.Proofs.YtfecniimkgkmfaaGreat.simnetIntegrity
open Go.ChangeShapes Go.WideShapes Go.ChangeAt Go.RowKit Go.Proofs.YtfecniimkgkmfaaGreat Go.Proofs.YtfecniimkgkmfaaGreat.AM
open Go.Proofs.YtfecniimkgkmfaaGreat.RW hiding lk
set_option linter.unusedVariables false
set_option maxRecDepth 1000000
set_option maxHeartbeats 8000000

theorem own : ownKnob Tryz.prog.godebug = none := by kernel_rfl
theorem laidOut : laidOutB Tryz.prog = true := by kernel_rfl
theorem lifted (os : Os) (started : os.Started) (H : Type) (enc : TypeId × Value → H) :
    ReturnsInHanded {} Tryz.checked os 6 .any (Rows.simnetIntegritySpec.pre6 enc Tryz.prog Tryz.f6 Rows.simnetIntegrityRow.domain false) (Rows.simnetIntegritySpec.post enc Tryz.prog Tryz.f6 false true false false) := by
  refine returnsInHanded_of_change (C := Tryz.checked) own started (by kernel_rfl) Tryz.func6
    (ChangeSpec.witness6 (enc := enc) (C := Tryz.checked) false ⟨#[], #[.agg #[.int .u8 0, .slice none 0 0, .slice none 0 0]], []⟩ 8 (by kernel_rfl) (by kernel_rfl) (by kernel_rfl) (by kernel_rfl)) ?_
  intro W base args ds gs before hval0 hW hcnd _
  have hval : ∀ (j : Nat) t v, Tryz.f6.params[j]? = some t → args[j]? = some v → Value.okWide Tryz.prog W .any base t v := hval0
  have hW' := hW
  obtain ⟨p, q, hA0, hV, rfl, hfz, hnd⟩ := hW
  have hA : DataW.TrodAll enc Tryz.prog W 0 (fun _ => true) true Tryz.f6.params.toList args.toList ds p := hA0
  rw [Tryz.params6] at hA hval
  obtain ⟨v0, vs0, d0, ds0, p0, q0, hargs, rfl, rfl, h0, z0⟩ := trodAll_cons hA
  obtain ⟨rfl, rfl, rfl⟩ := trodAll_nil z0
  obtain rfl : args = #[v0] := by cases args; simp_all
  obtain ⟨rfl, rfl⟩ := trodVars_none hV
  have lt0 : ∀ x ∈ p0, x.block < W.heap.size := by obtain ⟨m, hm⟩ := h0; exact DataW.trod_lt m _ _ _ hm
  obtain ⟨a0, w0, f0, g0⟩ := arg_rel (P := Tryz.prog) (c := c25) (fun _ => none) (by kernel_rfl) (hval 0 25 v0 rfl rfl) h0
  clear hA0 hval0
  obtain ⟨n, hn⟩ := armillarylaw31_SimnetIntegrity_holds a0 w0
  refine (law_calls (fn := Tryz.f6) (by kernel_rfl) (armillarylaw31_SimnetIntegrity.ok n) (a0, ()) hn (vs := [v0]) (Nat.le_of_ble_eq_true (by kernel_rfl)) ⟨rfl, f0 rfl, trivial⟩).mono ?_
  rintro e W' ⟨rfl, bel⟩
  exact ⟨_, rfl, _, _, _, [], _, [], hW', trodAll_mk1 (shut_bool Tryz.underlying4 _), (trodAll_cons_mk (Below.trod laidOut (by kernel_rfl) (of_decide_eq_true (by kernel_rfl)) h0 bel lt0) trodAll_mk0), rfl, bel.frame _, fun h => by cases h⟩

theorem over : Rows.simnetIntegrityRow.holds Tryz.pinned (OpenSpec.ofChange Rows.simnetIntegritySpec) :=
  OpenClaim.holds_of_wide 6 Tryz.f6 rfl rfl rfl rfl rfl rfl rfl ⟨rfl, rfl, rfl, rfl, rfl⟩ rfl rfl rfl rfl rfl (by kernel_rfl) Tryz.func6 (by kernel_rfl)
    (of_decide_eq_true (by kernel_rfl)) (by unfold Func.isWrapper; first | (rw [if_pos (by decide +kernel)]; kernel_rfl) | (rw [if_neg (by decide +kernel)]; exact ⟨rfl, rfl⟩))
    (fun os started H enc _ => lifted os started H enc)
theorem proved : Rows.SimnetIntegritySaid := over
#print axioms proved
end Go.Proofs.YtfecniimkgkmfaaGreat.simnetIntegrity
