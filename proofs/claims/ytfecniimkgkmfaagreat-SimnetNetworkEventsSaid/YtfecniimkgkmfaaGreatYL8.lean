/- Loss, duplication and forgery change what is under way, and nothing else. -/
import Derived.Test.YtfecniimkgkmfaaGreatY8
import Derived.Test.YtfecniimkgkmfaaGreatRows
import Derived.WalkKit
import Derived.ProofKit
import Derived.OpenShut
import Derived.ShutString
import Derived.ChangeOld
import Derived.Below
import Derived.Carry
import Derived.WideShapes
namespace Go.Proofs.YtfecniimkgkmfaaGreat
open Go Go.RowKit Go.Proofs.YtfecniimkgkmfaaGreat.RW
open Go.Proofs.YtfecniimkgkmfaaGreat.AM hiding lk
set_option linter.unusedVariables false
set_option maxRecDepth 100000
theorem newL_nc {n : Int} (X : List Int) : NC 0 (newN n X) := by
 have key : ∀ (l : List Nat) (f : Rep → Nat) (b : Nat), (∀ i : Nat, f (newM (i : Nat) n) = b) → ((l.map fun i : Nat => newM (i : Nat) n).map f).sum = b * l.length := by
  intro l f b hf
  induction l with
  | nil => rfl
  | cons a l ih => rw [List.map_cons, List.map_cons, List.sum_cons, ih, hf, List.length_cons, Nat.mul_succ]; omega
 have e1 : sW (newL n) = 3 * (List.range n.toNat).length := key _ wd 3 (fun i => rfl)
 have e2 : (newL n).length = (List.range n.toNat).length := List.length_map ..
 refine ⟨Nat.zero_le _, ?_, [], Nat.le_refl 0, fun i hi => ?_⟩
 ·show sW (newL n) ≤ 3 * (newL n).length + 8 * 0 + 3 * sL (newL n)
  rw [e1, e2]
  omega
 ·have kk : ∀ r, (newL n)[i]? = some r → HeardR [] (i : Int) r := fun r hr => by
   unfold newL at hr
   rw [List.getElem?_map] at hr
   obtain ⟨j, hj, rfl⟩ := Option.map_eq_some_iff.1 hr
   exact ⟨(fun m hm => by cases hm), (fun p hp => by cases hp)⟩
  exact kk _ (List.getElem?_eq_getElem hi)
theorem raw_bytes {e : Evt} (h : c45.wf e) : bytesE (mE e.2.2.2) := fun y hy => wf_u8 (h.2.2.2.2.2.2.2.2.2.2.2 y hy)
theorem lose_X (w : Nw) (a : Int) : (loseN w a).X = w.X := by unfold loseN; split <;> rfl
theorem double_X (w : Nw) (a : Int) : (doubleN w a).X = w.X := by unfold doubleN; split; exact post_X _ _ _; rfl
theorem forge_X (w : Nw) (i : Int) (m : Msg) : (forgeN w i m).X = w.X := by unfold forgeN; split; exact post_X _ _ _; rfl
/-- Is a forged message let in? -/
def accN (w : Nw) (e : Evt) : Bool := decide (0 ≤ e.2.2.1) && (decide (e.2.2.1 < (w.L.length : Int)) && w.X.contains (mF e.2.2.2))
theorem forge_acc {w : Nw} {e : Evt} (h : accN w e = true) : forgeN w e.2.2.1 e.2.2.2 = postN w e.2.2.2 e.2.2.1 := by
 unfold accN at h
 simp only [Bool.and_eq_true, decide_eq_true_eq] at h
 unfold forgeN
 rw [if_pos ⟨h.2.2, h.1, h.2.1⟩]
theorem forge_not {w : Nw} {e : Evt} (h : accN w e = false) : forgeN w e.2.2.1 e.2.2.2 = w := by
 unfold forgeN
 rw [if_neg]
 rintro ⟨h1, h2, h3⟩
 unfold accN at h
 rw [decide_eq_true h2, decide_eq_true h3, h1] at h
 cases h
theorem in_ev (w : Nw) (e : Evt) : Ev (fun k => armillarylaw31_SimnetNetworkEvents.j0 k (w.W.length : Int) e) (wayN w e.2.1) := by
 unfold armillarylaw31_SimnetNetworkEvents.j0 wayN
 by_cases h0 : 0 ≤ e.2.1
 ·exact Ev.T (decide_eq_true h0) (Ev.cast (Ev.ret _) (by simp [h0]))
 ·exact Ev.F (decide_eq_false h0) (Ev.cast (Ev.ret _) (by simp [h0]))
theorem acc_ev {n : Int} {c : Nat} {w : Nw} (h : NInv n c w) (e : Evt) : Ev (fun k => armillarylaw31_SimnetNetworkEvents.j1 k n e w.L w.W w.T w.X) (accN w e) := by
 have hx := h.fit.xl
 unfold armillarylaw31_SimnetNetworkEvents.j1 accN
 rw [h.len]
 by_cases h0 : 0 ≤ e.2.2.1
 ·refine Ev.T (decide_eq_true h0) ?_
  by_cases h1 : e.2.2.1 < n
  ·exact Ev.T (decide_eq_true h1) (Ev.bind (rcontains_ev w.X (mF e.2.2.2) (by omega)) (Ev.cast (Ev.ret _) (by simp [h0, h1])))
  ·exact Ev.F (decide_eq_false h1) (Ev.cast (Ev.ret _) (by simp [h0, h1]))
 ·exact Ev.F (decide_eq_false h0) (Ev.cast (Ev.ret _) (by simp [h0]))
theorem reps_ev {n : Int} {c : Nat} {w : Nw} (h : NInv n c w) (aW bW cW : List Msg) (aT bT cT : List Int) :
  Ev (fun k => armillarylaw31_SimnetNetworkEvents.l3 k k 0 n w.toS w.X w.X w.X w.L aW aT w.L bW bT w.L cW cT) (.inr (w.toS, w.X, w.X, w.X, w.L, aW, aT, w.L, bW, bT, w.L, cW, cT)) := by
 have h1 := h.len; have h2 := h.n2; have h3 := h.n1
 refine loop_run (σ := Int × S31 × List Int × List Int × List Int × List Rep × List Msg × List Int × List Rep × List Msg × List Int × List Rep × List Msg × List Int)
  (L := fun k j z => armillarylaw31_SimnetNetworkEvents.l3 k j z.1 n z.2.1 z.2.2.1 z.2.2.2.1 z.2.2.2.2.1 z.2.2.2.2.2.1 z.2.2.2.2.2.2.1 z.2.2.2.2.2.2.2.1 z.2.2.2.2.2.2.2.2.1 z.2.2.2.2.2.2.2.2.2.1 z.2.2.2.2.2.2.2.2.2.2.1 z.2.2.2.2.2.2.2.2.2.2.2.1 z.2.2.2.2.2.2.2.2.2.2.2.2.1 z.2.2.2.2.2.2.2.2.2.2.2.2.2)
  (S := fun k z => armillarylaw31_SimnetNetworkEvents.s3 k z.1 n z.2.1 z.2.2.1 z.2.2.2.1 z.2.2.2.2.1 z.2.2.2.2.2.1 z.2.2.2.2.2.2.1 z.2.2.2.2.2.2.2.1 z.2.2.2.2.2.2.2.2.1 z.2.2.2.2.2.2.2.2.2.1 z.2.2.2.2.2.2.2.2.2.2.1 z.2.2.2.2.2.2.2.2.2.2.2.1 z.2.2.2.2.2.2.2.2.2.2.2.2.1 z.2.2.2.2.2.2.2.2.2.2.2.2.2) (fun _ _ _ => rfl)
  (fun i => ((i : Int), w.toS, w.X, w.X, w.X, w.L, aW, aT, w.L, bW, bT, w.L, cW, cT)) n.toNat _ (fun i hi => ?_) (Ev.of fun k => ?_)
 ·have iw : i < w.L.length := by omega
  show Ev (fun k => armillarylaw31_SimnetNetworkEvents.s3 k (i : Int) n w.toS w.X w.X w.X w.L aW aT w.L bW bT w.L cW cT) _
  unfold armillarylaw31_SimnetNetworkEvents.s3
  have hs := sameR_ev (h.rep i iw).1.sz
  rw [← getD_int (d := z56) iw] at hs
  rw [inbN (n := w.L.length) iw, wr64s i (by omega)]
  refine Ev.T (decide_eq_true (by omega)) (Ev.ck rfl (Ev.ck rfl ?_))
  refine Ev.bind hs ?_
  refine Ev.F rfl (Ev.ck rfl (Ev.ck rfl ?_))
  refine Ev.bind hs ?_
  refine Ev.F rfl (Ev.ck rfl (Ev.ck rfl ?_))
  refine Ev.bind hs ?_
  exact Ev.F rfl (Ev.ret _)
 ·show armillarylaw31_SimnetNetworkEvents.s3 k ((n.toNat : Nat) : Int) n w.toS w.X w.X w.X w.L aW aT w.L bW bT w.L cW cT = _
  unfold armillarylaw31_SimnetNetworkEvents.s3
  rw [show decide (((n.toNat : Nat) : Int) < n) = false from decide_eq_false (by omega)]
  rfl

/-! ### the comparison -/
theorem ne_F {a b : Int} (h : a = b) : (a != b) = false := by rw [h]; simp
theorem cmp_ev {n : Int} {c : Nat} {w : Nw} (h : NInv n c w) (e : Evt) (hroom : w.W.length < 4096) :
  Ev (fun k => armillarylaw31_SimnetNetworkEvents.j4 k (w.W.length : Int) (wayN w e.2.1) (accN w e) w.toS w.X w.X w.X w.L (loseN w e.2.1).W (loseN w e.2.1).T w.L (doubleN w e.2.1).W (doubleN w e.2.1).T w.L (forgeN w e.2.2.1 e.2.2.2).W (forgeN w e.2.2.1 e.2.2.2).T)
   (false, w.L, (loseN w e.2.1).W, (loseN w e.2.1).T, w.X, w.L, (doubleN w e.2.1).W, (doubleN w e.2.1).T, w.X, w.L, (forgeN w e.2.2.1 e.2.2.2).W, (forgeN w e.2.2.1 e.2.2.2).T, w.X) := by
 have hwt := h.fit.wt
 have hsame := sameN_ev h
 have e1 : W .i64 ((w.W.length : Int) + 1) = ((w.W.length + 1 : Nat) : Int) := wr64s _ (by omega)
 have e2 : W .i64 ((w.W.length : Int) - 1) = (w.W.length : Int) - 1 := wr64 (by omega) (by omega)
 have hpost : ∀ (m : Msg) (t : Int), postN w m t = ⟨w.X, w.L, w.W ++ [m], w.T ++ [t]⟩ := fun m t => by unfold postN; rw [if_pos hroom]
 unfold armillarylaw31_SimnetNetworkEvents.j4
 rw [e1, e2]
 cases ha : wayN w e.2.1 with
 | false =>
  have hl : loseN w e.2.1 = w := by unfold loseN; rw [if_neg (by rw [ha]; decide)]
  have hd : doubleN w e.2.1 = w := by unfold doubleN; rw [if_neg (by rw [ha]; decide)]
  rw [hl, hd]
  refine Ev.T rfl ?_
  refine Ev.bind hsame ?_
  refine Ev.F rfl ?_
  refine Ev.bind hsame ?_
  refine Ev.F rfl (Ev.F rfl ?_)
  cases hc : accN w e with
  | false =>
   rw [forge_not hc]
   refine Ev.T rfl ?_
   refine Ev.bind hsame ?_
   exact Ev.F rfl (Ev.F rfl (Ev.ret _))
  | true =>
   rw [forge_acc hc, hpost]
   refine Ev.F rfl (Ev.T rfl (Ev.F (ne_F (by simp)) (Ev.cast (Ev.ret _) ?_)))
   rw [ne_F (by simp; omega)]
 | true =>
  obtain ⟨w0, w1⟩ := wayN_in ha
  have hl : loseN w e.2.1 = removeN w e.2.1 := by unfold loseN; rw [if_pos ha]
  have hd : doubleN w e.2.1 = ⟨w.X, w.L, w.W ++ [w.W.getD e.2.1.toNat zM], w.T ++ [w.T.getD e.2.1.toNat 0]⟩ := by unfold doubleN; rw [if_pos ha, hpost]
  have hlw : ((removeN w e.2.1).W.length : Int) = (w.W.length : Int) - 1 := by simp only [removeN, List.length_append, List.length_take, List.length_drop]; omega
  have hlt : ((removeN w e.2.1).T.length : Int) = (w.W.length : Int) - 1 := by simp only [removeN, List.length_append, List.length_take, List.length_drop]; omega
  rw [hl, hd]
  refine Ev.F rfl (Ev.T rfl (Ev.F (ne_F hlw) (Ev.F (ne_F hlt) (Ev.F (ne_F (by simp)) (Ev.F (ne_F (by simp; omega)) ?_)))))
  cases hc : accN w e with
  | false =>
   rw [forge_not hc]
   refine Ev.T rfl ?_
   refine Ev.bind hsame ?_
   exact Ev.F rfl (Ev.F rfl (Ev.ret _))
  | true =>
   rw [forge_acc hc, hpost]
   refine Ev.F rfl (Ev.T rfl (Ev.F (ne_F (by simp)) (Ev.cast (Ev.ret _) ?_)))
   rw [ne_F (by simp; omega)]

theorem last_getD {α : Type} {l : List α} {x d : α} {k : Nat} (h : k = l.length) : (l ++ [x]).getD ((k : Nat) : Int).toNat d = x := by
 rw [Int.toNat_natCast, h, List.getD_eq_getElem?_getD, List.getElem?_append_right (Nat.le_refl _)]
 simp
theorem new_ev {n : Int} {c : Nat} {w : Nw} (h : NInv n c w) (e : Evt) (hroom : w.W.length < 4096) :
  Ev (fun k => armillarylaw31_SimnetNetworkEvents.j6 k (w.W.length : Int) (wayN w e.2.1) (accN w e) e w.toS (w.L, (doubleN w e.2.1).W, (doubleN w e.2.1).T, w.X) (w.L, (forgeN w e.2.2.1 e.2.2.2).W, (forgeN w e.2.2.1 e.2.2.2).T, w.X)) (.inl ()) := by
 have hwt := h.fit.wt
 have hpost : ∀ (m : Msg) (t : Int), postN w m t = ⟨w.X, w.L, w.W ++ [m], w.T ++ [t]⟩ := fun m t => by unfold postN; rw [if_pos hroom]
 have hC : accN w e = true → Ev (fun k => AM.ck (inb (w.W.length : Int) ((forgeN w e.2.2.1 e.2.2.2).T.length)) (bif (((forgeN w e.2.2.1 e.2.2.2).T.getD (w.W.length : Int).toNat 0) != e.2.2.1) then some (.inr false) else AM.ck (inb (w.W.length : Int) (forgeN w e.2.2.1 e.2.2.2).W.length) ((armillaryref27_SameMessage ((forgeN w e.2.2.1 e.2.2.2).W.getD (w.W.length : Int).toNat z43) e.2.2.2).bind fun z => bif !z then some (.inr false) else some (.inl ())))) (.inl () : Unit ⊕ Bool) := fun hc => by
  rw [forge_acc hc, hpost]
  refine Ev.ck (inbN (by simp; omega)) (Ev.F (ne_F (last_getD hwt)) (Ev.ck (inbN (by simp)) ?_))
  rw [last_getD (d := z43) (x := e.2.2.2) rfl, sameM_self]
  exact Ev.of fun _ => rfl
 unfold armillarylaw31_SimnetNetworkEvents.j6
 cases ha : wayN w e.2.1 with
 | false =>
  refine Ev.F rfl ?_
  cases hc : accN w e with
  | false => exact Ev.F rfl (Ev.ret _)
  | true => exact Ev.T rfl (hC hc)
 | true =>
  obtain ⟨w0, w1⟩ := wayN_in ha
  have hd : doubleN w e.2.1 = ⟨w.X, w.L, w.W ++ [w.W.getD e.2.1.toNat zM], w.T ++ [w.T.getD e.2.1.toNat 0]⟩ := by unfold doubleN; rw [if_pos ha, hpost]
  rw [hd]
  refine Ev.T rfl (Ev.ck (inbN (by simp; omega)) (Ev.ck (inbT w0 (by show e.2.1 < (w.T.length : Int); omega)) (Ev.F (ne_F (last_getD hwt)) (Ev.ck (inbN (by simp)) (Ev.ck (inbT w0 w1) ?_)))))
  refine Ev.bind (a := true) (Ev.of fun _ => ?_) (Ev.F rfl ?_)
  ·show armillaryref27_SameMessage ((w.W ++ [w.W.getD e.2.1.toNat zM]).getD (w.W.length : Int).toNat z43) (w.W.getD e.2.1.toNat z43) = _
   rw [last_getD (d := z43) (x := w.W.getD e.2.1.toNat zM) rfl]
   exact sameM_self _
  ·cases hc : accN w e with
   | false => exact Ev.F rfl (Ev.ret _)
   | true => exact Ev.T rfl (hC hc)
theorem ev_other (w : Nw) (x : Int) (r : Int × Int × Msg) (h : 8 ≤ x) : evN w (x, r) = w := by
 unfold evN
 rw [if_neg (by show ¬ x = 1; omega), if_neg (by show ¬ x = 2; omega), if_neg (by show ¬ x = 3; omega), if_neg (by show ¬ x = 4; omega), if_neg (by show ¬ x = 5; omega), if_neg (by show ¬ x = 6; omega), if_neg (by show ¬ x = 7; omega)]
theorem armillarylaw31_SimnetNetworkEvents_holds (a0 : S25) (w0 : c25.wf a0) (a1 : S45) (w1 : c45.wf a1) : ∃ n, armillarylaw31_SimnetNetworkEvents n a0 a1 = some true := by
 have hx := scen_wf w0
 have hb1 := raw_bytes w1
 have hcn := cntN_in a0.1
 have hs := start_inv hx
 have hlen := start_len a0 40
 have hby := start_bytes a0 40
 have hr := run_ev hs (l := startL a0 40) (by omega) hby
 have hw := (NInv.run (startL a0 40) hs (by omega) hby).mono (c' := 40) (by omega)
 have hnc : NC (0 + (startL a0 40).length) (runN (startN a0) (startL a0 40)) := NC.run (startL a0 40) (w := startN a0) (newL_nc (startX a0)) hs (by omega) hby
 have hfew := hnc.few hw hcn.2
 refine Ev.get (r := true) ?_
 unfold armillarylaw31_SimnetNetworkEvents
 refine Ev.bind sane_ev (Ev.bind (start_ev hx (most := 40) (by omega)) (Ev.bind hr ?_))
 generalize runN (startN a0) (startL a0 40) = w at hw hfew
 have hroom : w.W.length < 4096 := by omega
 have ea : Ev (fun k => simnet_Apply k w.toS (2, a1.2)) (w.X, w.L, (loseN w a1.2.1).W, (loseN w a1.2.1).T) := by
  have := apply_ev hw (e := (2, a1.2)) (by omega) hb1
  rw [show evN w (2, a1.2) = loseN w a1.2.1 from rfl, Nw.tup, lose_X, lose_L] at this
  exact this
 have eb : Ev (fun k => simnet_Apply k w.toS (3, a1.2)) (w.X, w.L, (doubleN w a1.2.1).W, (doubleN w a1.2.1).T) := by
  have := apply_ev hw (e := (3, a1.2)) (by omega) hb1
  rw [show evN w (3, a1.2) = doubleN w a1.2.1 from rfl, Nw.tup, double_X, double_L] at this
  exact this
 have ec : Ev (fun k => simnet_Apply k w.toS (7, a1.2)) (w.X, w.L, (forgeN w a1.2.2.1 a1.2.2.2).W, (forgeN w a1.2.2.1 a1.2.2.2).T) := by
  have := apply_ev hw (e := (7, a1.2)) (by omega) hb1
  rw [show evN w (7, a1.2) = forgeN w a1.2.2.1 a1.2.2.2 from rfl, Nw.tup, forge_X, forge_L] at this
  exact this
 have hk := and64 a1.1 7 (by decide) (by decide)
 have ed : Ev (fun k => simnet_Apply k w.toS (W .i64 (8 + bAnd .i64 a1.1 7), a1.2)) w.tup := by
  have := apply_ev hw (e := (W .i64 (8 + bAnd .i64 a1.1 7), a1.2)) (by omega) hb1
  rw [ev_other w _ _ (by rw [wr64 (by omega) (by omega)]; omega)] at this
  exact this
 have hwt := hw.fit.wt
 have hL : ((w.L.length : Int) != cntN a0.1) = false := ne_F hw.len
 refine Ev.bind ea ?_
 refine Ev.bind eb ?_
 refine Ev.bind ec ?_
 refine Ev.bind (in_ev w a1) ?_
 refine Ev.bind (acc_ev hw a1) ?_
 refine Ev.bind (a := (Sum.inl () : Unit ⊕ Bool)) ?_ ?_
 ·unfold armillarylaw31_SimnetNetworkEvents.j2
  exact Ev.F hL (Ev.F (ne_F (by show (w.T.length : Int) = (w.W.length : Int); omega)) (Ev.F hL (Ev.F hL (Ev.F hL (Ev.ret _)))))
 refine Ev.bind (reps_ev hw _ _ _ _ _ _) ?_
 refine Ev.bind (a := (Sum.inl (((w.L, (loseN w a1.2.1).W, (loseN w a1.2.1).T, w.X), (w.L, (doubleN w a1.2.1).W, (doubleN w a1.2.1).T, w.X), (w.L, (forgeN w a1.2.2.1 a1.2.2.2).W, (forgeN w a1.2.2.1 a1.2.2.2).T, w.X))) : (S31 × S31 × S31) ⊕ (Bool × S31 × S31 × S31))) ?_ ?_
 ·unfold armillarylaw31_SimnetNetworkEvents.j5
  refine Ev.bind (cmp_ev hw a1 hroom) ?_
  exact Ev.F rfl (Ev.ret _)
 refine Ev.bind (new_ev hw a1 hroom) ?_
 refine Ev.bind ed ?_
 refine Ev.bind (sameN_ev hw) ?_
 exact Ev.T rfl (Ev.ret _)
end Go.Proofs.YtfecniimkgkmfaaGreat
namespace Go.Proofs.YtfecniimkgkmfaaGreat.simnetNetworkEvents
open Go.ChangeShapes Go.WideShapes Go.ChangeAt Go.RowKit Go.Proofs.YtfecniimkgkmfaaGreat Go.Proofs.YtfecniimkgkmfaaGreat.AM
open Go.Proofs.YtfecniimkgkmfaaGreat.RW hiding lk
set_option linter.unusedVariables false
set_option maxRecDepth 1000000
set_option maxHeartbeats 8000000

theorem own : ownKnob Tryz.prog.godebug = none := by kernel_rfl
theorem laidOut : laidOutB Tryz.prog = true := by kernel_rfl
theorem lifted (os : Os) (started : os.Started) (H : Type) (enc : TypeId × Value → H) :
    ReturnsInHanded {} Tryz.checked os 8 .any (Rows.simnetNetworkEventsSpec.pre6 enc Tryz.prog Tryz.f8 Rows.simnetNetworkEventsRow.domain false) (Rows.simnetNetworkEventsSpec.post enc Tryz.prog Tryz.f8 false true false false) := by
  refine returnsInHanded_of_change (C := Tryz.checked) own started (by kernel_rfl) Tryz.func8
    (ChangeSpec.witness6 (enc := enc) (C := Tryz.checked) false ⟨#[], #[.agg #[.int .u8 0, .slice none 0 0, .slice none 0 0], .agg #[.int .i64 0, .int .i64 0, .int .i64 0, .int .i64 0, .int .i64 0, .int .i64 0, .int .i64 0, .int .u32 0, .int .i64 0, .string ⟨#[]⟩, .slice none 0 0]], []⟩ 8 (by kernel_rfl) (by kernel_rfl) (by kernel_rfl) (by kernel_rfl)) ?_
  intro W base args ds gs before hval0 hW hcnd _
  have hval : ∀ (j : Nat) t v, Tryz.f8.params[j]? = some t → args[j]? = some v → Value.okWide Tryz.prog W .any base t v := hval0
  have hW' := hW
  obtain ⟨p, q, hA0, hV, rfl, hfz, hnd⟩ := hW
  have hA : DataW.TrodAll enc Tryz.prog W 0 (fun _ => true) true Tryz.f8.params.toList args.toList ds p := hA0
  rw [Tryz.params8] at hA hval
  obtain ⟨v0, vs0, d0, ds0, p0, q0, hargs, rfl, rfl, h0, z0⟩ := trodAll_cons hA
  obtain ⟨v1, vs1, d1, ds1, p1, q1, rfl, rfl, rfl, h1, z1⟩ := trodAll_cons z0
  obtain ⟨rfl, rfl, rfl⟩ := trodAll_nil z1
  obtain rfl : args = #[v0, v1] := by cases args; simp_all
  obtain ⟨rfl, rfl⟩ := trodVars_none hV
  have lt0 : ∀ x ∈ p0, x.block < W.heap.size := by obtain ⟨m, hm⟩ := h0; exact DataW.trod_lt m _ _ _ hm
  obtain ⟨a0, w0, f0, g0⟩ := arg_rel (P := Tryz.prog) (c := c25) (fun _ => none) (by kernel_rfl) (hval 0 25 v0 rfl rfl) h0
  have lt1 : ∀ x ∈ p1, x.block < W.heap.size := by obtain ⟨m, hm⟩ := h1; exact DataW.trod_lt m _ _ _ hm
  obtain ⟨a1, w1, f1, g1⟩ := arg_rel (P := Tryz.prog) (c := c45) (fun _ => none) (by kernel_rfl) (hval 1 45 v1 rfl rfl) h1
  clear hA0 hval0
  obtain ⟨n, hn⟩ := armillarylaw31_SimnetNetworkEvents_holds a0 w0 a1 w1
  refine (law_calls (fn := Tryz.f8) (by kernel_rfl) (armillarylaw31_SimnetNetworkEvents.ok n) (a0, (a1, ())) hn (vs := [v0, v1]) (Nat.le_of_ble_eq_true (by kernel_rfl)) ⟨rfl, f0 rfl, rfl, f1 rfl, trivial⟩).mono ?_
  rintro e W' ⟨rfl, bel⟩
  exact ⟨_, rfl, _, _, _, [], _, [], hW', trodAll_mk1 (shut_bool Tryz.underlying4 _), (trodAll_cons_mk (Below.trod laidOut (by kernel_rfl) (of_decide_eq_true (by kernel_rfl)) h0 bel lt0) (trodAll_cons_mk (Below.trod laidOut (by kernel_rfl) (of_decide_eq_true (by kernel_rfl)) h1 bel lt1) trodAll_mk0)), rfl, bel.frame _, fun h => by cases h⟩

theorem over : Rows.simnetNetworkEventsRow.holds Tryz.pinned (OpenSpec.ofChange Rows.simnetNetworkEventsSpec) :=
  OpenClaim.holds_of_wide 8 Tryz.f8 rfl rfl rfl rfl rfl rfl rfl ⟨rfl, rfl, rfl, rfl, rfl⟩ rfl rfl rfl rfl rfl (by kernel_rfl) Tryz.func8 (by kernel_rfl)
    (of_decide_eq_true (by kernel_rfl)) (by unfold Func.isWrapper; first | (rw [if_pos (by decide +kernel)]; kernel_rfl) | (rw [if_neg (by decide +kernel)]; exact ⟨rfl, rfl⟩))
    (fun os started H enc _ => lifted os started H enc)
theorem proved : Rows.SimnetNetworkEventsSaid := over
#print axioms proved
end Go.Proofs.YtfecniimkgkmfaaGreat.simnetNetworkEvents
