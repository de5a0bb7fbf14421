/- Words of the walk, the functions' walks and plain laws, joined; no conditions beyond those that the theorems name. -/
import Derived.Test.YtfecniimkgkmfaaGreatY7
namespace Go.Proofs.YtfecniimkgkmfaaGreat
open Go Go.RowKit Go.Proofs.YtfecniimkgkmfaaGreat.RW
open Go.Proofs.YtfecniimkgkmfaaGreat.AM hiding lk
set_option linter.unusedVariables false
set_option maxRecDepth 100000

/-! ### the liars -/
def liarsM (n f : Int) : List Int → List Int → List Int
 | acc, [] => acc
 | acc, b :: l => if (acc.length : Int) < f then liarsM n f (if acc.contains (b.tmod n) = true then acc else acc ++ [b.tmod n]) l else acc
structure GoodX (n f : Int) (l : List Int) : Prop where
 nd : l.Nodup
 ok : ∀ x ∈ l, 0 ≤ x ∧ x < n
 le : (l.length : Int) ≤ f
theorem liars_good {n f : Int} (h1 : 1 ≤ n) : ∀ (l acc : List Int), (∀ b ∈ l, 0 ≤ b) → GoodX n f acc → GoodX n f (liarsM n f acc l)
 | [], _, _, h => h
 | b :: l, acc, hb, h => by
  unfold liarsM
  split
  ·rename_i hlt
   refine liars_good h1 l _ (fun x hx => hb x (List.mem_cons_of_mem _ hx)) ?_
   split
   ·exact h
   ·rename_i hc
    have h0 := hb b List.mem_cons_self
    have hm : 0 ≤ b.tmod n ∧ b.tmod n < n := by
     rw [Int.tmod_eq_emod_of_nonneg h0]
     exact ⟨Int.emod_nonneg _ (by omega), Int.emod_lt_of_pos _ (by omega)⟩
    refine ⟨?_, fun x hx => ?_, by simp; omega⟩
    ·rw [List.nodup_append]
     refine ⟨h.nd, by simp, fun a ha c hc' e => ?_⟩
     rw [List.mem_singleton.1 hc'] at e
     exact hc (by rw [List.contains_iff_mem]; exact e ▸ ha)
    ·rcases List.mem_append.1 hx with hx | hx
     ·exact h.ok x hx
     ·rw [List.mem_singleton.1 hx]; exact hm
  ·exact h
theorem maxF_in {n : Int} (h1 : 1 ≤ n) (h2 : n ≤ 13) : 0 ≤ maxF n ∧ maxF n ≤ 4 := by unfold maxF; omega
theorem wr64t (i : Nat) (h : i < 9223372036854775807) : W .i64 ((i : Int) + 1) = ((i + 1 : Nat) : Int) := by
 rw [wr64 (by omega) (by omega)]; omega
theorem liars_l1 {n : Int} (h1 : 1 ≤ n) (h2 : n ≤ 13) {raw : List Int} (hb : ∀ b ∈ raw, 0 ≤ b ∧ b ≤ 255) (hl : raw.length ≤ 9223372036854775807) : ∀ (k i : Nat) (acc : List Int), i + k = raw.length → GoodX n (maxF n) acc → EvL (fun m j => armillaryref31_Liars.l1 m j (i : Int) raw n acc) (liarsM n (maxF n) acc (raw.drop i)) := by
 have hL : ∀ (m k : Nat) (s : Int × List Int), armillaryref31_Liars.l1 m (k + 1) s.1 raw n s.2 = (armillaryref31_Liars.s1 m s.1 raw n s.2).bind fun z => sm z (fun z => armillaryref31_Liars.l1 m k z.1 raw n z.2) some := fun _ _ _ => rfl
 have hF := maxF_in h1 h2
 intro k
 induction k with
 | zero =>
  intro i acc hi hg
  refine EvL.done (L := fun m k (s : Int × List Int) => armillaryref31_Liars.l1 m k s.1 raw n s.2) (S := fun m s => armillaryref31_Liars.s1 m s.1 raw n s.2) hL (s := ((i : Int), acc)) ?_
  show Ev (fun m => armillaryref31_Liars.s1 m (i : Int) raw n acc) _
  rw [List.drop_eq_nil_of_le (by omega)]
  unfold armillaryref31_Liars.s1 armillaryref31_Liars.j0
  exact Ev.bind (a := (Sum.inr () : Unit ⊕ Unit)) (Ev.F (decide_eq_false (by omega)) (Ev.ret _)) (Ev.ret _)
 | succ k ih =>
  intro i acc hi hg
  have hir : i < raw.length := by omega
  rw [List.drop_eq_getElem_cons hir]
  unfold liarsM
  by_cases hlt : (acc.length : Int) < maxF n
  ·rw [if_pos hlt]
   have hbi := hb _ (List.getElem_mem hir)
   have hgood : GoodX n (maxF n) (if acc.contains (raw[i].tmod n) = true then acc else acc ++ [raw[i].tmod n]) := by
    have := liars_good h1 [raw[i]] acc (fun x hx => by rw [List.mem_singleton.1 hx]; exact hbi.1) hg
    unfold liarsM at this
    rw [if_pos hlt] at this
    exact this
   refine EvL.step (L := fun m k (s : Int × List Int) => armillaryref31_Liars.l1 m k s.1 raw n s.2) (S := fun m s => armillaryref31_Liars.s1 m s.1 raw n s.2) hL (s := ((i : Int), acc)) (s' := (((i + 1 : Nat) : Int), if acc.contains (raw[i].tmod n) = true then acc else acc ++ [raw[i].tmod n])) ?_ (ih (i + 1) _ (by omega) hgood)
   show Ev (fun m => armillaryref31_Liars.s1 m (i : Int) raw n acc) _
   unfold armillaryref31_Liars.s1 armillaryref31_Liars.j0
   rw [inbN hir, getD_int hir, wr64t i (by omega), wr64 (n := raw[i]) (by omega) (by omega)]
   refine Ev.bind (a := (Sum.inl () : Unit ⊕ Unit)) (Ev.T (decide_eq_true (by omega)) (Ev.bind (Ev.of fun _ => refMaxF_eq h1 h2) (Ev.T (decide_eq_true hlt) (Ev.ret _)))) ?_
   refine Ev.ck rfl (Ev.ck (by rw [decide_eq_false (by omega)]; rfl) (Ev.bind (rcontains2_ev acc (raw[i].tmod n) (by omega)) ?_))
   cases hc : acc.contains (raw[i].tmod n) with
   | true => exact Ev.F rfl (Ev.ret _)
   | false => exact Ev.T rfl (Ev.ck rfl (Ev.ck (by rw [decide_eq_false (by omega)]; rfl) (Ev.ck (roomT (n := acc.length + 1) (by omega) (by omega)) (Ev.ret _))))
  ·rw [if_neg hlt]
   refine EvL.done (L := fun m k (s : Int × List Int) => armillaryref31_Liars.l1 m k s.1 raw n s.2) (S := fun m s => armillaryref31_Liars.s1 m s.1 raw n s.2) hL (s := ((i : Int), acc)) ?_
   show Ev (fun m => armillaryref31_Liars.s1 m (i : Int) raw n acc) _
   unfold armillaryref31_Liars.s1 armillaryref31_Liars.j0
   exact Ev.bind (a := (Sum.inr () : Unit ⊕ Unit)) (Ev.T (decide_eq_true (by omega)) (Ev.bind (Ev.of fun _ => refMaxF_eq h1 h2) (Ev.F (decide_eq_false hlt) (Ev.ret _)))) (Ev.ret _)
theorem liars_ev {n : Int} (h1 : 1 ≤ n) (h2 : n ≤ 13) {raw : List Int} (hb : ∀ b ∈ raw, 0 ≤ b ∧ b ≤ 255) (hl : raw.length ≤ 9223372036854775807) : Ev (fun m => armillaryref31_Liars m raw n) (liarsM n (maxF n) [] raw) := by
 unfold armillaryref31_Liars
 exact Ev.bind (liars_l1 h1 h2 hb hl raw.length 0 [] (by omega) ⟨.nil, (fun x hx => by cases hx), by have := maxF_in h1 h2; simpa using this.1⟩).diag (Ev.ret _)

/-! ### the new network -/
def newL (n : Int) : List Rep := (List.range n.toNat).map fun i => newM (i : Nat) n
def newN (n : Int) (X : List Int) : Nw := ⟨X, newL n, [], []⟩
theorem newL_len {n : Int} (h1 : 1 ≤ n) : ((newL n).length : Int) = n := by unfold newL; simp; omega
theorem new_ninv {n : Int} (h1 : 1 ≤ n) (h2 : n ≤ 13) {X : List Int} (hX : GoodX n (maxF n) X) : NInv n 0 (newN n X) := by
 have hF := maxF_in h1 h2
 have hl := newL_len h1
 refine ⟨⟨rfl, by show 0 ≤ 4096; omega, by show (newL n).length ≤ 13; omega, by show X.length ≤ 13; have := hX.le; omega⟩, h1, h2, hl, fun i hi => ?_, (fun m hm => by cases hm), (fun m hm => by cases hm)⟩
 have key : ∀ x, (newL n)[i]? = some x → Inv x ∧ rI x = (i : Int) ∧ rN x = n ∧ (rT x).length ≤ 0 := by
  intro x hx
  unfold newL at hx
  rw [List.getElem?_map] at hx
  obtain ⟨j, hj, rfl⟩ := Option.map_eq_some_iff.1 hx
  obtain ⟨hlt, rfl⟩ := List.getElem?_eq_some_iff.1 hj
  rw [List.length_range] at hlt
  rw [List.getElem_range]
  exact ⟨new_inv h1 h2 (by omega) (by omega), rfl, rfl, Nat.le_refl 0⟩
 exact key _ (List.getElem?_eq_getElem hi)
theorem rnew_l3 {n : Int} (h1 : 1 ≤ n) (h2 : n ≤ 13) (X : List Int) : Ev (fun m => armillaryref31_New.l3 m m 1 n X [newM 0 n]) (X, newL n) := by
 have hh := loop_run (σ := Int × List Int × List Rep) (L := fun m k s => armillaryref31_New.l3 m k s.1 n s.2.1 s.2.2) (S := fun m s => armillaryref31_New.s3 m s.1 n s.2.1 s.2.2) (fun _ _ _ => rfl)
  (fun i => (((i + 1 : Nat) : Int), X, (List.range (i + 1)).map fun j => newM (j : Nat) n)) (n.toNat - 1) (X, newL n) (fun i hi => ?_) ?_
 ·exact hh
 ·show Ev (fun m => armillaryref31_New.s3 m ((i + 1 : Nat) : Int) n X ((List.range (i + 1)).map fun j => newM (j : Nat) n)) _
  unfold armillaryref31_New.s3
  rw [wr64s (i + 1) (by omega)]
  refine Ev.T (decide_eq_true (by omega)) (Ev.bind (Ev.of fun _ => rnew_eq _ _) (Ev.ck (roomT (by simp; omega) (by simp; omega)) (Ev.cast (Ev.ret _) ?_)))
  rw [List.range_succ (n := i + 1), List.map_append]
  rfl
 ·show Ev (fun m => armillaryref31_New.s3 m ((n.toNat - 1 + 1 : Nat) : Int) n X ((List.range (n.toNat - 1 + 1)).map fun j => newM (j : Nat) n)) _
  unfold armillaryref31_New.s3
  refine Ev.F (decide_eq_false (by omega)) (Ev.cast (Ev.ret _) ?_)
  rw [show n.toNat - 1 + 1 = n.toNat by omega]
  rfl
theorem rnew_j1 {n : Int} {X : List Int} (hX : GoodX n (maxF n) X) (hl : X.length ≤ 13) {i : Nat} (hi : i < X.length) : Ev (fun m => armillaryref31_New.j1 m n X (i : Int)) (.inl ()) := by
 unfold armillaryref31_New.j1
 rw [inbN hi, getD_int hi, inbN (i := i) (n := X.length + 1) (by omega)]
 have hx := hX.ok _ (List.getElem_mem hi)
 refine Ev.ck rfl (Ev.F (decide_eq_false (by omega)) (Ev.ck rfl (Ev.F (decide_eq_false (by omega)) (Ev.ck rfl (Ev.ck rfl (Ev.bind (rcontains_ev _ _ (by rw [List.length_take]; omega)) ?_))))))
 have : (X.take (i : Int).toNat).contains X[i] = false := by
  rw [Int.toNat_natCast, Bool.eq_false_iff]
  intro hc
  rw [List.contains_iff_mem] at hc
  obtain ⟨j, hj, e⟩ := List.getElem_of_mem hc
  rw [List.length_take] at hj
  rw [List.getElem_take] at e
  exact List.pairwise_iff_getElem.1 hX.nd j i (by omega) hi (by omega) e
 rw [this]
 exact Ev.F rfl (Ev.ret _)
theorem rnew_ev {n : Int} (h1 : 1 ≤ n) (h2 : n ≤ 13) {X : List Int} (hX : GoodX n (maxF n) X) : Ev (fun m => armillaryref31_New m n X) (newL n, X, 0) := by
 have hF := maxF_in h1 h2
 have hle := hX.le
 have hl13 : X.length ≤ 13 := by omega
 unfold armillaryref31_New armillaryref31_New.j0
 refine Ev.bind (a := (Sum.inl () : Unit ⊕ Int)) (Ev.F (decide_eq_false (by omega)) (Ev.F (decide_eq_false (by omega)) (Ev.bind (Ev.of fun _ => refMaxF_eq h1 h2) (Ev.F (decide_eq_false (by omega)) (Ev.ret _))))) ?_
 by_cases h0 : 0 < X.length
 ·refine Ev.T (decide_eq_true (by omega)) (Ev.bind (a := (Sum.inl () : Unit ⊕ Int)) (rnew_j1 hX hl13 (i := 0) h0) (Ev.ck (inbN (i := 0) h0) (Ev.ck (by decide) ?_)))
  refine Ev.bind (a := (Sum.inr X : (Int × List Int) ⊕ List Int)) ?_ (Ev.T (decide_eq_true (by omega)) (Ev.bind (Ev.of fun _ => rnew_eq 0 n) (Ev.ck (by decide) (Ev.bind (rnew_l3 h1 h2 X) (Ev.ret _)))))
  have hh := loop_run (σ := Int × List Int) (L := fun m k s => armillaryref31_New.l2 m k s.1 n X s.2) (S := fun m s => armillaryref31_New.s2 m s.1 n X s.2) (fun _ _ _ => rfl)
   (fun i => (((i + 1 : Nat) : Int), X.take (i + 1))) (X.length - 1) (.inr X) (fun i hi => ?_) ?_
  ·have e : X.take (0 + 1) = [X.getD 0 0] := by
    rw [List.take_add_one, List.take_zero, List.getElem?_eq_getElem h0, getD_lt h0]; rfl
   rw [e] at hh
   exact hh
  ·have hi2 : i + 1 < X.length := by omega
   show Ev (fun m => armillaryref31_New.s2 m ((i + 1 : Nat) : Int) n X (X.take (i + 1))) _
   unfold armillaryref31_New.s2
   rw [inbN hi2, getD_int hi2, wr64s (i + 1) (by omega)]
   refine Ev.T (decide_eq_true (by omega)) (Ev.bind (a := (Sum.inl () : Unit ⊕ Int)) (rnew_j1 hX hl13 hi2) (Ev.ck rfl (Ev.ck (roomT (by rw [List.length_take]; omega) (by rw [List.length_take]; omega)) (Ev.cast (Ev.ret _) ?_))))
   rw [List.take_add_one (i := i + 1), List.getElem?_eq_getElem hi2]
   rfl
  ·show Ev (fun m => armillaryref31_New.s2 m ((X.length - 1 + 1 : Nat) : Int) n X (X.take (X.length - 1 + 1))) _
   unfold armillaryref31_New.s2
   refine Ev.F (decide_eq_false (by omega)) (Ev.cast (Ev.ret _) ?_)
   rw [List.take_of_length_le (by omega)]
 ·have e : X = [] := List.length_eq_zero_iff.1 (by omega)
  subst e
  exact Ev.F rfl (Ev.T (decide_eq_true (by omega)) (Ev.bind (Ev.of fun _ => rnew_eq 0 n) (Ev.ck (by decide) (Ev.bind (rnew_l3 h1 h2 []) (Ev.ret _)))))

/-! ### made events -/
theorem w8_in (x : Int) : 0 ≤ W .u8 x ∧ W .u8 x ≤ 255 := by
 unfold W IntKind.wrap
 have h2 : (2 : Int) ^ 8 = 256 := by decide
 simp only [IntKind.bits, IntKind.signed, Bool.false_and, h2, Bool.false_eq_true, if_false]
 omega
theorem rentry_eq {b : Int} (h : 0 ≤ b) : armillaryref31_Entry b = some (entM b) := by
 unfold armillaryref31_Entry
 simp only [List.length_cons, List.length_nil]
 rw [mod3_in h]
 rfl
def bodyM (e : Evt) : Int := W .u8 (bAnd .u32 (mS e.2.2.2) 255)
def kindM (e : Evt) : Int := if bAnd .i64 e.1 15 < 1 then 1 else if bAnd .i64 e.1 15 > 7 then 1 else bAnd .i64 e.1 15
def madeE (n : Int) (e : Evt) : Evt :=
 if kindM e = 6 then (kindM e, bAnd .i64 e.2.1 31, (bAnd .i64 e.2.2.1 255).tmod n, 0, 0, 0, 0, 0, entM (bodyM e))
 else (kindM e, bAnd .i64 e.2.1 31, (bAnd .i64 e.2.2.1 255).tmod n, madeM e.2.2.2 (bodyM e) n)
theorem madeE_ev {n : Int} (h1 : 1 ≤ n) (e : Evt) : Ev (fun m => armillaryref31_Made m e n) (madeE n e) := by
 have hb := w8_in (bAnd .u32 (mS e.2.2.2) 255)
 unfold armillaryref31_Made armillaryref31_Made.j0
 refine Ev.bind (a := kindM e) ?_ (Ev.ck (by rw [decide_eq_false (by omega)]; rfl) (Ev.bind (made_ev e.2.2.2 (b := bodyM e) hb.1 h1) ?_))
 ·unfold kindM
  by_cases c1 : bAnd .i64 e.1 15 < 1
  ·rw [if_pos c1]; exact Ev.T (decide_eq_true c1) (Ev.ret _)
  ·rw [if_neg c1]
   refine Ev.F (decide_eq_false c1) ?_
   by_cases c2 : bAnd .i64 e.1 15 > 7
   ·rw [if_pos c2]; exact Ev.T (decide_eq_true c2) (Ev.ret _)
   ·rw [if_neg c2]; exact Ev.F (decide_eq_false c2) (Ev.ret _)
 ·unfold madeE
  by_cases c6 : kindM e = 6
  ·rw [if_pos c6]
   exact Ev.T (by simpa using c6) (Ev.bind (Ev.of fun _ => rentry_eq (b := bodyM e) hb.1) (Ev.ret _))
  ·rw [if_neg c6]
   exact Ev.F (by simpa using c6) (Ev.ret _)
theorem madeE_bytes (n : Int) (e : Evt) : bytesE (mE (madeE n e).2.2.2) := by
 unfold madeE
 split
 ·exact entM_bytes _
 ·exact made_bytes _ _ _
def madesE (n : Int) (most : Nat) (l : List Evt) : List Evt := (l.take most).map (madeE n)
theorem madesE_ev {n : Int} (h1 : 1 ≤ n) (l : List Evt) {most : Nat} (hm : most ≤ 1000000) : Ev (fun m => armillaryref31_MadeAll m l n (most : Int)) (madesE n most l) := by
 unfold armillaryref31_MadeAll
 have hh := loop_run (σ := Int × List Evt) (L := fun m k s => armillaryref31_MadeAll.l1 m k s.1 l n (most : Int) s.2) (S := fun m s => armillaryref31_MadeAll.s1 m s.1 l n (most : Int) s.2) (fun _ _ _ => rfl)
  (fun i => ((i : Int), (l.take i).map (madeE n))) (min most l.length) (madesE n most l) (fun i hi => ?_) ?_
 ·exact Ev.bind hh (Ev.ret _)
 ·have hil : i < l.length := by omega
  show Ev (fun m => armillaryref31_MadeAll.s1 m (i : Int) l n (most : Int) ((l.take i).map (madeE n))) _
  unfold armillaryref31_MadeAll.s1 armillaryref31_MadeAll.j0
  rw [inbN hil, getD_int hil, wr64s i (by omega)]
  refine Ev.bind (a := (Sum.inl () : Unit ⊕ Unit)) (Ev.T (decide_eq_true (by omega)) (Ev.T (decide_eq_true (by omega)) (Ev.ret _))) (Ev.ck rfl (Ev.bind (madeE_ev h1 l[i]) (Ev.ck (roomT (by rw [List.length_map, List.length_take]; omega) (by rw [List.length_map, List.length_take]; omega)) (Ev.cast (Ev.ret _) ?_))))
  rw [List.take_add_one, List.getElem?_eq_getElem hil, List.map_append]
  rfl
 ·show Ev (fun m => armillaryref31_MadeAll.s1 m ((min most l.length : Nat) : Int) l n (most : Int) ((l.take (min most l.length)).map (madeE n))) _
  unfold armillaryref31_MadeAll.s1 armillaryref31_MadeAll.j0
  have e : madesE n most l = (l.take (min most l.length)).map (madeE n) := by
   unfold madesE
   congr 1
   rcases Nat.le_total most l.length with h | h
   ·rw [Nat.min_eq_left h]
   ·rw [Nat.min_eq_right h, List.take_of_length_le h, List.take_of_length_le (Nat.le_refl _)]
  rw [e]
  refine Ev.bind (a := (Sum.inr () : Unit ⊕ Unit)) ?_ (Ev.ret _)
  by_cases c : most < l.length
  ·exact Ev.T (decide_eq_true (by omega)) (Ev.F (decide_eq_false (by omega)) (Ev.ret _))
  ·exact Ev.F (decide_eq_false (by omega)) (Ev.ret _)

/-! ### the start -/
def cntN (b : Int) : Int := 1 + b % 7
theorem cntN_in (b : Int) : 1 ≤ cntN b ∧ cntN b ≤ 7 := by unfold cntN; omega
abbrev Scen : Type := S25
structure ScenWf (x : Scen) : Prop where
 n : 0 ≤ x.1 ∧ x.1 ≤ 255
 raw : ∀ b ∈ x.2.1, 0 ≤ b ∧ b ≤ 255
 rl : x.2.1.length ≤ 9223372036854775807
def startX (x : Scen) : List Int := liarsM (cntN x.1) (maxF (cntN x.1)) [] x.2.1
def startN (x : Scen) : Nw := newN (cntN x.1) (startX x)
def startL (x : Scen) (most : Nat) : List Evt := madesE (cntN x.1) most x.2.2
theorem startX_good {x : Scen} (h : ScenWf x) : GoodX (cntN x.1) (maxF (cntN x.1)) (startX x) := by
 have hn := cntN_in x.1
 exact liars_good hn.1 _ _ (fun b hb => (h.raw b hb).1) ⟨.nil, (fun x hx => by cases hx), by have := maxF_in hn.1 (by omega); simpa using this.1⟩
theorem scen_wf {x : Scen} (h : c25.wf x) : ScenWf x := ⟨wf_u8 h.1, fun b hb => wf_u8 (h.2.1.2 b hb), h.2.1.1⟩
theorem start_inv {x : Scen} (h : ScenWf x) : NInv (cntN x.1) 0 (startN x) := new_ninv (cntN_in x.1).1 (by have := (cntN_in x.1).2; omega) (startX_good h)
theorem start_bytes (x : Scen) (most : Nat) : ∀ e ∈ startL x most, bytesE (mE e.2.2.2) := fun e he => by
 obtain ⟨a, _, rfl⟩ := List.mem_map.1 he
 exact madeE_bytes _ _
theorem start_len (x : Scen) (most : Nat) : (startL x most).length ≤ most := by unfold startL madesE; rw [List.length_map, List.length_take]; omega
theorem start_ev {x : Scen} (h : ScenWf x) {most : Nat} (hm : most ≤ 1000000) : Ev (fun m => armillarylaw31_start m x (most : Int)) (cntN x.1, (startN x).toS, startL x most) := by
 have hn := cntN_in x.1
 have hx := h.n
 unfold armillarylaw31_start
 have e1 : W .i64 x.1 = x.1 := wr64 (by omega) (by omega)
 have e2 : x.1.tmod 7 = x.1 % 7 := Int.tmod_eq_emod_of_nonneg hx.1
 have e3 : W .i64 (1 + (W .i64 x.1).tmod 7) = cntN x.1 := by
  rw [e1, e2, wr64 (by omega) (by omega)]
  rfl
 rw [e3]
 exact Ev.bind (liars_ev hn.1 (by omega) h.raw h.rl) (Ev.bind (rnew_ev hn.1 (by omega) (startX_good h)) (Ev.bind (madesE_ev hn.1 _ hm) (Ev.ret _)))
end Go.Proofs.YtfecniimkgkmfaaGreat
namespace Go.Proofs.YtfecniimkgkmfaaGreat
open Go Go.RowKit Go.Proofs.YtfecniimkgkmfaaGreat.RW Go.Proofs.YtfecniimkgkmfaaGreat.AM
set_option maxRecDepth 1000000
theorem sane (n : Nat) : armillarylaw31_sanity (n + 40) = some true := by kernel_rfl
end Go.Proofs.YtfecniimkgkmfaaGreat
namespace Go.Proofs.YtfecniimkgkmfaaGreat
open Go Go.RowKit Go.Proofs.YtfecniimkgkmfaaGreat.RW
open Go.Proofs.YtfecniimkgkmfaaGreat.AM hiding lk
set_option linter.unusedVariables false
set_option maxRecDepth 100000
variable {n : Int} {c : Nat} {w : Nw}
theorem sane_ev : Ev (fun k => armillarylaw31_sanity k) true := ⟨40, fun n hn => by
 have := sane (n - 40)
 rwa [show n - 40 + 40 = n from by omega] at this⟩
theorem sameN_ev (h : NInv n c w) : Ev (fun k => armillaryref31_Same k w.toS w.toS) true := by
 have h1 := h.fit.wt; have h2 := h.fit.le; have h3 := h.fit.ln; have h4 := h.fit.xl
 unfold armillaryref31_Same armillaryref31_Same.j0
 refine Ev.bind (a := (Sum.inl () : Unit ⊕ Bool)) (Ev.F (by simp) (Ev.F (by simp) (Ev.F (by simp) (Ev.bind (sameMsgs_ev (l := w.W) (by omega)) (Ev.F rfl (Ev.ret _)))))) ?_
 have hL : Ev (fun k => armillaryref31_Same.l1 k k 0 w.toS w.toS) (.inr (w.toS, w.toS)) := by
  refine loop_run (σ := Int × S31 × S31) (L := fun k j s => armillaryref31_Same.l1 k j s.1 s.2.1 s.2.2) (S := fun k s => armillaryref31_Same.s1 k s.1 s.2.1 s.2.2) (fun _ _ _ => rfl) (fun j => ((j : Int), w.toS, w.toS)) w.L.length _ (fun i hi => ?_) (Ev.of fun k => ?_)
  ·show Ev (fun k => armillaryref31_Same.s1 k (i : Int) w.toS w.toS) _
   unfold armillaryref31_Same.s1
   have hs := sameR_ev (h.rep i hi).1.sz
   rw [← getD_int (d := z56) hi] at hs
   rw [inbN (n := w.toS.1.length) hi, wr64s i (by omega)]
   exact Ev.T (decide_eq_true (by show (i : Int) < (w.L.length : Int); omega)) (Ev.ck rfl (Ev.ck rfl (Ev.bind hs (Ev.F rfl (Ev.ret _)))))
  ·show armillaryref31_Same.s1 k (w.L.length : Int) w.toS w.toS = _
   unfold armillaryref31_Same.s1
   rw [show decide ((w.L.length : Int) < (w.toS.1.length : Int)) = false from decide_eq_false (by show ¬ ((w.L.length : Int) < (w.L.length : Int)); omega)]
   rfl
 have hT : Ev (fun k => armillaryref31_Same.l2 k k 0 w.toS w.toS) (.inr (w.toS, w.toS)) := by
  refine loop_run (σ := Int × S31 × S31) (L := fun k j s => armillaryref31_Same.l2 k j s.1 s.2.1 s.2.2) (S := fun k s => armillaryref31_Same.s2 k s.1 s.2.1 s.2.2) (fun _ _ _ => rfl) (fun j => ((j : Int), w.toS, w.toS)) w.T.length _ (fun i hi => Ev.of fun k => ?_) (Ev.of fun k => ?_)
  ·show armillaryref31_Same.s2 k (i : Int) w.toS w.toS = _
   unfold armillaryref31_Same.s2
   rw [inbN (n := w.toS.2.2.1.length) hi, wr64s i (by omega), show decide ((i : Int) < (w.toS.2.2.1.length : Int)) = true from decide_eq_true (by show (i : Int) < (w.T.length : Int); omega)]
   simp [AM.ck]
  ·show armillaryref31_Same.s2 k (w.T.length : Int) w.toS w.toS = _
   unfold armillaryref31_Same.s2
   rw [show decide ((w.T.length : Int) < (w.toS.2.2.1.length : Int)) = false from decide_eq_false (by show ¬ ((w.T.length : Int) < (w.T.length : Int)); omega)]
   rfl
 have hX : Ev (fun k => armillaryref31_Same.l3 k k 0 w.toS w.toS) (.inr (w.toS, w.toS)) := by
  refine loop_run (σ := Int × S31 × S31) (L := fun k j s => armillaryref31_Same.l3 k j s.1 s.2.1 s.2.2) (S := fun k s => armillaryref31_Same.s3 k s.1 s.2.1 s.2.2) (fun _ _ _ => rfl) (fun j => ((j : Int), w.toS, w.toS)) w.X.length _ (fun i hi => Ev.of fun k => ?_) (Ev.of fun k => ?_)
  ·show armillaryref31_Same.s3 k (i : Int) w.toS w.toS = _
   unfold armillaryref31_Same.s3
   rw [inbN (n := w.toS.2.2.2.length) hi, wr64s i (by omega), show decide ((i : Int) < (w.toS.2.2.2.length : Int)) = true from decide_eq_true (by show (i : Int) < (w.X.length : Int); omega)]
   simp [AM.ck]
  ·show armillaryref31_Same.s3 k (w.X.length : Int) w.toS w.toS = _
   unfold armillaryref31_Same.s3
   rw [show decide ((w.X.length : Int) < (w.toS.2.2.2.length : Int)) = false from decide_eq_false (by show ¬ ((w.X.length : Int) < (w.X.length : Int)); omega)]
   rfl
 exact Ev.bind hL (Ev.bind hT (Ev.bind hX (Ev.ret _)))
end Go.Proofs.YtfecniimkgkmfaaGreat
namespace Go.Proofs.YtfecniimkgkmfaaGreat
open Go Go.RowKit Go.Proofs.YtfecniimkgkmfaaGreat.RW
open Go.Proofs.YtfecniimkgkmfaaGreat.AM hiding lk
set_option linter.unusedVariables false
set_option maxRecDepth 100000
/-- No view above V. -/
structure VB (V : Int) (r : Rep) : Prop where
 v : rV r ≤ V
 t : ∀ m ∈ rT r, mV m ≤ V
 s : ∀ m ∈ rS r, mV m ≤ V
/-- How much a replica may still say, while no view exceeds V. -/
def muV (V : Int) (r : Rep) : Nat := 4 * (1000 - (rL r).length) + 4 * (V - rV r).toNat + (nb (sentM r 1) + nb (sentM r 2) + nb (sentM r 3))
/-! ### in a network -/
structure NV (V : Int) (w : Nw) : Prop where
 r : ∀ r ∈ w.L, VB V r
 w : ∀ m ∈ w.W, mV m ≤ V
variable {n : Int} {c : Nat} {w : Nw} {V : Int}
/-! ### how many deliveries empty a network -/
def potL (V : Int) (l : List Rep) : Nat := (l.map (muV V)).sum
def pot (V : Int) (w : Nw) : Nat := w.W.length + w.L.length * potL V w.L
theorem posts_len (w : Nw) (m : Msg) : ∀ k : Nat, (postsN k w m).W.length ≤ w.W.length + k
 | 0 => Nat.le_refl _
 | k + 1 => by
  have := posts_len w m k
  rw [postsN_succ]
  unfold postN
  split
  ·simp only [List.length_append, List.length_singleton]; omega
  ·omega
theorem send_len : ∀ (l : List Msg) (w : Nw), (sendN w l).W.length ≤ w.W.length + w.L.length * l.length
 | [], w => Nat.le_refl _
 | m :: l, w => by
  have h1 := send_len l (postsN w.L.length w m)
  have h2 := posts_len w m w.L.length
  rw [posts_L] at h1
  show (sendN (postsN w.L.length w m) l).W.length ≤ _
  rw [List.length_cons, Nat.mul_succ]
  omega
theorem sum_set {f : Rep → Nat} : ∀ (l : List Rep) (i : Nat) (hi : i < l.length) (q : Rep), ((l.set i q).map f).sum + f l[i] = (l.map f).sum + f q
 | a :: l, 0, _, q => by simp; omega
 | a :: l, i + 1, hi, q => by
  have := sum_set (f := f) l i (by simpa using hi) q
  simp only [List.set_cons_succ, List.map_cons, List.sum_cons, List.getElem_cons_succ]
  omega
 | [], _, hi, _ => by simp at hi
end Go.Proofs.YtfecniimkgkmfaaGreat
namespace Go.Proofs.YtfecniimkgkmfaaGreat
open Go Go.RowKit Go.Proofs.YtfecniimkgkmfaaGreat.RW
open Go.Proofs.YtfecniimkgkmfaaGreat.AM hiding lk
set_option linter.unusedVariables false
set_option maxRecDepth 100000
variable {n : Int} {c : Nat} {w : Nw}

/-! ### one event, one replica -/
/-- What an event leaves of the replica i: it grows, and where it is a liar it stays. -/
structure Left (w v : Nw) : Prop where
 x : v.X = w.X
 len : v.L.length = w.L.length
 log : ∀ i (hi : i < w.L.length) (hv : i < v.L.length), rL w.L[i] <+: rL v.L[i] ∧ rV w.L[i] ≤ rV v.L[i]
 lie : ∀ i (hi : i < w.L.length) (hv : i < v.L.length), w.X.contains (i : Int) = true → v.L[i] = w.L[i]
theorem act_X (w : Nw) (i : Int) (q : Rep) : (actN w i q).X = w.X ∧ (actN w i q).L = w.L.set i.toNat q := send_keep _ (setN w i q)
/-! ### where entries come from -/
structure SrcR (P : Ent → Prop) (r : Rep) : Prop where
 l : ∀ e ∈ rL r, P e
 t : ∀ m ∈ rT r, mK m = 1 → P (mE m)
 s : ∀ m ∈ rS r, mK m = 1 → P (mE m)
structure Src (P : Ent → Prop) (w : Nw) : Prop where
 r : ∀ r ∈ w.L, SrcR P r
 w : ∀ m ∈ w.W, mK m = 1 → P (mE m)
variable {P : Ent → Prop}
theorem Stps.indP {P : Rep → Prop} {r s : Rep} (h : Stps r s) (hp : P r) (step : ∀ a b, Inv a → P a → Stp a b → P b) : P s := by
 induction h with
 | refl r => exact hp
 | head hi h1 h2 ih => exact ih (step _ _ hi hp h1)
end Go.Proofs.YtfecniimkgkmfaaGreat
namespace Go.Proofs.YtfecniimkgkmfaaGreat
open Go Go.RowKit Go.Proofs.YtfecniimkgkmfaaGreat.RW
open Go.Proofs.YtfecniimkgkmfaaGreat.AM hiding lk
set_option linter.unusedVariables false
set_option maxRecDepth 100000
/-- Words said, and the words that the slot still allows. -/
def wd (r : Rep) : Nat := (rS r).length + (nb (sentM r 1) + nb (sentM r 2) + nb (sentM r 3))
/-- A join is due. -/
def jn (r : Rep) : Nat := if rV r < jview r then 4 else 0
theorem wd_le (r : Rep) : (rS r).length ≤ wd r ∧ wd r ≤ (rS r).length + 3 := by
 have := nb_le (sentM r 1)
 have := nb_le (sentM r 2)
 have := nb_le (sentM r 3)
 unfold wd
 omega
theorem jn_le (r : Rep) : jn r ≤ 4 := by unfold jn; split <;> omega
theorem step_wd {r q : Rep} (h : Inv r) (hs : stepM r = some q) : wd q + jn q + 3 * (rL r).length ≤ wd r + jn r + 3 * (rL q).length := by
 have hw := wd_le r
 have hq := wd_le q
 unfold stepM at hs
 split at hs
 ·rename_i c1
  obtain rfl := Option.some.inj hs
  unfold commitM at c1
  obtain ⟨p, hp, rfl⟩ := Option.map_eq_some_iff.1 c1
  have e1 : jn (rI r, rN r, rV r, rT r, rS r, rL r ++ [mE p]) = jn r := rfl
  have e2 : (rS (rI r, rN r, rV r, rT r, rS r, rL r ++ [mE p])).length = (rS r).length := rfl
  have e3 : (rL (rI r, rN r, rV r, rT r, rS r, rL r ++ [mE p])).length = (rL r).length + 1 := by show (rL r ++ [mE p]).length = _; simp
  rw [e1, e3]
  rw [e2] at hq
  omega
 ·split at hs
  ·rename_i c2
   obtain rfl := Option.some.inj hs
   unfold joinM at c2
   split at c2
   ·cases c2
   ·rename_i hj
    obtain rfl := Option.some.inj c2
    have e1 : jn r = 4 := by unfold jn; rw [if_pos (by omega)]
    generalize hx : ((4, 0, jview r, 0, 0, 0, (⟨#[]⟩ : ByteArray), ([] : List Int)) : Msg) = x at *
    have e2 : jn (sendM (rI r, rN r, jview r, rT r, rS r, rL r) x) = 0 := by
     unfold jn
     rw [if_neg]
     show ¬ jview r < jview r
     omega
    have e3 : (rS (sendM (rI r, rN r, jview r, rT r, rS r, rL r) x)).length = (rS r).length + 1 := by show (rS r ++ [_]).length = _; simp
    have e4 : rL (sendM (rI r, rN r, jview r, rT r, rS r, rL r) x) = rL r := rfl
    rw [e1, e2, e4]
    rw [e3] at hq
    omega
  ·have hstp : ∀ k s, (k = 2 ∨ k = 3) → sentM r k = false → q = sendM r (k, 0, rV r, posM r, s, zE) → wd q + jn q + 3 * (rL r).length ≤ wd r + jn r + 3 * (rL q).length := by
    intro k s hk hsn e
    subst e
    have e1 : jn (sendM r (k, 0, rV r, posM r, s, zE)) = jn r := rfl
    have e4 : rL (sendM r (k, 0, rV r, posM r, s, zE)) = rL r := rfl
    have e5 : wd (sendM r (k, 0, rV r, posM r, s, zE)) = wd r := by
     unfold wd
     rw [sent_send, sent_send, sent_send]
     have e3 : (rS (sendM r (k, 0, rV r, posM r, s, zE))).length = (rS r).length + 1 := by show (rS r ++ [_]).length = _; simp
     rw [e3]
     simp only [beq_self_eq_true, Bool.and_self, Bool.and_true]
     rcases hk with rfl | rfl
     ·rw [hsn, show ((2 : Int) == 1) = false from rfl, show ((2 : Int) == 3) = false from rfl, show ((2 : Int) == 2) = true from rfl]
      simp only [Bool.or_false, Bool.or_true]
      show _ + 1 + (_ + 0 + _) = _ + (_ + 1 + _)
      omega
     ·rw [hsn, show ((3 : Int) == 1) = false from rfl, show ((3 : Int) == 2) = false from rfl, show ((3 : Int) == 3) = true from rfl]
      simp only [Bool.or_false, Bool.or_true]
      show _ + 1 + (_ + _ + 0) = _ + (_ + _ + 1)
      omega
    rw [e1, e4, e5]
    exact Nat.le_refl _
   split at hs
   ·rename_i c3
    obtain rfl := Option.some.inj hs
    unfold prepareM at c3
    split at c3
    ·cases c3
    ·split at c3
     ·cases c3
     ·split at c3
      ·cases c3
      ·rename_i hsn
       split at c3
       ·cases c3
       ·obtain rfl := Option.some.inj c3
        exact hstp 2 _ (.inl rfl) (by simpa using hsn) rfl
   ·unfold lockM at hs
    split at hs
    ·cases hs
    ·split at hs
     ·cases hs
     ·rename_i hsn
      split at hs
      ·cases hs
      ·obtain rfl := Option.some.inj hs
       exact hstp 3 _ (.inr rfl) (by simpa using hsn) rfl
theorem iter_wd : ∀ (k : Nat) (r : Rep), Inv r → wd (iterM k r) + jn (iterM k r) + 3 * (rL r).length ≤ wd r + jn r + 3 * (rL (iterM k r)).length
 | 0, r, _ => Nat.le_refl _
 | k + 1, r, h => by
  unfold iterM
  cases hs : stepM r with
  | none => exact Nat.le_refl _
  | some q =>
   have h1 := step_wd h hs
   have h2 := iter_wd k q ((step_stp h hs).inv h).1
   show wd (iterM k q) + jn (iterM k q) + _ ≤ _ + 3 * (rL (iterM k q)).length
   omega
theorem prog_wd {r : Rep} (h : Inv r) : wd (progM r) + 3 * (rL r).length ≤ wd r + 4 + 3 * (rL (progM r)).length := by
 have := iter_wd (mu r) r h
 have h2 := jn_le r
 unfold progM
 omega
theorem handle_wd {r : Rep} (h : Inv r) {m : Msg} (hb : bytesE (mE m)) (hl : (rT r).length < 1000000) : wd (handleM r m) + 3 * (rL r).length ≤ wd r + 8 + 3 * (rL (handleM r m)).length := by
 unfold handleM
 split
 ·rename_i hc
  have := prog_wd (take_inv h hc.1 hc.2 hb hl)
  have e1 : wd (takeM r m) = wd r := rfl
  have e2 : rL (takeM r m) = rL r := rfl
  rw [e1, e2] at this
  omega
 ·omega
theorem timeout_wd {r : Rep} (h : Inv r) : wd (timeoutM r) + 3 * (rL r).length ≤ wd r + 8 + 3 * (rL (timeoutM r)).length := by
 unfold timeoutM
 split
 ·omega
 ·rename_i hv
  have := prog_wd (next_inv h hv)
  have e2 : rL (sendM (nextM r) (4, 0, rV r + 1, 0, 0, zE)) = rL r := rfl
  have e3 := (wd_le (sendM (nextM r) (4, 0, rV r + 1, 0, 0, zE))).2
  have e4 : (rS (sendM (nextM r) (4, 0, rV r + 1, 0, 0, zE))).length = (rS r).length + 1 := by show (rS r ++ [_]).length = _; simp
  have e5 := (wd_le r).1
  rw [e2] at this
  omega
theorem propose_wd {r : Rep} (e : Ent) : wd (proposeM r e) + 3 * (rL r).length ≤ wd r + 8 + 3 * (rL (proposeM r e)).length := by
 unfold proposeM
 split
 ·have e2 : rL (sendM r (proposeMsg r e)) = rL r := rfl
  have e3 := (wd_le (sendM r (proposeMsg r e))).2
  have e4 : (rS (sendM r (proposeMsg r e))).length = (rS r).length + 1 := by show (rS r ++ [_]).length = _; simp
  have e5 := (wd_le r).1
  rw [e2]
  omega
 ·omega
end Go.Proofs.YtfecniimkgkmfaaGreat
namespace Go.Proofs.YtfecniimkgkmfaaGreat
open Go Go.RowKit Go.Proofs.YtfecniimkgkmfaaGreat.RW
open Go.Proofs.YtfecniimkgkmfaaGreat.AM hiding lk
set_option linter.unusedVariables false
set_option maxRecDepth 100000
theorem nodup_sub : ∀ (J l : List Int), l.Nodup → (∀ x ∈ l, x ∈ J) → l.length ≤ J.length
 | [], l, _, h => by
  cases l with
  | nil => exact Nat.le_refl _
  | cons x r => exact absurd (h x List.mem_cons_self) (by simp)
 | j :: J, l, hn, h => by
  have h1 := nodup_sub J (l.erase j) (hn.erase j) (fun x hx => by
   obtain ⟨h2, h3⟩ := (hn.mem_erase_iff).1 hx
   rcases List.mem_cons.1 (h x h3) with e | e
   ·exact absurd e h2
   ·exact e)
  rw [List.length_cons]
  by_cases hj : j ∈ l
  ·rw [List.length_erase_of_mem hj] at h1
   omega
  ·rw [List.erase_of_not_mem hj] at h1
   omega
/-- The places of the logs, each with its replica, as numbers. -/
def codes : Nat → List Rep → List Int
 | _, [] => []
 | i, r :: l => ((List.range (rL r).length).map fun p : Nat => (i : Int) * 2000 + (p : Int)) ++ codes (i + 1) l
theorem codes_len : ∀ (l : List Rep) (i : Nat), (codes i l).length = (l.map fun r => (rL r).length).sum
 | [], _ => rfl
 | r :: l, i => by simp [codes, codes_len l (i + 1)]
theorem codes_ge : ∀ (l : List Rep) (i : Nat), ∀ x ∈ codes i l, (i : Int) * 2000 ≤ x
 | [], _, x, h => by cases h
 | r :: l, i, x, h => by
  rcases List.mem_append.1 h with h | h
  ·obtain ⟨p, _, rfl⟩ := List.mem_map.1 h
   omega
  ·have := codes_ge l (i + 1) x h
   omega
theorem codes_nd : ∀ (l : List Rep) (i : Nat), (∀ r ∈ l, (rL r).length ≤ 1000) → (codes i l).Nodup
 | [], _, _ => .nil
 | r :: l, i, h => by
  have hr := h r List.mem_cons_self
  refine List.nodup_append.2 ⟨?_, codes_nd l (i + 1) (fun q hq => h q (List.mem_cons_of_mem _ hq)), fun a ha b hb e => ?_⟩
  ·exact List.pairwise_map.2 (List.nodup_range.imp (fun {a b} hne e => hne (by omega)))
  ·obtain ⟨p, hp, rfl⟩ := List.mem_map.1 ha
   have := codes_ge l (i + 1) b hb
   have := List.mem_range.1 hp
   omega
theorem codes_mem : ∀ (l : List Rep) (i : Nat) (x : Int), x ∈ codes i l → ∃ (j : Nat) (hj : j < l.length) (p : Nat), p < (rL l[j]).length ∧ x = ((i + j : Nat) : Int) * 2000 + p
 | [], _, _, h => by cases h
 | r :: l, i, x, h => by
  rcases List.mem_append.1 h with h | h
  ·obtain ⟨p, hp, rfl⟩ := List.mem_map.1 h
   exact ⟨0, by simp, p, List.mem_range.1 hp, by simp⟩
  ·obtain ⟨j, hj, p, hp, rfl⟩ := codes_mem l (i + 1) x h
   exact ⟨j + 1, by simpa using hj, p, hp, by rw [show i + 1 + j = i + (j + 1) by omega]⟩
/-- Which positions each replica heard of. -/
def Heard (G : List Int) (w : Nw) : Prop := ∀ i (hi : i < w.L.length), (∀ m ∈ rT w.L[i], (i : Int) * 2000 + mQ m ∈ G) ∧ ∀ p : Nat, p < (rL w.L[i]).length → (i : Int) * 2000 + (p : Int) ∈ G
theorem logs_le {G : List Int} {n : Int} {c : Nat} {w : Nw} (h : NInv n c w) (hG : Heard G w) : (w.L.map fun r => (rL r).length).sum ≤ G.length := by
 rw [← codes_len w.L 0]
 refine nodup_sub G _ (codes_nd w.L 0 (fun r hr => ?_)) (fun x hx => ?_)
 ·obtain ⟨i, hi, rfl⟩ := List.getElem_of_mem hr
  exact (h.rep i hi).1.gl
 ·obtain ⟨j, hj, p, hp, rfl⟩ := codes_mem w.L 0 x hx
  rw [Nat.zero_add]
  exact (hG j hj).2 p hp

/-! ### one replica -/
structure HeardR (G : List Int) (i : Int) (r : Rep) : Prop where
 t : ∀ m ∈ rT r, i * 2000 + mQ m ∈ G
 l : ∀ p : Nat, p < (rL r).length → i * 2000 + (p : Int) ∈ G
theorem Stp.heard {G : List Int} {i : Int} {r q : Rep} (hb : HeardR G i r) (hs : Stp r q) : HeardR G i q := by
 cases hs with
 | commit p v hp k qq d =>
  refine ⟨hb.t, fun x hx => ?_⟩
  have hx : x < (rL r ++ [mE p]).length := hx
  rw [List.length_append, List.length_singleton] at hx
  by_cases e : x < (rL r).length
  ·exact hb.l x e
  ·have := hb.t p hp
   rw [qq] at this
   unfold posM at this
   rw [show x = (rL r).length by omega]
   exact this
 | join w m hm k e hw => exact ⟨hb.t, hb.l⟩
 | prepare p hp k qq v h2 ha => exact ⟨hb.t, hb.l⟩
 | lock p hp k qq h3 d => exact ⟨hb.t, hb.l⟩
theorem Stps.heard {G : List Int} {i : Int} {r q : Rep} (h : Stps r q) (hb : HeardR G i r) : HeardR G i q := h.indP hb (fun a b _ hp hs => hs.heard hp)
theorem HeardR.mono {G G' : List Int} {i : Int} {r : Rep} (h : HeardR G i r) (hG : ∀ x ∈ G, x ∈ G') : HeardR G' i r := ⟨fun m hm => hG _ (h.t m hm), fun p hp => hG _ (h.l p hp)⟩
theorem handle_heard {G : List Int} {i : Int} {r : Rep} (h : Inv r) (hb : HeardR G i r) {m : Msg} (hm : bytesE (mE m)) (hl : (rT r).length < 1000000) : HeardR ((i * 2000 + mQ m) :: G) i (handleM r m) := by
 have hu := hb.mono (G' := (i * 2000 + mQ m) :: G) (fun x hx => List.mem_cons_of_mem _ hx)
 unfold handleM
 split
 ·rename_i hc
  refine (prog_stps (take_inv h hc.1 hc.2 hm hl)).heard ⟨fun x hx => ?_, hu.l⟩
  rcases List.mem_append.1 hx with hx | hx
  ·exact hu.t x hx
  ·rw [List.mem_singleton.1 hx]; exact List.mem_cons_self
 ·exact hu
theorem timeout_heard {G : List Int} {i : Int} {r : Rep} (h : Inv r) (hb : HeardR G i r) : HeardR G i (timeoutM r) := by
 unfold timeoutM
 split
 ·exact hb
 ·rename_i hv
  exact (prog_stps (next_inv h hv)).heard ⟨hb.t, hb.l⟩
theorem propose_heard {G : List Int} {i : Int} {r : Rep} (hb : HeardR G i r) (e : Ent) : HeardR G i (proposeM r e) := by
 unfold proposeM
 split
 ·exact ⟨hb.t, hb.l⟩
 ·exact hb
/-! ### a network -/
def sS (l : List Rep) : Nat := (l.map fun r => (rS r).length).sum
def sW (l : List Rep) : Nat := (l.map wd).sum
def sL (l : List Rep) : Nat := (l.map fun r => (rL r).length).sum
structure NC (k : Nat) (w : Nw) : Prop where
 way : w.W.length ≤ k + w.L.length * sS w.L
 words : sW w.L ≤ 3 * w.L.length + 8 * k + 3 * sL w.L
 ex : ∃ G : List Int, G.length ≤ k ∧ ∀ i (hi : i < w.L.length), HeardR G (i : Int) w.L[i]
variable {n : Int} {c k : Nat} {w : Nw}
theorem NC.way_le (h : NC k w) {v : Nw} (hl : v.L = w.L) (hw : v.W.length ≤ w.W.length + 1) : NC (k + 1) v := by
 have h1 := h.way; have h2 := h.words
 obtain ⟨G, g1, g2⟩ := h.ex
 refine ⟨by rw [hl]; omega, by rw [hl]; omega, G, by omega, fun i hi => ?_⟩
 have e : v.L[i]? = w.L[i]? := by rw [hl]
 have hi2 : i < w.L.length := by rw [← hl]; exact hi
 rw [List.getElem?_eq_getElem hi, List.getElem?_eq_getElem hi2] at e
 rw [Option.some.inj e]
 exact g2 i hi2
theorem NC.set (h : NC k w) {i : Int} (h0 : 0 ≤ i) (h1 : i < (w.L.length : Int)) {q : Rep} {v : Nw} {G : List Int} (hl : v.L = w.L.set i.toNat q) (hs : (rS (repN w i)).length ≤ (rS q).length)
  (hw : v.W.length ≤ w.W.length + w.L.length * ((rS q).length - (rS (repN w i)).length)) (hd : wd q + 3 * (rL (repN w i)).length ≤ wd (repN w i) + 8 + 3 * (rL q).length)
  (g1 : G.length ≤ k + 1) (g2 : ∀ j (hj : j < w.L.length), HeardR G (j : Int) w.L[j]) (g3 : HeardR G i q) : NC (k + 1) v := by
 have ht : i.toNat < w.L.length := by omega
 have hat : repN w i = w.L[i.toNat] := by unfold repN; rw [getD_lt ht]
 have a1 := sum_set (f := fun r => (rS r).length) w.L i.toNat ht q
 have a2 := sum_set (f := wd) w.L i.toNat ht q
 have a3 := sum_set (f := fun r => (rL r).length) w.L i.toNat ht q
 rw [hat] at hs hw hd
 have h2 := h.way; have h3 := h.words
 unfold sS at h2
 unfold sW sL at h3
 refine ⟨?_, ?_, G, g1, fun j hj => ?_⟩
 ·rw [hl, List.length_set]
  unfold sS
  have hmul : w.L.length * (w.L.map fun r => (rS r).length).sum + w.L.length * ((rS q).length - (rS w.L[i.toNat]).length) ≤ w.L.length * ((w.L.set i.toNat q).map fun r => (rS r).length).sum := by
   rw [← Nat.mul_add]
   exact Nat.mul_le_mul_left _ (by omega)
  omega
 ·rw [hl, List.length_set]
  unfold sW sL
  omega
 ·have e : v.L[j]? = (w.L.set i.toNat q)[j]? := by rw [hl]
  have hj2 : j < w.L.length := by
   have h9 : j < (w.L.set i.toNat q).length := by rw [← hl]; exact hj
   rwa [List.length_set] at h9
  rw [List.getElem?_eq_getElem hj] at e
  by_cases e2 : i.toNat = j
  ·subst e2
   rw [List.getElem?_set_self ht] at e
   rw [Option.some.inj e, show ((i.toNat : Nat) : Int) = i by omega]
   exact g3
  ·rw [List.getElem?_set_ne e2, List.getElem?_eq_getElem hj2] at e
   rw [Option.some.inj e]
   exact g2 j hj2
theorem act_len (w : Nw) (i : Int) (q : Rep) : (actN w i q).W.length ≤ w.W.length + w.L.length * ((rS q).length - (rS (repN w i)).length) := by
 have := send_len ((rS q).drop (rS (repN w i)).length) (setN w i q)
 rw [List.length_drop, show (setN w i q).L.length = w.L.length from List.length_set] at this
 exact this
theorem heard_at {G : List Int} (hn : NInv n c w) (g2 : ∀ j (hj : j < w.L.length), HeardR G (j : Int) w.L[j]) {i : Int} (h0 : 0 ≤ i) (h1 : i < n) : HeardR G i (repN w i) := by
 have hl := hn.len
 have ht : i.toNat < w.L.length := by omega
 have := g2 i.toNat ht
 unfold repN
 rw [getD_lt ht]
 rwa [show ((i.toNat : Nat) : Int) = i by omega] at this
theorem NC.ev (h : NC k w) (hn : NInv n c w) (hc : c < 1000000) {e : Evt} (he : bytesE (mE e.2.2.2)) : NC (k + 1) (evN w e) := by
 obtain ⟨G, g1, g2⟩ := h.ex
 have hl := hn.len
 unfold evN
 repeat' split
 ·unfold deliverN
  split
  ·rename_i ha
   obtain ⟨h1, h2, h3, h4⟩ := hn.remove ha
   have hrl : (removeN w e.2.1).W.length ≤ w.W.length := by simp only [removeN, List.length_append, List.length_take, List.length_drop]; omega
   split
   ·have hr := hn.at h3 h4
    have hal := act_len (removeN w e.2.1) (w.T.getD e.2.1.toNat 0) (handleM (repN w (w.T.getD e.2.1.toNat 0)) (w.W.getD e.2.1.toNat zM))
    have hax := (act_X (removeN w e.2.1) (w.T.getD e.2.1.toNat 0) (handleM (repN w (w.T.getD e.2.1.toNat 0)) (w.W.getD e.2.1.toNat zM))).2
    refine h.set (G := (w.T.getD e.2.1.toNat 0 * 2000 + mQ (w.W.getD e.2.1.toNat zM)) :: G) h3 (by omega) hax (handle_keeps hr.1 h2 (by omega)).s.length_le ?_ (handle_wd hr.1 h2 (by omega)) (by simp; omega) (fun j hj => (g2 j hj).mono (fun x hx => List.mem_cons_of_mem _ hx)) (handle_heard hr.1 (heard_at hn g2 h3 h4) h2 (by omega))
    exact Nat.le_trans hal (Nat.add_le_add_right hrl _)
   ·exact h.way_le rfl (by omega)
  ·exact h.way_le rfl (by omega)
 ·refine h.way_le (lose_L _ _) ?_
  unfold loseN
  split
  ·simp only [removeN, List.length_append, List.length_take, List.length_drop]; omega
  ·omega
 ·refine h.way_le (double_L _ _) ?_
  unfold doubleN
  split
  ·unfold postN; split
   ·simp
   ·omega
  ·omega
 ·unfold crashN
  split
  ·rename_i hi
   obtain ⟨i0, i1, _⟩ := hn.hon hi
   have hh := heard_at hn g2 i0 i1
   have e1 : wd (recM (repN w e.2.2.1)) = wd (repN w e.2.2.1) := rfl
   exact h.set (q := recM (repN w e.2.2.1)) (G := G) i0 (by omega) rfl (Nat.le_refl _) (Nat.le_add_right _ _) (by rw [e1]; show _ + 3 * (rL (repN w e.2.2.1)).length ≤ _ + 8 + 3 * (rL (repN w e.2.2.1)).length; omega) (by omega) g2 ⟨(fun m hm => by cases hm), hh.l⟩
  ·exact h.way_le rfl (by omega)
 ·unfold timeoutN
  split
  ·rename_i hi
   obtain ⟨i0, i1, _⟩ := hn.hon hi
   have hr := (hn.at i0 i1).1
   exact h.set (G := G) i0 (by omega) (act_X _ _ _).2 (timeout_grows hr).s.length_le (act_len _ _ _) (timeout_wd hr) (by omega) g2 (timeout_heard hr (heard_at hn g2 i0 i1))
  ·exact h.way_le rfl (by omega)
 ·unfold askN
  split
  ·rename_i hi
   obtain ⟨i0, i1, _⟩ := hn.hon hi
   exact h.set (G := G) i0 (by omega) (act_X _ _ _).2 (propose_grows _ _).s.length_le (act_len _ _ _) (propose_wd _) (by omega) g2 (propose_heard (heard_at hn g2 i0 i1) _)
  ·exact h.way_le rfl (by omega)
 ·refine h.way_le (forge_L _ _ _) ?_
  unfold forgeN
  split
  ·unfold postN; split
   ·simp
   ·omega
  ·omega
 ·exact h.way_le rfl (by omega)
theorem NC.run {n : Int} : ∀ (l : List Evt) {c k : Nat} {w : Nw}, NC k w → NInv n c w → c + l.length ≤ 1000000 → (∀ e ∈ l, bytesE (mE e.2.2.2)) → NC (k + l.length) (runN w l)
 | [], _, _, _, h, _, _, _ => h
 | e :: l, c, k, w, h, hn, hc, hb => by
  simp only [List.length_cons] at hc ⊢
  have h1 := hb e List.mem_cons_self
  have := NC.run l (h.ev hn (by omega) h1) (hn.ev (by omega) h1) (by omega) (fun x hx => hb x (List.mem_cons_of_mem _ hx))
  rw [show k + (l.length + 1) = k + 1 + l.length by omega]
  exact this
theorem sS_le (l : List Rep) : sS l ≤ sW l := by
 unfold sS sW
 induction l with
 | nil => exact Nat.le_refl _
 | cons r l ih =>
  have := (wd_le r).1
  simp only [List.map_cons, List.sum_cons]
  omega
/-- Few messages are under way. -/
theorem NC.few (h : NC k w) (hn : NInv n c w) (h7 : n ≤ 7) : w.W.length ≤ k + 7 * (21 + 11 * k) := by
 obtain ⟨G, g1, g2⟩ := h.ex
 have hl := hn.len
 have h1 := h.way; have h2 := h.words
 have h3 := logs_le hn (G := G) (fun i hi => ⟨(g2 i hi).t, (g2 i hi).l⟩)
 have h4 := sS_le w.L
 have h5 : w.L.length ≤ 7 := by omega
 have h6 : w.L.length * sS w.L ≤ 7 * (21 + 11 * k) := Nat.mul_le_mul h5 (by unfold sL at h2; omega)
 omega
end Go.Proofs.YtfecniimkgkmfaaGreat
