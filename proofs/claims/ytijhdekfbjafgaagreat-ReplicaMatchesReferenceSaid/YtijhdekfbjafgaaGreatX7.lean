/- Words of the walk, the functions' walks and plain laws, joined; no conditions beyond those that the theorems name. -/
import Derived.Test.YtijhdekfbjafgaaGreatX6
namespace Go.Proofs.YtijhdekfbjafgaaGreat
open Go Go.RowKit Go.Proofs.YtijhdekfbjafgaaGreat.RW
open Go.Proofs.YtijhdekfbjafgaaGreat.AM hiding lk
set_option linter.unusedVariables false
set_option maxRecDepth 100000
theorem wf_u8 {x : Int} (h : (Lit.int .u8 x).wf = true) : 0 ≤ x ∧ x ≤ 255 := by
 simpa [Lit.wf, IntKind.min, IntKind.max, IntKind.signed, IntKind.bits] using h
theorem and64N (x : Int) (m : Nat) (hm : m < 9223372036854775808) : 0 ≤ bAnd .i64 x (m : Int) ∧ bAnd .i64 x (m : Int) ≤ m := by
 have e : bAnd .i64 x (m : Int) = IntKind.i64.wrap (((BitVec.ofInt 64 x) &&& (BitVec.ofInt 64 (m : Int))).toNat : Int) := rfl
 have hle : ((BitVec.ofInt 64 x) &&& (BitVec.ofInt 64 (m : Int))).toNat ≤ m := by
  rw [BitVec.ofInt_natCast, BitVec.toNat_and, BitVec.toNat_ofNat, Nat.mod_eq_of_lt (show m < 2 ^ 64 by omega)]
  exact Nat.and_le_right
 have hw := wr64 (n := ((((BitVec.ofInt 64 x) &&& (BitVec.ofInt 64 (m : Int))).toNat : Nat) : Int)) (by omega) (by omega)
 unfold W at hw
 rw [e, hw]
 omega
theorem and64 (x c : Int) (h0 : 0 ≤ c) (h1 : c < 9223372036854775808) : 0 ≤ bAnd .i64 x c ∧ bAnd .i64 x c ≤ c := by
 have := and64N x c.toNat (by omega)
 rwa [show ((c.toNat : Nat) : Int) = c from by omega] at this
def keyB (b : Int) : ByteArray := [(⟨#[97]⟩ : ByteArray), (⟨#[98]⟩ : ByteArray), (⟨#[99]⟩ : ByteArray)].getD (b.tmod 3).toNat (⟨#[]⟩ : ByteArray)
def entM (b : Int) : Ent := (1, keyB b, [])
theorem entM_bytes (b : Int) : bytesE (entM b) := fun y hy => by cases hy
theorem mod3_in {b : Int} (h : 0 ≤ b) : inb (b.tmod 3) 3 = true := by
 rw [Int.tmod_eq_emod_of_nonneg h]
 exact inbT (by omega) (by show b % 3 < 3; omega)
theorem entry_eq {b : Int} (h : 0 ≤ b) : armillaryref30_entry b = some (entM b) := by
 unfold armillaryref30_entry
 simp only [List.length_cons, List.length_nil]
 rw [mod3_in h]
 rfl
def madeM (m : Msg) (b n : Int) : Msg :=
 if 1 + bAnd .i64 m.1 3 = 1 then (1, leadM n (bAnd .i64 m.2.2.1 3), bAnd .i64 m.2.2.1 3, bAnd .i64 m.2.2.2.1 1, crc (encR (entM b)).2, entM b)
 else if 1 + bAnd .i64 m.1 3 = 4 then (4, (bAnd .i64 m.2.1 255).tmod n, bAnd .i64 m.2.2.1 3, 0, 0, zE)
 else (1 + bAnd .i64 m.1 3, (bAnd .i64 m.2.1 255).tmod n, bAnd .i64 m.2.2.1 3, bAnd .i64 m.2.2.2.1 1, crc (encR (entM b)).2, zE)
theorem made_ev (m : Msg) {b n : Int} (hb : 0 ≤ b) (h1 : 1 ≤ n) : Ev (fun k => armillaryref30_MadeMessage k m b n) (madeM m b n) := by
 have h3 := and64 m.1 3 (by decide) (by decide)
 have hcrc := refcrc_ev (b := (encR (entM b)).2) (by have := encR_len (entM b); omega) (encR_byte (entM_bytes b))
 unfold armillaryref30_MadeMessage madeM
 rw [wr64 (n := 1 + bAnd .i64 m.1 3) (by omega) (by omega)]
 refine Ev.ck (by rw [decide_eq_false (by omega)]; rfl) (Ev.bind (Ev.of fun _ => entry_eq hb) (Ev.bind (refenc_ev _) ?_))
 by_cases c1 : 1 + bAnd .i64 m.1 3 = 1
 ·rw [if_pos c1]
  exact Ev.T (by simpa using c1) (Ev.bind (Ev.of fun _ => refLeader_eq _ _) (Ev.bind hcrc (Ev.cast (Ev.ret _) (by rw [c1]))))
 ·rw [if_neg c1]
  refine Ev.F (by simpa using c1) ?_
  by_cases c4 : 1 + bAnd .i64 m.1 3 = 4
  ·rw [if_pos c4]
   exact Ev.T (by simpa using c4) (Ev.cast (Ev.ret _) (by rw [c4]))
  ·rw [if_neg c4]
   exact Ev.F (by simpa using c4) (Ev.bind hcrc (Ev.ret _))
theorem made_bytes (m : Msg) (b n : Int) : bytesE (mE (madeM m b n)) := by
 unfold madeM
 split
 ·exact entM_bytes b
 ·split
  ·exact bytes_zE
  ·exact bytes_zE
theorem made_view (m : Msg) (b n : Int) : 0 ≤ mV (madeM m b n) ∧ mV (madeM m b n) ≤ 3 := by
 have hv := and64 m.2.2.1 3 (by decide) (by decide)
 unfold madeM
 split
 ·exact hv
 ·split
  ·exact hv
  ·exact hv

/-! ### one operation -/
abbrev OpM : Type := Int × Msg × Int
def opWf (x : OpM) : Prop := (0 ≤ x.1 ∧ x.1 ≤ 255) ∧ 0 ≤ x.2.2 ∧ x.2.2 ≤ 255
def applyM (r : Rep) (x : OpM) : Rep :=
 if x.1.tmod 12 = 0 then proposeM r (entM x.2.2)
 else if x.1.tmod 12 = 1 then timeoutM r
 else if x.1.tmod 12 = 2 then recM r
 else handleM r (madeM x.2.1 x.2.2 (rN r))
theorem imax_one {n : Int} (h : 1 ≤ n) : iMax n 1 = n := by
 unfold iMax
 split <;> omega
theorem apply_ev {r : Rep} (h : Inv r) (hl : (rT r).length < 1000000) {x : OpM} (hx : opWf x) : Ev (fun k => armillarylaw30_apply k r x) (applyM r x, (rS (applyM r x)).drop (rS r).length) := by
 have hn := h.n1
 unfold armillarylaw30_apply applyM
 by_cases c0 : x.1.tmod 12 = 0
 ·rw [if_pos c0]
  refine Ev.T (by simpa using c0) (Ev.ck (mod3_in hx.2.1) ?_)
  exact Ev.bind (propose_ev h (entM x.2.2)) (Ev.ret _)
 ·rw [if_neg c0]
  refine Ev.F (by simpa using c0) ?_
  by_cases c1 : x.1.tmod 12 = 1
  ·rw [if_pos c1]
   exact Ev.T (by simpa using c1) (Ev.bind (timeout_ev h) (Ev.ret _))
  ·rw [if_neg c1]
   refine Ev.F (by simpa using c1) ?_
   by_cases c2 : x.1.tmod 12 = 2
   ·rw [if_pos c2]
    refine Ev.T (by simpa using c2) (Ev.bind (Ev.of fun _ => rec_eq r) (Ev.cast (Ev.ret _) ?_))
    rw [show rS (recM r) = rS r from rfl, List.drop_length]
   ·rw [if_neg c2]
    refine Ev.F (by simpa using c2) ?_
    show Ev (fun n => (armillaryref30_MadeMessage n x.2.1 x.2.2 (iMax (rN r) 1)).bind _) _
    rw [imax_one hn]
    exact Ev.bind (made_ev x.2.1 hx.2.1 hn) (Ev.bind (handle_ev h (made_bytes _ _ _) hl) (Ev.ret _))
theorem handle_took {r : Rep} (h : Inv r) {m : Msg} (hb : bytesE (mE m)) (hl : (rT r).length < 1000000) : rT (handleM r m) = rT r ∨ rT (handleM r m) = rT r ++ [m] := by
 unfold handleM
 split
 ·rename_i hc
  exact .inr (prog_stps (take_inv h hc.1 hc.2 hb hl)).grows.t
 ·exact .inl rfl
/-- What an operation leaves as it was, and what it lets grow. -/
structure Keeps (r q : Rep) : Prop where
 i : rI q = rI r
 n : rN q = rN r
 v : rV r ≤ rV q
 s : rS r <+: rS q
 l : rL r <+: rL q
theorem Grows.keeps {r q : Rep} (h : Grows r q) : Keeps r q := ⟨h.i, h.n, h.v, h.s, h.l⟩
theorem Keeps.refl (r : Rep) : Keeps r r := (Grows.refl r).keeps
theorem Keeps.trans {r q s : Rep} (h : Keeps r q) (k : Keeps q s) : Keeps r s := ⟨k.i.trans h.i, k.n.trans h.n, Int.le_trans h.v k.v, h.s.trans k.s, h.l.trans k.l⟩
theorem handle_keeps {r : Rep} (h : Inv r) {m : Msg} (hb : bytesE (mE m)) (hl : (rT r).length < 1000000) : Keeps r (handleM r m) := by
 unfold handleM
 split
 ·rename_i hc
  have := (prog_stps (take_inv h hc.1 hc.2 hb hl)).grows
  exact ⟨this.i, this.n, this.v, this.s, this.l⟩
 ·exact .refl r
theorem apply_keeps {r : Rep} (h : Inv r) (hl : (rT r).length < 1000000) {x : OpM} (hx : opWf x) : Keeps r (applyM r x) := by
 unfold applyM
 split
 ·exact (propose_grows r _).keeps
 ·split
  ·exact (timeout_grows h).keeps
  ·split
   ·exact ⟨rfl, rfl, Int.le_refl _, List.prefix_refl _, List.prefix_refl _⟩
   ·exact handle_keeps h (made_bytes _ _ _) hl
theorem apply_inv {r : Rep} (h : Inv r) (hl : (rT r).length < 1000000) {x : OpM} (hx : opWf x) : Inv (applyM r x) := by
 unfold applyM
 split
 ·exact propose_inv h (entM_bytes _)
 ·split
  ·exact timeout_inv h
  ·split
   ·exact rec_inv h
   ·exact handle_inv h (made_bytes _ _ _) hl
theorem apply_took {r : Rep} (h : Inv r) (hl : (rT r).length < 1000000) {x : OpM} (hx : opWf x) : ∀ m ∈ rT (applyM r x), m ∈ rT r ∨ m = madeM x.2.1 x.2.2 (rN r) := by
 intro m hm
 unfold applyM at hm
 split at hm
 ·rw [(propose_grows r _).t] at hm; exact .inl hm
 ·split at hm
  ·rw [(timeout_grows h).t] at hm; exact .inl hm
  ·split at hm
   ·cases hm
   ·rcases handle_took h (made_bytes x.2.1 x.2.2 (rN r)) hl with e | e <;> rw [e] at hm
    ·exact .inl hm
    ·rcases List.mem_append.1 hm with hm | hm
     ·exact .inl hm
     ·exact .inr (List.mem_singleton.1 hm)
theorem apply_tlen {r : Rep} (h : Inv r) (hl : (rT r).length < 1000000) {x : OpM} (hx : opWf x) : (rT (applyM r x)).length ≤ (rT r).length + 1 := by
 unfold applyM
 split
 ·rw [(propose_grows r _).t]; omega
 ·split
  ·rw [(timeout_grows h).t]; omega
  ·split
   ·exact Nat.zero_le _
   ·rcases handle_took h (made_bytes x.2.1 x.2.2 (rN r)) hl with e | e <;> rw [e]
    ·omega
    ·rw [List.length_append, List.length_singleton]; omega

/-! ### forty of them -/
def nM (n : Int) : Int := 1 + n % 7
def runM (i n : Int) (l : List OpM) : Rep := (l.take 40).foldl applyM (newM (i % nM n) (nM n))
/-- After some operations. -/
structure Ran (r0 : Rep) (c : Nat) (r : Rep) : Prop where
 inv : Inv r
 keeps : Keeps r0 r
 tl : (rT r).length ≤ c
 view : (∀ m ∈ rT r0, mV m ≤ 3) → ∀ m ∈ rT r, mV m ≤ 3
theorem Ran.step {r0 : Rep} {c : Nat} {r : Rep} (h : Ran r0 c r) (hc : c < 1000000) {x : OpM} (hx : opWf x) : Ran r0 (c + 1) (applyM r x) := by
 have hl : (rT r).length < 1000000 := by have := h.tl; omega
 refine ⟨apply_inv h.inv hl hx, h.keeps.trans (apply_keeps h.inv hl hx), Nat.le_trans (apply_tlen h.inv hl hx) (by have := h.tl; omega), fun h0 m hm => ?_⟩
 rcases apply_took h.inv hl hx m hm with hm | rfl
 ·exact h.view h0 m hm
 ·exact (made_view _ _ _).2
theorem Ran.fold {r0 : Rep} : ∀ (l : List OpM) {c : Nat} {r : Rep}, Ran r0 c r → c + l.length ≤ 1000000 → (∀ x ∈ l, opWf x) → Ran r0 (c + l.length) (l.foldl applyM r)
 | [], c, r, h, _, _ => h
 | x :: l, c, r, h, hc, hx => by
  rw [List.length_cons] at hc
  have := Ran.fold l (h.step (by omega) (hx x List.mem_cons_self)) (by omega) (fun y hy => hx y (List.mem_cons_of_mem _ hy))
  rw [List.length_cons, show c + (l.length + 1) = c + 1 + l.length from by omega]
  exact this
theorem Ran.start {r : Rep} (h : Inv r) {c : Nat} (hc : (rT r).length ≤ c) : Ran r c r := ⟨h, .refl r, hc, fun h => h⟩
theorem nM_in {n : Int} : 1 ≤ nM n ∧ nM n ≤ 7 := by unfold nM; omega
theorem new_run {i n : Int} (hi : 0 ≤ i) : Inv (newM (i % nM n) (nM n)) := by
 have := nM_in (n := n)
 exact new_inv this.1 (by omega) (Int.emod_nonneg _ (by omega)) (Int.emod_lt_of_pos _ (by omega))
theorem run_ran {i n : Int} (hi : 0 ≤ i) {l : List OpM} (hl : ∀ x ∈ l, opWf x) : Ran (newM (i % nM n) (nM n)) 40 (runM i n l) := by
 have h := Ran.fold (l.take 40) (Ran.start (new_run (n := n) hi) (c := 0) (Nat.le_refl _)) (by rw [List.length_take]; omega) (fun x hx => hl x (List.mem_of_mem_take hx))
 exact ⟨h.inv, h.keeps, Nat.le_trans h.tl (by rw [List.length_take]; omega), h.view⟩
theorem run_ev {i n : Int} (hi : 0 ≤ i ∧ i ≤ 255) (hn : 0 ≤ n ∧ n ≤ 255) {l : List OpM} (hl : ∀ x ∈ l, opWf x) (hlen : l.length ≤ 9223372036854775807) : Ev (fun k => armillarylaw30_run k i n l) (runM i n l) := by
 have e1 : W .i64 (1 + (W .i64 (n.tmod 7))) = nM n := by
  rw [Int.tmod_eq_emod_of_nonneg hn.1, wr64 (n := n % 7) (by omega) (by omega), wr64 (by omega) (by omega)]
  rfl
 have hN := nM_in (n := n)
 have e2 : (W .i64 i).tmod (nM n) = i % nM n := by
  rw [wr64 (by omega) (by omega), Int.tmod_eq_emod_of_nonneg hi.1]
 unfold armillarylaw30_run
 simp only [e1, e2]
 refine Ev.ck (by rw [decide_eq_false (by omega)]; rfl) (Ev.bind (Ev.of fun _ => new_eq _ _) (Ev.bind (a := runM i n l) ?_ (Ev.ret _)))
 refine loop_run (L := fun k j (s : Int × Rep) => armillarylaw30_run.l1 k j s.1 l s.2) (S := fun k s => armillarylaw30_run.s1 k s.1 l s.2) (fun _ _ _ => rfl)
  (fun j => ((j : Int), (l.take j).foldl applyM (newM (i % nM n) (nM n)))) (min 40 l.length) _ (fun j hj => ?_) (Ev.of fun k => ?_)
 ·have hjl : j < l.length := by omega
  have hR := Ran.fold (l.take j) (Ran.start (new_run (n := n) hi.1) (c := 0) (Nat.le_refl _)) (by rw [List.length_take]; omega) (fun x hx => hl x (List.mem_of_mem_take hx))
  show Ev (fun k => armillarylaw30_run.s1 k (j : Int) l ((l.take j).foldl applyM (newM (i % nM n) (nM n)))) (.inl (((j + 1 : Nat) : Int), (l.take (j + 1)).foldl applyM (newM (i % nM n) (nM n))))
  rw [List.take_add_one, List.getElem?_eq_getElem hjl, List.foldl_append]
  unfold armillarylaw30_run.s1 armillarylaw30_run.j0
  rw [wr64s j (by omega)]
  refine Ev.bind (a := (Sum.inl () : Unit ⊕ Unit)) (Ev.T (decide_eq_true (by omega)) (Ev.T (decide_eq_true (by omega)) (Ev.ret _))) (Ev.ck (inbN hjl) ?_)
  rw [getD_int hjl]
  refine Ev.bind (apply_ev hR.inv (by have := hR.tl; rw [List.length_take] at this; omega) (hl _ (List.getElem_mem hjl))) (Ev.ret _)
 ·show armillarylaw30_run.s1 k ((min 40 l.length : Nat) : Int) l ((l.take (min 40 l.length)).foldl applyM (newM (i % nM n) (nM n))) = _
  unfold armillarylaw30_run.s1 armillarylaw30_run.j0 runM
  by_cases h : l.length ≤ 40
  ·rw [show decide (((min 40 l.length : Nat) : Int) < (l.length : Int)) = false from decide_eq_false (by omega), show min 40 l.length = l.length from by omega, List.take_length, List.take_of_length_le h]
   rfl
  ·rw [show decide (((min 40 l.length : Nat) : Int) < (l.length : Int)) = true from decide_eq_true (by omega), show decide (((min 40 l.length : Nat) : Int) < 40) = false from decide_eq_false (by omega), show min 40 l.length = 40 from by omega]
   rfl
theorem sane_ev : Ev (fun k => armillarylaw30_sanity k) true := ⟨12, fun n hn => by
 have := sane (n - 12)
 rwa [show n - 12 + 12 = n from by omega] at this⟩
/-- What the arguments' types say. -/
theorem ops_wf {l : List S49} (h : (TC.row c49).wf l) : l.length ≤ 9223372036854775807 ∧ ∀ x ∈ l, opWf x :=
 ⟨h.1, fun x hx => ⟨wf_u8 (h.2 x hx).1, wf_u8 (h.2 x hx).2.2⟩⟩
end Go.Proofs.YtijhdekfbjafgaaGreat
namespace Go.Proofs.YtijhdekfbjafgaaGreat
open Go Go.RowKit Go.Proofs.YtijhdekfbjafgaaGreat.RW
open Go.Proofs.YtijhdekfbjafgaaGreat.AM hiding lk
set_option linter.unusedVariables false
set_option maxRecDepth 100000
/-- A search that ends with what it found. -/
theorem search_run {α γ ρ : Type} {L : Nat → Nat → Int × γ → Option ρ} {S : Nat → Int × γ → Option ((Int × γ) ⊕ ρ)}
  (hL : ∀ n k s, L n (k + 1) s = (S n s).bind fun z => sm z (fun z => L n k z) some) (l : List α) (c : γ) (p : α → Bool) (hit : α → ρ) (miss : ρ) (hlen : l.length < 4611686018427387904)
  (hS : ∀ i (h : i < l.length), Ev (fun n => S n ((i : Int), c)) (bif p l[i] then .inr (hit l[i]) else .inl (((i + 1 : Nat) : Int), c)))
  (hE : Ev (fun n => S n ((l.length : Int), c)) (.inr miss)) :
  Ev (fun n => L n n ((0 : Int), c)) (match l.find? p with | some x => hit x | none => miss) := by
 cases hf : l.findIdx? p with
 | none =>
  have hf' := List.findIdx?_eq_none_iff.1 hf
  rw [idx_none hf]
  refine loop_run hL (fun i => ((i : Int), c)) l.length miss (fun i hi => ?_) hE
  have := hS i hi
  rw [hf' l[i] (List.getElem_mem hi)] at this
  exact this
 | some j =>
  obtain ⟨hj, hp, hb⟩ := List.findIdx?_eq_some_iff_getElem.1 hf
  obtain ⟨_, hx⟩ := idx_some hf
  rw [hx]
  refine loop_run hL (fun i => ((i : Int), c)) j (hit l[j]) (fun i hi => ?_) ?_
  ·have := hS i (by omega)
   rw [show p l[i] = false from by simpa using hb i hi] at this
   exact this
  ·have := hS j hj
   rw [hp] at this
   exact this
theorem any_find {α : Type} (p : α → Bool) (l : List α) : l.any p = (l.find? p).isSome := by
 rw [← idx_any]
 cases h : l.findIdx? p with
 | none => rw [idx_none h]; rfl
 | some j => obtain ⟨_, hx⟩ := idx_some h; rw [hx]; rfl
/-! ### sending, searching -/
theorem rsend_eq {r : Rep} (h : Sz r) (m : Msg) : armillaryref30_send r m = some (rI r, rN r, rV r, rT r, rL r, rS r ++ [(m.1, rI r, m.2.2)]) := by
 have hs := h.s
 unfold armillaryref30_send
 rw [show AM.room (0 + r.2.2.2.2.1.length) 88 = true from roomT (n := 0 + (rS r).length) (by omega) (by omega)]
 simp only [List.nil_append]
 rw [show AM.room (r.2.2.2.2.1.length + 1) 88 = true from room88 hs]
 rfl
def saidR (r : Rep) (k v q : Int) : Bool := (rS r).any fun x => (x.1 == k) && ((x.2.2.1 == v) && (x.2.2.2.1 == q))
theorem rsaid_ev {r : Rep} (h : Sz r) (k v q : Int) : Ev (fun n => armillaryref30_said n r k v q) (saidR r k v q) := by
 have hs := h.s
 have hf := search_run (L := fun n j (s : Int × Rep) => armillaryref30_said.l0 n j s.1 k v q s.2) (S := fun n s => armillaryref30_said.s0 n s.1 k v q s.2) (fun _ _ _ => rfl)
  (rS r) r (fun x => (x.1 == k) && ((x.2.2.1 == v) && (x.2.2.2.1 == q))) (fun _ => .inl (true, r)) (.inr r) (by omega) (fun i hi => Ev.of fun n => ?_) (Ev.of fun n => ?_)
 ·unfold armillaryref30_said
  refine Ev.bind hf ?_
  unfold saidR
  rw [any_find]
  cases (rS r).find? (fun x => (x.1 == k) && ((x.2.2.1 == v) && (x.2.2.2.1 == q))) with
  | none => exact Ev.ret _
  | some j => exact Ev.ret _
 ·show armillaryref30_said.s0 n (i : Int) k v q r = _
  unfold armillaryref30_said.s0
  rw [show decide ((i : Int) < (r.2.2.2.2.1.length : Int)) = true from decide_eq_true (show (i : Int) < ((rS r).length : Int) by omega), show inb (i : Int) r.2.2.2.2.1.length = true from inbN hi, show r.2.2.2.2.1.getD (i : Int).toNat zM = (rS r)[i] from getD_int hi, wr64s i (by omega)]
  simp only [cond_true, AM.ck]
  cases ((rS r)[i].1 == k) with
  | false => rfl
  | true =>
   simp only [cond_true]
   cases ((rS r)[i].2.2.1 == v) with
   | false => rfl
   | true =>
    simp only [cond_true]
    cases ((rS r)[i].2.2.2.1 == q) <;> rfl
 ·show armillaryref30_said.s0 n ((rS r).length : Int) k v q r = _
  unfold armillaryref30_said.s0
  rw [show decide (((rS r).length : Int) < (r.2.2.2.2.1.length : Int)) = false from decide_eq_false (show ¬ (((rS r).length : Int) < ((rS r).length : Int)) by omega)]
  rfl
theorem saidR_sent (r : Rep) (k : Int) : saidR r k (rV r) (posM r) = sentM r k := rfl
theorem rprop_ev {r : Rep} (h : Sz r) (v s : Int) (any : Bool) (p : Msg → Bool) (hp : ∀ n x, armillaryref30_proposal.j0 n (posM r) v s any x = some (p x)) : Ev (fun n => armillaryref30_proposal n r (posM r) v s any) (match (rT r).find? p with | some x => (x, true) | none => (zM, false)) := by
 have ht := h.t
 have hf := search_run (L := fun n j (c : Int × (Rep × Msg)) => armillaryref30_proposal.l2 n j c.1 (posM r) v s any c.2.1 c.2.2) (S := fun n c => armillaryref30_proposal.s2 n c.1 (posM r) v s any c.2.1 c.2.2) (fun _ _ _ => rfl)
  (rT r) (r, zM) p (fun x => .inl (true, r, x)) (.inr (r, zM)) (by omega) (fun i hi => Ev.of fun n => ?_) (Ev.of fun n => ?_)
 ·unfold armillaryref30_proposal
  refine Ev.bind hf ?_
  cases (rT r).find? p with
  | none => exact Ev.ret _
  | some x => exact Ev.ret _
 ·show armillaryref30_proposal.s2 n (i : Int) (posM r) v s any r zM = _
  unfold armillaryref30_proposal.s2 armillaryref30_proposal.j1
  rw [show decide ((i : Int) < (r.2.2.2.1.length : Int)) = true from decide_eq_true (show (i : Int) < ((rT r).length : Int) by omega), show inb (i : Int) r.2.2.2.1.length = true from inbN hi, show r.2.2.2.1.getD (i : Int).toNat zM = (rT r)[i] from getD_int hi, wr64s i (by omega)]
  simp only [cond_true, AM.ck, hp, Option.bind_some]
  cases p (rT r)[i] <;> rfl
 ·show armillaryref30_proposal.s2 n ((rT r).length : Int) (posM r) v s any r zM = _
  unfold armillaryref30_proposal.s2
  rw [show decide (((rT r).length : Int) < (r.2.2.2.1.length : Int)) = false from decide_eq_false (show ¬ (((rT r).length : Int) < ((rT r).length : Int)) by omega)]
  rfl
theorem rpropS_ev {r : Rep} (h : Sz r) (s : Int) : Ev (fun n => armillaryref30_proposal n r (posM r) (-1) s false) (match propS r s with | some x => (x, true) | none => (zM, false)) := by
 refine rprop_ev h (-1) s false _ (fun n x => ?_)
 unfold armillaryref30_proposal.j0
 cases (x.1 == 1) with
 | false => rfl
 | true =>
  cases (x.2.2.2.1 == posM r) <;> rfl
theorem rpropV_ev {r : Rep} (h : Sz r) (hv : 0 ≤ rV r) : Ev (fun n => armillaryref30_proposal n r (posM r) (rV r) 0 true) (match propV r with | some x => (x, true) | none => (zM, false)) := by
 refine rprop_ev h (rV r) 0 true _ (fun n x => ?_)
 unfold armillaryref30_proposal.j0
 rw [show decide (rV r < 0) = false from decide_eq_false (by omega)]
 cases (x.1 == 1) with
 | false => rfl
 | true =>
  cases (x.2.2.2.1 == posM r) with
  | false => rfl
  | true => cases (x.2.2.1 == rV r) <;> rfl

/-! ### rule 1: the least view -/
def bstep (r : Rep) (st : Int × Ent) (m : Msg) : Int × Ent := if cview r m = true ∧ ¬ (st.1 ≥ 0 ∧ mV m ≥ st.1) then (match cand r (mV m) with | some p => (mV m, mE p) | none => st) else st
def bestM (r : Rep) : Int × Ent := (rT r).foldl (bstep r) (-1, zE)
theorem keeps_first {l : List Int} {x : Int} (h : x ∈ l) : x ∈ Lib.compact l := by
 unfold Lib.compact Lib.compactUpTo
 obtain ⟨j, hj⟩ : ∃ j, l.findIdx? (fun y => decide (y = x)) = some j := by
  cases hf : l.findIdx? (fun y => decide (y = x)) with
  | some j => exact ⟨j, rfl⟩
  | none => have := List.findIdx?_eq_none_iff.1 hf x h; simp at this
 obtain ⟨hl, hp, hb⟩ := List.findIdx?_eq_some_iff_getElem.1 hj
 have hp := of_decide_eq_true hp
 refine List.mem_map.2 ⟨j, List.mem_filter.2 ⟨List.mem_range.2 hl, ?_⟩, ?_⟩
 ·unfold Lib.keeps
  by_cases h0 : j = 0
  ·simp [h0]
  ·have hb' := hb (j - 1) (by omega)
   have hne : l[j - 1] ≠ x := by simpa using hb'
   have e1 : l.toArray[j]! = l[j] := by rw [List.getElem!_toArray, getElem!_pos l j hl]
   have e2 : l.toArray[j - 1]! = l[j - 1] := by rw [List.getElem!_toArray, getElem!_pos l (j - 1) (by omega)]
   simp only [e1, e2, hp]
   simp [h0]
   exact fun e => hne e.symm
 ·rw [List.getElem!_toArray, getElem!_pos l j hl, hp]
theorem compact_sub (l : List Int) : (Lib.compact l).Sublist l := by
 unfold Lib.compact Lib.compactUpTo
 have h1 : (((List.range l.length).filter (Lib.keeps l.toArray)).map (l.toArray[·]!)).Sublist ((List.range l.length).map (l.toArray[·]!)) := List.filter_sublist.map _
 have h2 : (List.range l.length).map (l.toArray[·]!) = l := by
  refine List.ext_getElem (by simp) (fun i h1 h2 => ?_)
  rw [List.getElem_map, List.getElem_range, List.getElem!_toArray, getElem!_pos l i h2]
 rwa [h2] at h1
theorem views_sorted (r : Rep) : (views r).Pairwise (· ≤ ·) := (sortI_sorted _).sublist (compact_sub _)
theorem mem_views {r : Rep} {v : Int} : v ∈ views r ↔ ∃ m ∈ rT r, cview r m = true ∧ mV m = v := by
 unfold views
 constructor
 ·intro h
  obtain ⟨m, hm, e⟩ := List.mem_map.1 ((sortI_perm _).mem_iff.1 (mem_compact h))
  obtain ⟨h1, h2⟩ := List.mem_filter.1 hm
  exact ⟨m, h1, h2, e⟩
 ·rintro ⟨m, h1, h2, rfl⟩
  exact keeps_first ((sortI_perm _).mem_iff.2 (List.mem_map.2 ⟨m, List.mem_filter.2 ⟨h1, h2⟩, rfl⟩))
/-- What the sweep for the least view has found. -/
theorem best_inv {r : Rep} (hv : ∀ m ∈ rT r, 0 ≤ mV m) : ∀ (l : List Msg) (st : Int × Ent) (seen : List Msg), (∀ m ∈ l, m ∈ rT r) → (∀ m ∈ seen, m ∈ rT r) →
  ((st.1 = -1 ∧ st.2 = zE ∧ ∀ m ∈ seen, cview r m = true → cand r (mV m) = none) ∨ (∃ m ∈ seen, ∃ p, cview r m = true ∧ mV m = st.1 ∧ cand r st.1 = some p ∧ st.2 = mE p ∧ ∀ x ∈ seen, cview r x = true → cand r (mV x) ≠ none → st.1 ≤ mV x)) →
  (((l.foldl (bstep r) st).1 = -1 ∧ (l.foldl (bstep r) st).2 = zE ∧ ∀ m ∈ seen ++ l, cview r m = true → cand r (mV m) = none) ∨ (∃ m ∈ seen ++ l, ∃ p, cview r m = true ∧ mV m = (l.foldl (bstep r) st).1 ∧ cand r (l.foldl (bstep r) st).1 = some p ∧ (l.foldl (bstep r) st).2 = mE p ∧ ∀ x ∈ seen ++ l, cview r x = true → cand r (mV x) ≠ none → (l.foldl (bstep r) st).1 ≤ mV x)) := by
 intro l
 induction l with
 | nil => intro st seen _ _ h; simpa using h
 | cons x l ih =>
  intro st seen hl hs h
  have hx := hl x List.mem_cons_self
  have hx0 := hv x hx
  have := ih (bstep r st x) (seen ++ [x]) (fun m hm => hl m (List.mem_cons_of_mem _ hm)) (fun m hm => by
   rcases List.mem_append.1 hm with hm | hm
   ·exact hs m hm
   ·rw [List.mem_singleton.1 hm]; exact hx) ?_
  ·rw [List.append_assoc] at this
   exact this
  ·have keep : (cview r x = true → cand r (mV x) ≠ none → ∃ v, st.1 = v ∧ 0 ≤ v ∧ v ≤ mV x) → ((st.1 = -1 ∧ st.2 = zE ∧ ∀ m ∈ seen ++ [x], cview r m = true → cand r (mV m) = none) ∨ (∃ m ∈ seen ++ [x], ∃ p, cview r m = true ∧ mV m = st.1 ∧ cand r st.1 = some p ∧ st.2 = mE p ∧ ∀ y ∈ seen ++ [x], cview r y = true → cand r (mV y) ≠ none → st.1 ≤ mV y)) := by
    intro hk
    rcases h with ⟨h1, h2, h3⟩ | ⟨m, hm, p, p1, p2, p3, p4, p5⟩
    ·left
     refine ⟨h1, h2, fun m hm hc => ?_⟩
     rcases List.mem_append.1 hm with hm | hm
     ·exact h3 m hm hc
     ·rw [List.mem_singleton.1 hm] at hc ⊢
      cases hcn : cand r (mV x) with
      | none => rfl
      | some q =>
       obtain ⟨v, e, v0, _⟩ := hk hc (by rw [hcn]; exact fun e => by cases e)
       omega
    ·right
     refine ⟨m, List.mem_append_left _ hm, p, p1, p2, p3, p4, fun y hy hc hn => ?_⟩
     rcases List.mem_append.1 hy with hy | hy
     ·exact p5 y hy hc hn
     ·rw [List.mem_singleton.1 hy] at hc hn ⊢
      obtain ⟨v, e, _, v1⟩ := hk hc hn
      omega
   unfold bstep
   by_cases c1 : cview r x = true ∧ ¬ (st.1 ≥ 0 ∧ mV x ≥ st.1)
   ·rw [if_pos c1]
    cases hcn : cand r (mV x) with
    | none => exact keep (fun _ hn => absurd hcn hn)
    | some p =>
     right
     refine ⟨x, List.mem_append_right _ List.mem_cons_self, p, c1.1, rfl, hcn, rfl, fun y hy hc hn => ?_⟩
     rcases List.mem_append.1 hy with hy | hy
     ·rcases h with ⟨h1, h2, h3⟩ | ⟨m, hm, p', p1, p2, p3, p4, p5⟩
      ·exact absurd (h3 y hy hc) hn
      ·have := p5 y hy hc hn
       have h0 := hv m (hs m hm)
       show mV x ≤ mV y
       have : ¬ (st.1 ≥ 0 ∧ mV x ≥ st.1) := c1.2
       omega
     ·rw [List.mem_singleton.1 hy]
      exact Int.le_refl _
   ·rw [if_neg c1]
    refine keep (fun hc _ => ⟨st.1, rfl, ?_⟩)
    have : st.1 ≥ 0 ∧ mV x ≥ st.1 := by
     refine Classical.byContradiction fun hh => c1 ⟨hc, hh⟩
    omega
theorem best_commit {r : Rep} (hv : ∀ m ∈ rT r, 0 ≤ mV m) : commitM r = if (bestM r).1 < 0 then none else some (rI r, rN r, rV r, rT r, rS r, rL r ++ [(bestM r).2]) := by
 have h := best_inv hv (rT r) (-1, zE) [] (fun m hm => hm) (fun m hm => by cases hm) (.inl ⟨rfl, rfl, fun m hm => by cases hm⟩)
 rw [List.nil_append] at h
 unfold commitM
 rcases h with ⟨h1, h2, h3⟩ | ⟨m, hm, p, p1, p2, p3, p4, p5⟩
 ·have hb : (bestM r).1 = -1 := h1
  rw [if_pos (by omega), show (views r).findSome? (cand r) = none from List.findSome?_eq_none_iff.2 fun v hv => by
   obtain ⟨m, hm, hc, rfl⟩ := mem_views.1 hv
   exact h3 m hm hc]
  rfl
 ·have p2 : mV m = (bestM r).1 := p2
  have p4 : (bestM r).2 = mE p := p4
  have p3 : cand r (bestM r).1 = some p := p3
  have h0 := hv m hm
  rw [if_neg (by omega), p4]
  have hfs : (views r).findSome? (cand r) = some p := by
   cases hf : (views r).findSome? (cand r) with
   | none =>
    have := List.findSome?_eq_none_iff.1 hf _ (mem_views.2 ⟨m, hm, p1, p2⟩)
    rw [p3] at this
    cases this
   | some q =>
    obtain ⟨l1, v, l2, e, hq, hb⟩ := List.findSome?_eq_some_iff.1 hf
    have hvv : v ∈ views r := by rw [e]; simp
    obtain ⟨x, hx, hc, hxv⟩ := mem_views.1 hvv
    have hle : (bestM r).1 ≤ v := by
     have := p5 x hx hc (by rw [hxv, hq]; exact fun e => by cases e)
     rw [hxv] at this
     exact this
    have hbm : (bestM r).1 ∈ views r := mem_views.2 ⟨m, hm, p1, p2⟩
    have hge : v ≤ (bestM r).1 := by
     rw [e] at hbm
     rcases List.mem_append.1 hbm with hbm | hbm
     ·have := hb _ hbm
      rw [p3] at this
      cases this
     ·have hs := views_sorted r
      rw [e] at hs
      have hs := (List.pairwise_append.1 hs).2.1
      rcases List.mem_cons.1 hbm with h | h
      ·omega
      ·exact (List.pairwise_cons.1 hs).1 _ h
    have : v = (bestM r).1 := by omega
    rw [this, p3] at hq
    exact hq.symm
  rw [hfs]
  rfl
theorem rcommit_ev {r : Rep} (h : Inv r) : Ev (fun n => armillaryref30_commit n r) (match commitM r with
  | some q => (rI q, rN q, rV q, rT q, rS q, rL q, true)
  | none => (rI r, rN r, rV r, rT r, rS r, rL r, false)) := by
 have ht := h.sz.t
 have hg := h.sz.g
 have hrun := loop_run (L := fun n k (s : Int × Int × Rep × Ent) => armillaryref30_commit.l2 n k s.1 s.2.1 (posM r) s.2.2.1 s.2.2.2) (S := fun n s => armillaryref30_commit.s2 n s.1 s.2.1 (posM r) s.2.2.1 s.2.2.2) (fun _ _ _ => rfl)
  (fun i => ((((rT r).take i).foldl (bstep r) (-1, zE)).1, (i : Int), r, (((rT r).take i).foldl (bstep r) (-1, zE)).2)) (rT r).length ((bestM r).1, r, (bestM r).2) (fun i hi => ?_) (Ev.of fun n => ?_)
 ·unfold armillaryref30_commit
  refine Ev.bind hrun ?_
  rw [best_commit (fun m hm => (h.tin hm).2.2.1)]
  by_cases hb : (bestM r).1 < 0
  ·rw [if_pos hb]
   exact Ev.T (decide_eq_true hb) (Ev.ret _)
  ·rw [if_neg hb]
   refine Ev.F (decide_eq_false hb) (Ev.ck (show AM.room (0 + (rL r).length) 48 = true from roomT (by omega) (by omega)) (Ev.ck ?_ (Ev.ret _)))
   show AM.room ((([] : List Ent) ++ rL r).length + 1) 48 = true
   rw [List.nil_append]
   exact room48 hg
 ·show Ev (fun n => armillaryref30_commit.s2 n (((rT r).take i).foldl (bstep r) (-1, zE)).1 (i : Int) (posM r) r (((rT r).take i).foldl (bstep r) (-1, zE)).2) (.inl ((((rT r).take (i + 1)).foldl (bstep r) (-1, zE)).1, ((i + 1 : Nat) : Int), r, (((rT r).take (i + 1)).foldl (bstep r) (-1, zE)).2))
  rw [List.take_add_one, List.getElem?_eq_getElem hi, List.foldl_append]
  simp only [Option.toList_some, List.foldl_cons, List.foldl_nil]
  generalize ((rT r).take i).foldl (bstep r) (-1, zE) = st
  unfold armillaryref30_commit.s2 armillaryref30_commit.j1 armillaryref30_commit.j0
  rw [wr64s i (by omega)]
  refine Ev.T (decide_eq_true (show (i : Int) < ((rT r).length : Int) by omega)) (Ev.bind (a := bstep r st (rT r)[i]) (Ev.ck (inbN hi) ?_) (Ev.ret _))
  show Ev (fun n => (bif ((rT r).getD (i : Int).toNat zM).1 != 3 then _ else _ : Option (Unit ⊕ Unit)).bind _) _
  rw [getD_int hi]
  unfold bstep cview
  by_cases e1 : (rT r)[i].1 = 3
  ·by_cases e2 : (rT r)[i].2.2.2.1 = posM r
   ·by_cases e3 : st.1 ≥ 0 ∧ (rT r)[i].2.2.1 ≥ st.1
    ·rw [if_neg (fun hh => hh.2 e3)]
     exact Ev.bind (a := (Sum.inr () : Unit ⊕ Unit)) (Ev.F (by simpa [bne] using e1) (Ev.F (by simpa [bne] using e2) (Ev.T (decide_eq_true e3.1) (Ev.T (decide_eq_true e3.2) (Ev.ret _))))) (Ev.ret _)
    ·rw [if_pos ⟨by simp [e1, e2], e3⟩]
     refine Ev.bind (a := (Sum.inl () : Unit ⊕ Unit)) (Ev.F (by simpa [bne] using e1) (Ev.F (by simpa [bne] using e2) (Ev.if (fun hd => Ev.F (decide_eq_false fun h => e3 ⟨of_decide_eq_true hd, h⟩) (Ev.ret _)) (fun _ => Ev.ret _)))) ?_
     refine Ev.bind (refcomm_ev h.n1 h.n2 h.took h.bt h.tl _ _) (Ev.bind (rpropS_ev h.sz _) ?_)
     unfold cand decR
     show Ev _ (match (decM (rN r) (rT r) 3 (rT r)[i].2.2.1 (posM r)).bind (propS r) with | some p => (mV (rT r)[i], mE p) | none => st)
     cases hd : decM (rN r) (rT r) 3 (rT r)[i].2.2.1 (posM r) with
     | none => exact Ev.F rfl (Ev.ret _)
     | some s =>
      refine Ev.T rfl ?_
      rw [Option.getD_some, Option.bind_some]
      cases hp : propS r s with
      | none => exact Ev.F rfl (Ev.ret _)
      | some p => exact Ev.T rfl (Ev.ret _)
   ·rw [if_neg (by simp [e1, e2])]
    exact Ev.bind (a := (Sum.inr () : Unit ⊕ Unit)) (Ev.F (by simpa [bne] using e1) (Ev.T (by simpa [bne] using e2) (Ev.ret _))) (Ev.ret _)
  ·rw [if_neg (by simp [e1])]
   exact Ev.bind (a := (Sum.inr () : Unit ⊕ Unit)) (Ev.T (by simpa [bne] using e1) (Ev.ret _)) (Ev.ret _)
 ·show armillaryref30_commit.s2 n (((rT r).take (rT r).length).foldl (bstep r) (-1, zE)).1 ((rT r).length : Int) (posM r) r (((rT r).take (rT r).length).foldl (bstep r) (-1, zE)).2 = _
  unfold armillaryref30_commit.s2
  rw [show decide (((rT r).length : Int) < (r.2.2.2.1.length : Int)) = false from decide_eq_false (show ¬ (((rT r).length : Int) < ((rT r).length : Int)) by omega), List.take_length]
  rfl

/-! ### rule 2: the view that enough have reached -/
def cntGe (l : List Int) (x : Int) : Nat := (l.filter fun y => decide (y ≥ x)).length
def jstep (l : List Int) (f : Int) (v x : Int) : Int := if (cntGe l x : Int) > f then iMax v x else v
theorem jview_max {l : List Int} {f : Nat} (hf : f < l.length) (h0 : ∀ x ∈ l, 0 ≤ x) : l.foldl (jstep l f) 0 = (sortI l).getD (l.length - 1 - f) 0 := by
 have hperm := sortI_perm l
 have hsort := sortI_sorted l
 have hlen : (sortI l).length = l.length := sortI_len l
 generalize sortI l = s at hperm hsort hlen
 have hi : l.length - 1 - f < s.length := by omega
 rw [getD_lt hi]
 have hcnt : ∀ x, cntGe l x = cntGe s x := fun x => by unfold cntGe; exact ((hperm.filter _).length_eq).symm
 have hmem : s[l.length - 1 - f] ∈ l := hperm.mem_iff.1 (List.getElem_mem hi)
 -- enough reach the view that is picked
 have hge : (cntGe l s[l.length - 1 - f] : Int) > (f : Int) := by
  rw [hcnt]
  unfold cntGe
  have : (s.drop (l.length - 1 - f)).length ≤ (s.filter fun y => decide (y ≥ s[l.length - 1 - f])).length := by
   have hall : ∀ y ∈ s.drop (l.length - 1 - f), decide (y ≥ s[l.length - 1 - f]) = true := by
    intro y hy
    rw [List.drop_eq_getElem_cons hi] at hy
    rcases List.mem_cons.1 hy with rfl | hy
    ·simp
    ·obtain ⟨k, hk, rfl⟩ := List.mem_iff_getElem.1 hy
     rw [List.getElem_drop]
     exact decide_eq_true (List.pairwise_iff_getElem.1 hsort _ _ hi (by rw [List.length_drop] at hk; omega) (by omega))
   calc (s.drop (l.length - 1 - f)).length = ((s.drop (l.length - 1 - f)).filter fun y => decide (y ≥ s[l.length - 1 - f])).length := by rw [List.filter_eq_self.2 hall]
    _ ≤ _ := ((List.drop_sublist _ _).filter _).length_le
  rw [List.length_drop] at this
  omega
 -- no greater view has enough
 have hle : ∀ x ∈ l, (cntGe l x : Int) > (f : Int) → x ≤ s[l.length - 1 - f] := by
  intro x hx hc
  refine Classical.byContradiction fun hlt => ?_
  have hlt : s[l.length - 1 - f] < x := by omega
  rw [hcnt] at hc
  have : (s.filter fun y => decide (y ≥ x)).length ≤ (s.drop (l.length - 1 - f + 1)).length := by
   have hsplit : s.filter (fun y => decide (y ≥ x)) = (s.take (l.length - 1 - f + 1)).filter (fun y => decide (y ≥ x)) ++ (s.drop (l.length - 1 - f + 1)).filter (fun y => decide (y ≥ x)) := by
    rw [← List.filter_append, List.take_append_drop]
   have hnil : (s.take (l.length - 1 - f + 1)).filter (fun y => decide (y ≥ x)) = [] := by
    rw [List.filter_eq_nil_iff]
    intro y hy
    obtain ⟨k, hk, rfl⟩ := List.mem_iff_getElem.1 hy
    rw [List.length_take] at hk
    rw [List.getElem_take]
    have : s[k] ≤ s[l.length - 1 - f] := by
     by_cases e : k = l.length - 1 - f
     ·subst e; exact Int.le_refl _
     ·exact List.pairwise_iff_getElem.1 hsort _ _ (by omega) hi (by omega)
    simp
    omega
   rw [hsplit, hnil, List.nil_append]
   exact List.length_filter_le _ _
  unfold cntGe at hc
  rw [List.length_drop] at this
  omega
 have hfold : ∀ (ys : List Int) (v : Int), (∀ y ∈ ys, y ∈ l) → 0 ≤ v → v ≤ s[l.length - 1 - f] → ys.foldl (jstep l f) v ≤ s[l.length - 1 - f] ∧ v ≤ ys.foldl (jstep l f) v ∧ (s[l.length - 1 - f] ∈ ys → s[l.length - 1 - f] ≤ ys.foldl (jstep l f) v) := by
  intro ys
  induction ys with
  | nil => intro v _ _ hv; exact ⟨hv, Int.le_refl _, fun h => by cases h⟩
  | cons y ys ih =>
   intro v hy hv0 hv
   have hyl := hy y List.mem_cons_self
   have hstep : v ≤ jstep l f v y ∧ jstep l f v y ≤ s[l.length - 1 - f] ∧ (y = s[l.length - 1 - f] → s[l.length - 1 - f] ≤ jstep l f v y) := by
    unfold jstep
    by_cases hc : (cntGe l y : Int) > (f : Int)
    ·rw [if_pos hc]
     have := hle y hyl hc
     unfold iMax
     refine ⟨?_, ?_, fun e => ?_⟩ <;> split <;> omega
    ·rw [if_neg hc]
     refine ⟨Int.le_refl _, hv, fun e => ?_⟩
     rw [e] at hc
     exact absurd hge hc
   obtain ⟨i1, i2, i3⟩ := ih (jstep l f v y) (fun z hz => hy z (List.mem_cons_of_mem _ hz)) (by omega) hstep.2.1
   refine ⟨i1, by rw [List.foldl_cons]; omega, fun h => ?_⟩
   rw [List.foldl_cons]
   rcases List.mem_cons.1 h with h | h
   ·have := hstep.2.2 h.symm
    omega
   ·exact i3 h
 have := hfold l 0 (fun y hy => hy) (Int.le_refl _) (h0 _ hmem)
 have := this.2.2 hmem
 omega
theorem lates_nonneg {r : Rep} (h : Inv r) : ∀ x ∈ lates r, 0 ≤ x := by
 intro x hx
 rcases lates_get _ _ _ hx with h0 | ⟨m, hm, _, e⟩
 ·rw [(List.mem_replicate.1 h0).2]; exact Int.le_refl _
 ·have := (h.tin hm).2.2.1
  omega
theorem rjoin_ev {r : Rep} (h : Inv r) : Ev (fun n => armillaryref30_join n r) (match joinM r with
  | some q => (rI q, rN q, rV q, rT q, rS q, rL q, true)
  | none => (rI r, rN r, rV r, rT r, rS r, rL r, false)) := by
 have hn1 := h.n1
 have hn2 := h.n2
 have ht := h.sz.t
 have hlen : (lates r).length = (rN r).toNat := by unfold lates; rw [lates_len, List.length_replicate]
 have hmf : maxF (rN r) = ((maxF (rN r)).toNat : Int) := by unfold maxF; omega
 have hml : (maxF (rN r)).toNat < (lates r).length := by rw [hlen]; unfold maxF; omega
 have hj : (lates r).foldl (jstep (lates r) (maxF (rN r))) 0 = jview r := by
  have := jview_max (f := (maxF (rN r)).toNat) hml (lates_nonneg h)
  rw [← hmf] at this
  rw [this]
  unfold jview
  congr 1
  rw [hlen]
  unfold maxF
  omega
 have hN : rN r = ((lates r).length : Int) := by rw [hlen]; omega
 unfold armillaryref30_join
 refine Ev.ck (decide_eq_true (show 0 ≤ rN r ∧ rN r ≤ rN r from ⟨by omega, by omega⟩)) (Ev.ck (show AM.room (rN r).toNat 8 = true from roomT (by omega) (by omega)) (Ev.bind (a := (r, lates r)) ?_ (Ev.bind (a := (jview r, r, lates r)) ?_ ?_)))
 ·have hfst : ∀ (ms : List Msg) (l : List Int), ms.foldl (fun (c : Rep × List Int) x => (c.1, late c.2 x)) (r, l) = (r, ms.foldl late l) := by
   intro ms
   induction ms with
   | nil => intro l; rfl
   | cons m ms ih => intro l; exact ih _
  refine fold_run (L := fun n j (c : Int × (Rep × List Int)) => armillaryref30_join.l0 n j c.1 c.2.1 c.2.2) (S := fun n c => armillaryref30_join.s0 n c.1 c.2.1 c.2.2) (fun _ _ _ => rfl)
   (rT r) (fun c x => (c.1, late c.2 x)) (r, List.replicate (rN r).toNat 0) (r, lates r) (by omega) (fun i hi => Ev.of fun n => ?_) (Ev.of fun n => ?_)
  ·rw [hfst]
   have hin := validM_in (h.took.ok (rT r)[i] (List.getElem_mem hi))
   have hb : inb (rT r)[i].2.1 (((rT r).take i).foldl late (List.replicate (rN r).toNat 0)).length = true := by
    rw [lates_len, List.length_replicate]
    exact inbT hin.2.1 (by have : mF (rT r)[i] < rN r := hin.2.2.1; show mF (rT r)[i] < _; omega)
   show armillaryref30_join.s0 n (i : Int) r (((rT r).take i).foldl late (List.replicate (rN r).toNat 0)) = _
   unfold armillaryref30_join.s0
   rw [show decide ((i : Int) < (r.2.2.2.1.length : Int)) = true from decide_eq_true (show (i : Int) < ((rT r).length : Int) by omega), show inb (i : Int) r.2.2.2.1.length = true from inbN hi, show r.2.2.2.1.getD (i : Int).toNat zM = (rT r)[i] from getD_int hi, wr64s i (by omega)]
   simp only [cond_true, AM.ck, hb, late]
   cases ((rT r)[i].1 == 4) <;> rfl
  ·rw [hfst]
   show armillaryref30_join.s0 n ((rT r).length : Int) r _ = _
   unfold armillaryref30_join.s0
   rw [show decide (((rT r).length : Int) < (r.2.2.2.1.length : Int)) = false from decide_eq_false (show ¬ (((rT r).length : Int) < ((rT r).length : Int)) by omega)]
   rfl
 ·have hrun := loop_run (L := fun n k (s : Int × Int × Rep × List Int) => armillaryref30_join.l2 n k s.1 s.2.1 s.2.2.1 s.2.2.2) (S := fun n s => armillaryref30_join.s2 n s.1 s.2.1 s.2.2.1 s.2.2.2) (fun _ _ _ => rfl)
   (fun i => (((lates r).take i).foldl (jstep (lates r) (maxF (rN r))) 0, (i : Int), r, lates r)) (lates r).length (jview r, r, lates r) (fun i hi => ?_) (Ev.of fun n => ?_)
  ·exact hrun
  ·show Ev (fun n => armillaryref30_join.s2 n (((lates r).take i).foldl (jstep (lates r) (maxF (rN r))) 0) (i : Int) r (lates r)) (.inl (((lates r).take (i + 1)).foldl (jstep (lates r) (maxF (rN r))) 0, ((i + 1 : Nat) : Int), r, lates r))
   rw [List.take_add_one, List.getElem?_eq_getElem hi, List.foldl_append]
   simp only [Option.toList_some, List.foldl_cons, List.foldl_nil]
   generalize ((lates r).take i).foldl (jstep (lates r) (maxF (rN r))) 0 = v
   unfold armillaryref30_join.s2
   refine Ev.T (decide_eq_true (show (i : Int) < rN r by omega)) (Ev.bind (a := ((cntGe (lates r) (lates r)[i] : Int), r, lates r)) ?_ (Ev.bind (Ev.of fun _ => refMaxF_eq hn1 hn2) ?_))
   ·have hrun := loop_run (L := fun n k (s : Int × Int × Rep × List Int) => armillaryref30_join.l1 n k s.1 s.2.1 (i : Int) s.2.2.1 s.2.2.2) (S := fun n s => armillaryref30_join.s1 n s.1 s.2.1 (i : Int) s.2.2.1 s.2.2.2) (fun _ _ _ => rfl)
     (fun k => ((cntGe ((lates r).take k) (lates r)[i] : Int), (k : Int), r, lates r)) (lates r).length ((cntGe (lates r) (lates r)[i] : Int), r, lates r) (fun k hk => Ev.of fun n => ?_) (Ev.of fun n => ?_)
    ·exact hrun
    ·have hcle : cntGe ((lates r).take k) (lates r)[i] ≤ k := Nat.le_trans (List.length_filter_le _ _) (by rw [List.length_take]; omega)
     show armillaryref30_join.s1 n (cntGe ((lates r).take k) (lates r)[i] : Int) (k : Int) (i : Int) r (lates r) = some (.inl ((cntGe ((lates r).take (k + 1)) (lates r)[i] : Int), ((k + 1 : Nat) : Int), r, lates r))
     have hc : cntGe ((lates r).take (k + 1)) (lates r)[i] = cntGe ((lates r).take k) (lates r)[i] + if (lates r)[k] ≥ (lates r)[i] then 1 else 0 := by
      unfold cntGe
      rw [filter_take _ _ _ hk, List.length_append]
      by_cases e : (lates r)[k] ≥ (lates r)[i] <;> simp [e]
     rw [hc]
     unfold armillaryref30_join.s1
     rw [show decide ((k : Int) < r.2.1) = true from decide_eq_true (show (k : Int) < rN r by omega), inbN hk, inbN hi, getD_int hk, getD_int hi, wr64s k (by omega), wr64s _ (by omega)]
     by_cases e : (lates r)[k] ≥ (lates r)[i]
     ·rw [decide_eq_true e, if_pos e]; rfl
     ·rw [decide_eq_false e, if_neg e]; rfl
    ·show armillaryref30_join.s1 n (cntGe ((lates r).take (lates r).length) (lates r)[i] : Int) ((lates r).length : Int) (i : Int) r (lates r) = _
     unfold armillaryref30_join.s1
     rw [show decide (((lates r).length : Int) < r.2.1) = false from decide_eq_false (show ¬ (((lates r).length : Int) < rN r) by omega), List.take_length]
     rfl
   ·unfold jstep
    rw [wr64s i (by omega)]
    by_cases hc : (cntGe (lates r) (lates r)[i] : Int) > maxF (rN r)
    ·rw [if_pos hc]
     refine Ev.T (decide_eq_true hc) (Ev.ck (inbN hi) ?_)
     rw [getD_int hi]
     exact Ev.ret _
    ·rw [if_neg hc]
     exact Ev.F (decide_eq_false hc) (Ev.ret _)
  ·show armillaryref30_join.s2 n (((lates r).take (lates r).length).foldl (jstep (lates r) (maxF (rN r))) 0) ((lates r).length : Int) r (lates r) = _
   unfold armillaryref30_join.s2
   rw [show decide (((lates r).length : Int) < r.2.1) = false from decide_eq_false (show ¬ (((lates r).length : Int) < rN r) by omega), List.take_length, hj]
   rfl
 ·unfold joinM
  by_cases hc : jview r ≤ rV r
  ·rw [if_pos hc]
   exact Ev.T (decide_eq_true hc) (Ev.ret _)
  ·rw [if_neg hc]
   exact Ev.F (decide_eq_false hc) (Ev.bind (Ev.of fun _ => rsend_eq (r := (rI r, rN r, jview r, rT r, rS r, rL r)) ⟨h.sz.t, h.sz.s, h.sz.g⟩ _) (Ev.ret _))

/-! ### rules 3 and 4 -/
theorem rlock_ev {r : Rep} (h : Sz r) : Ev (fun n => armillaryref30_acceptable.l1 n n 0 (posM r) r (0, 0, (-1), 0, 0, 0, (⟨#[]⟩ : ByteArray), ([] : List Int))) (r, lockOf r) := by
 have hs := h.s
 have hfst : ∀ (l : List Msg) (k : Msg), l.foldl (fun (c : Rep × Msg) x => (c.1, lockG r c.2 x)) (r, k) = (r, l.foldl (lockG r) k) := by
  intro l
  induction l with
  | nil => intro k; rfl
  | cons m l ih => intro k; exact ih _
 refine fold_run (L := fun n j (c : Int × (Rep × Msg)) => armillaryref30_acceptable.l1 n j c.1 (posM r) c.2.1 c.2.2) (S := fun n c => armillaryref30_acceptable.s1 n c.1 (posM r) c.2.1 c.2.2) (fun _ _ _ => rfl)
  (rS r) (fun c x => (c.1, lockG r c.2 x)) (r, (0, 0, (-1), 0, 0, 0, (⟨#[]⟩ : ByteArray), ([] : List Int))) _ (by omega) (fun i hi => Ev.of fun n => ?_) (Ev.of fun n => ?_)
 ·rw [hfst]
  show armillaryref30_acceptable.s1 n (i : Int) (posM r) r _ = _
  generalize ((rS r).take i).foldl (lockG r) _ = k
  unfold armillaryref30_acceptable.s1 armillaryref30_acceptable.j0
  rw [show decide ((i : Int) < (r.2.2.2.2.1.length : Int)) = true from decide_eq_true (show (i : Int) < ((rS r).length : Int) by omega), show inb (i : Int) r.2.2.2.2.1.length = true from inbN hi, show r.2.2.2.2.1.getD (i : Int).toNat zM = (rS r)[i] from getD_int hi, wr64s i (by omega)]
  simp only [cond_true, AM.ck, lockG]
  cases ((rS r)[i].1 == 3) with
  | false => rfl
  | true =>
   simp only [cond_true, Bool.true_and]
   cases ((rS r)[i].2.2.2.1 == posM r) with
   | false => rfl
   | true =>
    simp only [cond_true, Bool.true_and]
    by_cases hd : (rS r)[i].2.2.1 > k.2.2.1
    ·rw [decide_eq_true hd]; rfl
    ·rw [decide_eq_false hd]; rfl
 ·rw [hfst]
  show armillaryref30_acceptable.s1 n ((rS r).length : Int) (posM r) r _ = _
  unfold armillaryref30_acceptable.s1
  rw [show decide (((rS r).length : Int) < (r.2.2.2.2.1.length : Int)) = false from decide_eq_false (show ¬ (((rS r).length : Int) < ((rS r).length : Int)) by omega)]
  rfl
theorem raccept_ev {r : Rep} (h : Inv r) (s : Int) : Ev (fun n => armillaryref30_acceptable n r s) (acceptM r s) := by
 have ht := h.sz.t
 unfold armillaryref30_acceptable armillaryref30_acceptable.j2
 refine Ev.bind (rlock_ev h.sz) ?_
 unfold acceptM
 by_cases h1 : mV (lockOf r) < 0
 ·rw [show decide ((lockOf r).2.2.1 < 0) = true from decide_eq_true h1]
  exact Ev.ret _
 ·rw [show decide ((lockOf r).2.2.1 < 0) = false from decide_eq_false h1]
  cases h2 : (mS (lockOf r) == s) with
  | true => exact Ev.ret _
  | false =>
   have hf := search_run (L := fun n j (c : Int × (Rep × Msg)) => armillaryref30_acceptable.l5 n j c.1 s (posM r) c.2.1 c.2.2) (S := fun n c => armillaryref30_acceptable.s5 n c.1 s (posM r) c.2.1 c.2.2) (fun _ _ _ => rfl)
    (rT r) (r, lockOf r) (behindM r s) (fun _ => .inl (true, r, lockOf r)) (.inr (r, lockOf r)) (by omega) (fun i hi => ?_) (Ev.of fun n => ?_)
   ·refine Ev.bind (Ev.ret _) (Ev.bind hf ?_)
    rw [any_find]
    cases (rT r).find? (behindM r s) with
    | none => exact Ev.ret _
    | some x => exact Ev.ret _
   ·show Ev (fun n => armillaryref30_acceptable.s5 n (i : Int) s (posM r) r (lockOf r)) _
    unfold armillaryref30_acceptable.s5 armillaryref30_acceptable.j4 armillaryref30_acceptable.j3
    rw [wr64s i (by omega)]
    refine Ev.T (decide_eq_true (show (i : Int) < ((rT r).length : Int) by omega)) ?_
    have hcase : Ev (fun n => AM.ck (inb (i : Int) (rT r).length) <| (bif (rT r)[i].1 == 2 then bif (rT r)[i].2.2.2.1 == posM r then bif (decide ((rT r)[i].2.2.1 > (lockOf r).2.2.1)) then some (decide ((rT r)[i].2.2.1 < r.2.2.1)) else some false else some false else some false).bind fun z13 => bif z13 then (armillaryref29_Prepared n r.2.2.2.1 r.2.1 ((rT r)[i].2.2.1, posM r)).bind fun z14 => bif z14.2 then bif z14.1 == s then some (.inr true) else some (.inl ()) else some (.inl ()) else some (.inl ())) (bif behindM r s (rT r)[i] then (Sum.inr true : Unit ⊕ Bool) else .inl ()) := by
     refine Ev.ck (inbN hi) ?_
     unfold behindM
     generalize (rT r)[i] = x
     cases (x.1 == 2) with
     | false => exact Ev.ret _
     | true =>
      cases (x.2.2.2.1 == posM r) with
      | false => exact Ev.ret _
      | true =>
       simp only [cond_true, Bool.true_and]
       by_cases h3 : x.2.2.1 > mV (lockOf r)
       ·rw [show decide (x.2.2.1 > (lockOf r).2.2.1) = true from decide_eq_true h3]
        by_cases h4 : x.2.2.1 < rV r
        ·rw [show decide (x.2.2.1 < r.2.2.1) = true from decide_eq_true h4]
         refine Ev.bind (Ev.ret _) (Ev.T rfl (Ev.bind (refprep_ev h.n1 h.n2 h.took h.bt h.tl _ _) ?_))
         simp only [Bool.true_and]
         unfold decR
         cases hd : decM (rN r) (rT r) 2 x.2.2.1 (posM r) with
         | none => exact Ev.F rfl (Ev.ret _)
         | some q =>
          refine Ev.T rfl ?_
          rw [Option.getD_some]
          by_cases e : q = s
          ·rw [show (some q == some s) = true from by simp [e]]
           exact Ev.T (by simp [e]) (Ev.ret _)
          ·rw [show (some q == some s) = false from by simp [e]]
           exact Ev.F (by simp [e]) (Ev.ret _)
        ·rw [show decide (x.2.2.1 < r.2.2.1) = false from decide_eq_false h4]
         exact Ev.ret _
       ·rw [show decide (x.2.2.1 > (lockOf r).2.2.1) = false from decide_eq_false h3]
        exact Ev.ret _
    have hg : (r.2.2.2.1).getD (i : Int).toNat zM = (rT r)[i] := getD_int hi
    simp only [hg]
    refine Ev.bind hcase ?_
    cases behindM r s (rT r)[i] with
    | true => exact Ev.ret _
    | false => exact Ev.ret _
   ·show armillaryref30_acceptable.s5 n ((rT r).length : Int) s (posM r) r (lockOf r) = _
    unfold armillaryref30_acceptable.s5
    rw [show decide (((rT r).length : Int) < (r.2.2.2.1.length : Int)) = false from decide_eq_false (show ¬ (((rT r).length : Int) < ((rT r).length : Int)) by omega)]
    rfl
theorem rprepare_ev {r : Rep} (h : Inv r) : Ev (fun n => armillaryref30_prepare n r) (match prepareM r with
  | some q => (rI q, rN q, rV q, rT q, rS q, rL q, true)
  | none => (rI r, rN r, rV r, rT r, rS r, rL r, false)) := by
 unfold armillaryref30_prepare armillaryref30_prepare.j1 armillaryref30_prepare.j0
 refine Ev.bind (rpropV_ev h.sz h.v0) ?_
 unfold prepareM
 cases hp : propV r with
 | none => exact Ev.ret _
 | some p =>
  have no : ∀ {f : Nat → Option Bool}, Ev f true → Ev (fun n => ((f n).bind fun z4 => bif z4 then some (Sum.inr (false, r) : Unit ⊕ (Bool × Rep)) else some (.inl ()))) (.inr (false, r)) := fun hf => Ev.bind hf (Ev.ret _)
  by_cases h1 : posM r ≥ 1000
  ·simp only [if_pos h1]
   exact Ev.bind (no (Ev.F rfl (Ev.T (decide_eq_true h1) (Ev.ret _)))) (Ev.ret _)
  ·simp only [if_neg h1]
   cases h2 : sentM r 2 with
   | true =>
    simp only [if_true]
    exact Ev.bind (no (Ev.F rfl (Ev.F (decide_eq_false h1) (Ev.bind (rsaid_ev h.sz 2 (rV r) (posM r)) (Ev.T (by rw [saidR_sent]; exact h2) (Ev.ret _)))))) (Ev.ret _)
   | false =>
    simp only [Bool.false_eq_true, if_false]
    cases h3 : acceptM r (mS p) with
    | false =>
     simp only [if_true]
     exact Ev.bind (no (Ev.F rfl (Ev.F (decide_eq_false h1) (Ev.bind (rsaid_ev h.sz 2 (rV r) (posM r)) (Ev.F (by rw [saidR_sent]; exact h2) (Ev.bind (raccept_ev h (mS p)) (Ev.cast (Ev.ret _) (by rw [h3]; rfl)))))))) (Ev.ret _)
    | true =>
     simp only [Bool.true_eq_false, if_false]
     refine Ev.bind (a := (Sum.inl () : Unit ⊕ (Bool × Rep))) (Ev.bind (a := false) (Ev.F rfl (Ev.F (decide_eq_false h1) (Ev.bind (rsaid_ev h.sz 2 (rV r) (posM r)) (Ev.F (by rw [saidR_sent]; exact h2) (Ev.bind (raccept_ev h (mS p)) (Ev.cast (Ev.ret _) (by rw [h3]; rfl))))))) (Ev.ret _)) ?_
     exact Ev.bind (Ev.of fun _ => rsend_eq h.sz _) (Ev.ret _)
theorem rlockR_ev {r : Rep} (h : Inv r) : Ev (fun n => armillaryref30_lock n r) (match lockM r with
  | some q => (rI q, rN q, rV q, rT q, rS q, rL q, true)
  | none => (rI r, rN r, rV r, rT r, rS r, rL r, false)) := by
 unfold armillaryref30_lock armillaryref30_lock.j0
 refine Ev.bind (refprep_ev h.n1 h.n2 h.took h.bt h.tl _ _) (Ev.bind (rpropS_ev h.sz _) ?_)
 unfold lockM decR
 show Ev _ (match (match decM (rN r) (rT r) 2 (rV r) (posM r) with
  | none => none
  | some s => if sentM r 3 = true then none else match propS r s with | none => none | some _ => some (sendM r (3, 0, rV r, posM r, s, 0, (⟨#[]⟩ : ByteArray), ([] : List Int)))) with
  | some q => (rI q, rN q, rV q, rT q, rS q, rL q, true)
  | none => (rI r, rN r, rV r, rT r, rS r, rL r, false))
 have hpos : (r.2.2.2.2.2.length : Int) = posM r := rfl
 simp only [hpos]
 cases hd : decM (rN r) (rT r) 2 (rV r) (posM r) with
 | none =>
  have : (decM r.2.1 r.2.2.2.1 2 r.2.2.1 (posM r)) = none := hd
  simp only [this]
  exact Ev.ret _
 | some s =>
  have : (decM r.2.1 r.2.2.2.1 2 r.2.2.1 (posM r)) = some s := hd
  simp only [this, Option.getD_some, Option.isSome_some]
  cases hp : propS r s with
  | none =>
   cases h2 : sentM r 3 with
   | true =>
    simp only [if_true]
    exact Ev.ret _
   | false =>
    simp only [Bool.false_eq_true, if_false]
    exact Ev.ret _
  | some p =>
   cases h2 : sentM r 3 with
   | true =>
    simp only [if_true]
    exact Ev.bind (a := (Sum.inr (false, r) : Unit ⊕ (Bool × Rep))) (Ev.F rfl (Ev.F rfl (Ev.bind (rsaid_ev h.sz 3 (rV r) (posM r)) (Ev.T (by rw [saidR_sent]; exact h2) (Ev.ret _))))) (Ev.ret _)
   | false =>
    simp only [Bool.false_eq_true, if_false]
    refine Ev.bind (a := (Sum.inl () : Unit ⊕ (Bool × Rep))) (Ev.F rfl (Ev.F rfl (Ev.bind (rsaid_ev h.sz 3 (rV r) (posM r)) (Ev.F (by rw [saidR_sent]; exact h2) (Ev.ret _))))) ?_
    exact Ev.bind (Ev.of fun _ => rsend_eq h.sz _) (Ev.ret _)

/-! ### until none applies -/
abbrev z27 : Rep := (0, 0, 0, ([] : List Msg), ([] : List Msg), ([] : List Ent))
theorem rstep_ev {r : Rep} (h : Inv r) : Ev (fun n => armillaryref30_progress.s2 n r z27) (match stepM r with
  | some q => .inl (q, z27)
  | none => .inr (r, r)) := by
 unfold armillaryref30_progress.s2 armillaryref30_progress.j0 armillaryref30_progress.j1
 have hc := rcommit_ev h
 have hj := rjoin_ev h
 have hp := rprepare_ev h
 have hl := rlockR_ev h
 unfold stepM
 cases c1 : commitM r with
 | some q =>
  rw [c1] at hc
  exact Ev.bind hc (Ev.bind (Ev.ret _) (Ev.bind (Ev.ret _) (Ev.ret _)))
 | none =>
  rw [c1] at hc
  cases c2 : joinM r with
  | some q =>
   rw [c2] at hj
   exact Ev.bind hc (Ev.bind (Ev.bind hj (Ev.ret _)) (Ev.bind (Ev.ret _) (Ev.ret _)))
  | none =>
   rw [c2] at hj
   cases c3 : prepareM r with
   | some q =>
    rw [c3] at hp
    exact Ev.bind hc (Ev.bind (Ev.bind hj (Ev.ret _)) (Ev.bind (Ev.bind hp (Ev.ret _)) (Ev.ret _)))
   | none =>
    rw [c3] at hp
    cases c4 : lockM r with
    | some q =>
     rw [c4] at hl
     exact Ev.bind hc (Ev.bind (Ev.bind hj (Ev.ret _)) (Ev.bind (Ev.bind hp (Ev.ret _)) (Ev.bind hl (Ev.ret _))))
    | none =>
     rw [c4] at hl
     exact Ev.bind hc (Ev.bind (Ev.bind hj (Ev.ret _)) (Ev.bind (Ev.bind hp (Ev.ret _)) (Ev.bind hl (Ev.ret _))))
theorem riter_ev : ∀ (k : Nat) (r : Rep), Inv r → mu r ≤ k → ∃ z, EvL (fun n j => armillaryref30_progress.l2 n j r z27) (z, iterM k r) := by
 intro k
 induction k with
 | zero =>
  intro r h hk
  have hs := rstep_ev h
  cases hd : stepM r with
  | some q => have := (Stp.inv h (step_stp h hd)).2.1; omega
  | none =>
   rw [hd] at hs
   exact ⟨r, EvL.done (L := fun n j (s : Rep × Rep) => armillaryref30_progress.l2 n j s.1 s.2) (S := fun n s => armillaryref30_progress.s2 n s.1 s.2) (fun _ _ _ => rfl) (s := (r, z27)) hs⟩
 | succ k ih =>
  intro r h hk
  have hs := rstep_ev h
  unfold iterM
  cases hd : stepM r with
  | some q =>
   rw [hd] at hs
   obtain ⟨i1, i2, i3⟩ := Stp.inv h (step_stp h hd)
   obtain ⟨z, hz⟩ := ih q i1 (by omega)
   exact ⟨z, EvL.step (L := fun n j (s : Rep × Rep) => armillaryref30_progress.l2 n j s.1 s.2) (S := fun n s => armillaryref30_progress.s2 n s.1 s.2) (fun _ _ _ => rfl) (s := (r, z27)) (s' := (q, z27)) hs hz⟩
  | none =>
   rw [hd] at hs
   exact ⟨r, EvL.done (L := fun n j (s : Rep × Rep) => armillaryref30_progress.l2 n j s.1 s.2) (S := fun n s => armillaryref30_progress.s2 n s.1 s.2) (fun _ _ _ => rfl) (s := (r, z27)) hs⟩
theorem rprog_ev {r : Rep} (h : Inv r) : Ev (fun n => armillaryref30_progress n r) (progM r) := by
 obtain ⟨z, hz⟩ := riter_ev (mu r) r h (Nat.le_refl _)
 exact Ev.bind hz.diag (Ev.ret _)

/-! ### the operations -/
theorem rnew_eq (i n : Int) : armillaryref30_New i n = some (newM i n) := rfl
theorem rrec_eq (r : Rep) : armillaryref30_Recover r = some (recM r) := rfl
theorem rhandle_ev {r : Rep} (h : Inv r) {m : Msg} (hb : bytesE (mE m)) (hl : (rT r).length < 1000000) : Ev (fun n => armillaryref30_Handle n r m) (handleM r m, (rS (handleM r m)).drop (rS r).length) := by
 have ht := h.sz.t
 unfold armillaryref30_Handle handleM
 refine Ev.bind (refvalid_ev _ hb) ?_
 cases hv : validM (rN r) m with
 | false =>
  rw [if_neg (by rintro ⟨h, _⟩; cases h)]
  refine Ev.T rfl (Ev.cast (Ev.ret _) ?_)
  rw [List.drop_length]
 | true =>
  refine Ev.F rfl ?_
  have hf := search_run (L := fun n j (s : Int × (Rep × Msg × Rep)) => armillaryref30_Handle.l2 n j s.1 s.2.1 s.2.2.1 s.2.2.2) (S := fun n s => armillaryref30_Handle.s2 n s.1 s.2.1 s.2.2.1 s.2.2.2) (fun _ _ _ => rfl)
   (rT r) (r, m, z27) (fun x => (x.1 == m.1) && ((x.2.1 == m.2.1) && ((x.2.2.1 == m.2.2.1) && (x.2.2.2.1 == m.2.2.2.1)))) (fun _ => .inl (r, m, r, [])) (.inr (r, m, z27)) (by omega) (fun i hi => Ev.of fun n => ?_) (Ev.of fun n => ?_)
  ·refine Ev.bind hf ?_
   have hk : knownM r m = ((rT r).find? fun x => (x.1 == m.1) && ((x.2.1 == m.2.1) && ((x.2.2.1 == m.2.2.1) && (x.2.2.2.1 == m.2.2.2.1)))).isSome := by
    unfold knownM
    rw [any_find]
   cases hx : (rT r).find? fun x => (x.1 == m.1) && ((x.2.1 == m.2.1) && ((x.2.2.1 == m.2.2.1) && (x.2.2.2.1 == m.2.2.2.1))) with
   | some x =>
    rw [hx] at hk
    rw [if_neg (by rintro ⟨_, h⟩; rw [hk] at h; cases h)]
    refine Ev.cast (Ev.ret _) ?_
    rw [List.drop_length]
   | none =>
    rw [hx] at hk
    rw [if_pos ⟨rfl, hk⟩]
    have hi := take_inv h hv hk hb hl
    refine Ev.ck (show AM.room (0 + (rT r).length) 88 = true from roomT (by omega) (by omega)) (Ev.ck ?_ ?_)
    ·show AM.room ((([] : List Msg) ++ rT r).length + 1) 88 = true
     rw [List.nil_append]
     exact room88 ht
    ·simp only [List.nil_append]
     refine Ev.bind (rprog_ev hi) (Ev.ck (drop_pre (prog_stps hi).grows.s) (Ev.cast (Ev.ret _) ?_))
     rw [Int.toNat_natCast]
     rfl
  ·show armillaryref30_Handle.s2 n (i : Int) r m z27 = _
   unfold armillaryref30_Handle.s2 armillaryref30_Handle.j1 armillaryref30_Handle.j0
   rw [show decide ((i : Int) < (r.2.2.2.1.length : Int)) = true from decide_eq_true (show (i : Int) < ((rT r).length : Int) by omega), show inb (i : Int) r.2.2.2.1.length = true from inbN hi, show r.2.2.2.1.getD (i : Int).toNat zM = (rT r)[i] from getD_int hi, wr64s i (by omega)]
   simp only [cond_true, AM.ck]
   cases ((rT r)[i].1 == m.1) with
   | false => rfl
   | true =>
    simp only [cond_true]
    cases ((rT r)[i].2.1 == m.2.1) with
    | false => rfl
    | true =>
     simp only [cond_true]
     cases ((rT r)[i].2.2.1 == m.2.2.1) with
     | false => rfl
     | true =>
      simp only [cond_true]
      cases ((rT r)[i].2.2.2.1 == m.2.2.2.1) <;> rfl
  ·show armillaryref30_Handle.s2 n ((rT r).length : Int) r m z27 = _
   unfold armillaryref30_Handle.s2
   rw [show decide (((rT r).length : Int) < (r.2.2.2.1.length : Int)) = false from decide_eq_false (show ¬ (((rT r).length : Int) < ((rT r).length : Int)) by omega)]
   rfl
theorem rtimeout_ev {r : Rep} (h : Inv r) : Ev (fun n => armillaryref30_Timeout n r) (timeoutM r, (rS (timeoutM r)).drop (rS r).length) := by
 have hg := timeout_grows h
 unfold armillaryref30_Timeout
 unfold timeoutM at hg ⊢
 by_cases hv : rV r ≥ 1048576
 ·rw [if_pos hv]
  refine Ev.T (decide_eq_true hv) (Ev.cast (Ev.ret _) ?_)
  rw [List.drop_length]
 ·rw [if_neg hv] at hg ⊢
  have hw : W .i64 (rV r + 1) = rV r + 1 := wr64 (by have := h.v0; omega) (by omega)
  refine Ev.F (decide_eq_false hv) ?_
  show Ev (fun n => (armillaryref30_send (r.1, r.2.1, W .i64 (rV r + 1), r.2.2.2) (4, 0, W .i64 (rV r + 1), 0, 0, zE)).bind _) _
  rw [hw]
  refine Ev.bind (Ev.of fun _ => rsend_eq (r := nextM r) ⟨h.sz.t, h.sz.s, h.sz.g⟩ _) (Ev.bind (rprog_ev (next_inv h hv)) (Ev.ck (drop_pre hg.s) (Ev.cast (Ev.ret _) ?_)))
  rw [Int.toNat_natCast]
  rfl
theorem rpropose_ev {r : Rep} (h : Inv r) {e : Ent} (hb : bytesE e) : Ev (fun n => armillaryref30_Propose n r e) ((proposeM r e).1, (proposeM r e).2.1, (proposeM r e).2.2.1, (proposeM r e).2.2.2.1, (proposeM r e).2.2.2.2.1, (proposeM r e).2.2.2.2.2, (rS (proposeM r e)).drop (rS r).length, codeM r e) := by
 have hx : ∀ c, codeM r e = c → c ≠ 0 → Ev (fun _ => some (r.1, r.2.1, r.2.2.1, r.2.2.2.1, r.2.2.2.2.1, r.2.2.2.2.2, ([] : List Msg), c)) ((proposeM r e).1, (proposeM r e).2.1, (proposeM r e).2.2.1, (proposeM r e).2.2.2.1, (proposeM r e).2.2.2.2.1, (proposeM r e).2.2.2.2.2, (rS (proposeM r e)).drop (rS r).length, codeM r e) := by
  intro c hc h0
  unfold proposeM
  rw [hc, if_neg h0, List.drop_length]
  exact Ev.ret _
 have hen : (encR e).1 ≠ 0 ↔ encOk e = false := by
  unfold encR
  cases encOk e <;> simp
 unfold armillaryref30_Propose
 refine Ev.bind (Ev.of fun _ => refLeader_eq _ _) ?_
 by_cases c1 : leadM (rN r) (rV r) ≠ rI r
 ·exact Ev.T (by simpa using c1) (hx 290 (by unfold codeM; rw [if_pos c1]) (by decide))
 ·refine Ev.F (by simpa using c1) ?_
  by_cases c2 : posM r ≥ 1000
  ·exact Ev.T (decide_eq_true c2) (hx 2 (by unfold codeM; rw [if_neg c1, if_pos c2]) (by decide))
  ·refine Ev.F (decide_eq_false c2) (Ev.bind (Ev.of fun _ => refValid_eq _) ?_)
   by_cases c3 : (encR e).1 ≠ 0
   ·exact Ev.T (by rw [hen.1 c3]; rfl) (hx 1 (by unfold codeM; rw [if_neg c1, if_neg c2, if_pos c3]) (by decide))
   ·have he : encOk e = true := by
     cases hh : encOk e with
     | true => rfl
     | false => exact absurd (hen.2 hh) c3
    refine Ev.F (by rw [he]; rfl) (Ev.bind (rsaid_ev h.sz 1 (rV r) (posM r)) ?_)
    rw [saidR_sent]
    by_cases c4 : sentM r 1 = true
    ·exact Ev.T c4 (hx 321 (by unfold codeM; rw [if_neg c1, if_neg c2, if_neg c3, if_pos c4]) (by decide))
    ·have hc : codeM r e = 0 := by unfold codeM; rw [if_neg c1, if_neg c2, if_neg c3, if_neg c4]
     have hpb := (propE_ok h he hb).2
     refine Ev.F (by simpa using c4) (Ev.bind (refhigh_ev h.n1 h.n2 h.took h.bt h.tl _ _) (Ev.bind (a := proposalE r e) ?_ (Ev.bind (refenc_ev _) (Ev.bind (refcrc_ev (by have := encR_len (proposalE r e); omega) (encR_byte hpb)) (Ev.bind (Ev.of fun _ => rsend_eq h.sz _) (Ev.ck (drop_pre (List.prefix_append _ _)) (Ev.cast (Ev.ret _) ?_)))))))
     ·unfold armillaryref30_Propose.j0 proposalE
      by_cases hh : (hiM (rN r) (rT r) (rV r) (posM r)).2 ≥ 0
      ·rw [if_pos hh]; exact Ev.F (by rw [show decide ((hiM r.2.1 r.2.2.2.1 r.2.2.1 (r.2.2.2.2.2.length : Int)).2 ≥ 0) = true from decide_eq_true hh]; rfl) (Ev.ret _)
      ·rw [if_neg hh]; exact Ev.T (by rw [show decide ((hiM r.2.1 r.2.2.2.1 r.2.2.1 (r.2.2.2.2.2.length : Int)).2 ≥ 0) = false from decide_eq_false hh]; rfl) (Ev.ret _)
     ·unfold proposeM
      rw [hc, if_pos rfl, Int.toNat_natCast]
      rfl
end Go.Proofs.YtijhdekfbjafgaaGreat
