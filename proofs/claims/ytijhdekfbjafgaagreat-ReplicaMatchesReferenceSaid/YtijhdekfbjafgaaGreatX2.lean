/- Words of the walk, the functions' walks and plain laws, joined; no conditions beyond those that the theorems name. -/
import Derived.Test.YtijhdekfbjafgaaGreatX1
import Derived.Deep.MidRow
import Derived.Great.BuildSlice
import Derived.Laws.Tables
import Derived.ArgAppend
import Derived.Deep.Upon
namespace Go.Proofs.YtijhdekfbjafgaaGreat.AM
open Go Go.RowKit Go.Proofs.YtijhdekfbjafgaaGreat.RW

def rl {α β : Type} (R : α → β → Prop) : List α → List β → Prop
 | [], [] => True
 | a :: l, b :: r => R a b ∧ rl R l r
 | _, _ => False
section
variable {α β : Type} {R S : α → β → Prop}
theorem rl.len : ∀ {l : List α} {r : List β}, rl R l r → l.length = r.length
 | [], [], _ => rfl
 | _ :: _, _ :: _, h => by simp [rl.len h.2]
 | [], _ :: _, h => h.elim
 | _ :: _, [], h => h.elim
theorem rl.mono (hR : ∀ a b, R a b → S a b) : ∀ {l : List α} {r : List β}, rl R l r → rl S l r
 | [], [], _ => trivial
 | _ :: _, _ :: _, h => ⟨hR _ _ h.1, rl.mono hR h.2⟩
 | [], _ :: _, h => h.elim
 | _ :: _, [], h => h.elim
theorem rl.get : ∀ {l : List α} {r : List β}, rl R l r → ∀ {i : Nat} {a : α}, l[i]? = some a → ∃ b, r[i]? = some b ∧ R a b
 | _ :: _, _ :: _, h, 0, _, ha => by simp at ha; subst ha; exact ⟨_, rfl, h.1⟩
 | _ :: _, _ :: _, h, i + 1, _, ha => by simpa using rl.get h.2 (i := i) (by simpa using ha)
 | [], [], _, _, _, ha => by cases ha
 | [], _ :: _, h, _, _, _ => h.elim
 | _ :: _, [], h, _, _, _ => h.elim
theorem rl.app : ∀ {l : List α} {r : List β} {l' : List α} {r' : List β}, rl R l r → rl R l' r' → rl R (l ++ l') (r ++ r')
 | [], [], _, _, _, k => k
 | _ :: _, _ :: _, _, _, h, k => ⟨h.1, rl.app h.2 k⟩
 | [], _ :: _, _, _, h, _ => h.elim
 | _ :: _, [], _, _, h, _ => h.elim
theorem rl.take : ∀ {l : List α} {r : List β} (n : Nat), rl R l r → rl R (l.take n) (r.take n)
 | _, _, 0, _ => by simp [rl]
 | [], [], _ + 1, _ => trivial
 | _ :: _, _ :: _, n + 1, h => ⟨h.1, rl.take n h.2⟩
 | [], _ :: _, _, h => h.elim
 | _ :: _, [], _, h => h.elim
theorem rl.drop : ∀ {l : List α} {r : List β} (n : Nat), rl R l r → rl R (l.drop n) (r.drop n)
 | _, _, 0, h => by simpa using h
 | [], [], _ + 1, _ => trivial
 | _ :: _, _ :: _, n + 1, h => rl.drop n h.2
 | [], _ :: _, _, h => h.elim
 | _ :: _, [], _, h => h.elim
theorem rl.all {p : β → Prop} (hR : ∀ a b, R a b → p b) : ∀ {l : List α} {r : List β}, rl R l r → ∀ b ∈ r, p b
 | [], [], _, _, hb => by cases hb
 | _ :: _, _ :: _, h, b, hb => by
  rcases List.mem_cons.1 hb with rfl | hb
  ·exact hR _ _ h.1
  ·exact rl.all hR h.2 b hb
 | [], _ :: _, h, _, _ => h.elim
 | _ :: _, [], h, _, _ => h.elim
end

universe u
theorem lk_cons {α : Type u} (j i : Nat) (a : α) (r : List (Nat × α)) : lk ((j, a) :: r) i = if j = i then some a else lk r i := by
 show (bif Nat.beq j i then _ else _) = _
 by_cases h : j = i
 ·subst h; rw [Nat.beq_refl, if_pos rfl]; rfl
 ·rw [RW.beq_ne h, if_neg h]; rfl
theorem lk_append {α : Type u} (l r : List (Nat × α)) (i : Nat) : lk (l ++ r) i = (lk l i).or (lk r i) := by
 induction l with
 | nil => rfl
 | cons p l ih =>
  obtain ⟨j, a⟩ := p
  rw [List.cons_append, lk_cons, lk_cons]
  by_cases h : j = i
  ·rw [if_pos h, if_pos h]; rfl
  ·rw [if_neg h, if_neg h]; exact ih

/-! ### data -/
def Ty.none_ : Ty Unit where
 sz := 0
 K := fun _ _ cs => cs = []
 len := fun h => by rw [h]; rfl
 one := fun h u hu => by rw [h] at hu; cases hu
 ext := fun _ h => h
def TC.ty : (c : TC) → Ty c.I
 | .int k => Ty.int k
 | .bool => Ty.bool
 | .str => Ty.string
 | .unit => Ty.none_
 | .row c => Ty.slice c.ty
 | .pair a b => Ty.pair a.ty b.ty
theorem TC.ty_sz : ∀ c : TC, c.ty.sz = c.sz
 | .int _ => rfl
 | .bool => rfl
 | .str => rfl
 | .unit => rfl
 | .row _ => rfl
 | .pair a b => by show a.ty.sz + b.ty.sz = _; rw [a.ty_sz, b.ty_sz]; rfl

/-! ### where a piece lies -/
structure Pl where
 A : Option Addr
 n : Nat
 c : Nat
abbrev Pi := Nat → Option Pl
def Pi.le (π π' : Pi) : Prop := ∀ o p, π o = some p → π' o = some p
theorem Pi.le_refl (π : Pi) : π.le π := fun _ _ h => h
theorem Pi.le_trans {π π' π'' : Pi} (h : π.le π') (k : π'.le π'') : π.le π'' := fun o p e => k o p (h o p e)

def relP (π : Pi) : Nat × Nat → Value → Prop := fun q y => ∃ p g, π q.1 = some p ∧ p.A = some ⟨g, 0, none⟩ ∧ y = .pointer (some ⟨g, q.2, none⟩)
def relC (π : Pi) (I : Imm) : AC → Value → Prop
 | .v x, y => y = x ∧ x.oneCell' = true
 | .rd f c l, y => ∃ A cp, y = .slice A l.length cp ∧ l.length ≤ cp ∧ (f = true → cp = l.length) ∧ Rd c.ty I A l
 | .sl o, y => ∃ p, π o = some p ∧ y = .slice p.A p.n p.c
 | .sb o n, y => ∃ p g, π o = some p ∧ p.A = some ⟨g, 0, none⟩ ∧ y = .slice (some ⟨g, 0, none⟩) n n
 | .ptr o off, y => relP π (o, off) y
 | .el o sz i off, y => ∃ p g, π o = some p ∧ p.A = some ⟨g, 0, none⟩ ∧ i < p.n ∧ y = .pointer (some ⟨g, i * sz + off, none⟩)
 | .pr c x off, y => ∃ g q cs, y = .pointer (some ⟨g, q + off, none⟩) ∧ c.ty.K I x cs ∧ ∀ j u, cs[j]? = some u → I ⟨g, q + j, none⟩ = some u
 | .fn f a b, y => ∃ xs ys, y = .func f xs.toArray ys.toArray ∧ rl (relP π) a xs ∧ rl (relP π) b ys
def relW (π : Pi) (I : Imm) : AW → Value → Prop
 | .c a, y => relC π I a y
 | .agg l, y => ∃ ys, y = .agg ys.toArray ∧ rl (relC π I) l ys
def relV (π : Pi) (I : Imm) : AV → Value → Prop
 | .w x, y => relW π I x y
 | .tup l, y => ∃ ys, y = .tuple ys.toArray ∧ rl (relW π I) l ys

theorem relP.ext {π π' : Pi} (hπ : π.le π') {q : Nat × Nat} {y : Value} (h : relP π q y) : relP π' q y := by
 obtain ⟨p, g, h1, h2⟩ := h
 exact ⟨p, g, hπ _ _ h1, h2⟩
theorem relC.ext {π π' : Pi} {I J : Imm} (hπ : π.le π') (hI : I.le J) {a : AC} {y : Value} (h : relC π I a y) : relC π' J a y := by
 cases a with
 | v x => exact h
 | rd f c l => obtain ⟨A, cp, h1, h2, h3, h4⟩ := h; exact ⟨A, cp, h1, h2, h3, h4.ext hI⟩
 | sl o => obtain ⟨p, h1, h2⟩ := h; exact ⟨p, hπ _ _ h1, h2⟩
 | sb o n => obtain ⟨p, g, h1, h2⟩ := h; exact ⟨p, g, hπ _ _ h1, h2⟩
 | ptr o q => exact relP.ext hπ h
 | el o z i q => obtain ⟨p, g, h1, h2⟩ := h; exact ⟨p, g, hπ _ _ h1, h2⟩
 | pr c x q => obtain ⟨g, q', cs, h1, h2, h3⟩ := h; exact ⟨g, q', cs, h1, c.ty.ext hI h2, fun j u hu => hI _ _ (h3 j u hu)⟩
 | fn f a b => obtain ⟨xs, ys, h1, h2, h3⟩ := h; exact ⟨xs, ys, h1, h2.mono (fun _ _ => relP.ext hπ), h3.mono (fun _ _ => relP.ext hπ)⟩
theorem relW.ext {π π' : Pi} {I J : Imm} (hπ : π.le π') (hI : I.le J) {a : AW} {y : Value} (h : relW π I a y) : relW π' J a y := by
 cases a with
 | c a => exact relC.ext hπ hI h
 | agg l => obtain ⟨ys, h1, h2⟩ := h; exact ⟨ys, h1, h2.mono (fun _ _ => relC.ext hπ hI)⟩
theorem relV.ext {π π' : Pi} {I J : Imm} (hπ : π.le π') (hI : I.le J) {a : AV} {y : Value} (h : relV π I a y) : relV π' J a y := by
 cases a with
 | w x => exact relW.ext hπ hI h
 | tup l => obtain ⟨ys, h1, h2⟩ := h; exact ⟨ys, h1, h2.mono (fun _ _ => relW.ext hπ hI)⟩
theorem relC.one {π : Pi} {I : Imm} {a : AC} {y : Value} (h : relC π I a y) : y.oneCell' = true := by
 cases a with
 | v x => obtain ⟨rfl, h⟩ := h; exact h
 | rd f c l => obtain ⟨A, cp, rfl, _⟩ := h; rfl
 | sl o => obtain ⟨p, _, rfl⟩ := h; rfl
 | sb o n => obtain ⟨p, g, _, _, rfl⟩ := h; rfl
 | ptr o q => obtain ⟨p, g, _, _, rfl⟩ := h; rfl
 | el o z i q => obtain ⟨p, g, _, _, _, rfl⟩ := h; rfl
 | pr c x q => obtain ⟨g, q', cs, rfl, _⟩ := h; rfl
 | fn f a b => obtain ⟨xs, ys, rfl, _⟩ := h; rfl
theorem relL.one {π : Pi} {I : Imm} {l : List AC} {ys : List Value} (h : rl (relC π I) l ys) : ∀ y ∈ ys, y.oneCell' = true := rl.all (p := fun y => y.oneCell' = true) (fun _ _ => relC.one) h

/-! ### data, cell by cell -/
/-- The cells of data are told by what is told of data. -/
theorem TC.cells_rel {π : Pi} {I : Imm} : ∀ (c : TC) (x : c.I) (cs : List Value), c.ty.K I x cs → rl (relC π I) (c.cells x) cs
 | .int k, x, cs, h => by
  have h : cs = [.int k x] := h
  subst h; exact ⟨⟨rfl, rfl⟩, trivial⟩
 | .bool, x, cs, h => by
  have h : cs = [.bool x] := h
  subst h; exact ⟨⟨rfl, rfl⟩, trivial⟩
 | .str, x, cs, h => by
  have h : cs = [.string x] := h
  subst h; exact ⟨⟨rfl, rfl⟩, trivial⟩
 | .unit, x, cs, h => by
  have h : cs = [] := h
  subst h; trivial
 | .row c, l, cs, h => by
  obtain ⟨A, cp, rfl, h1, h2⟩ := h
  exact ⟨⟨A, cp, rfl, h1, (fun e => by cases e), h2⟩, trivial⟩
 | .pair a b, x, cs, h => by
  obtain ⟨c0, c1, rfl, h0, h1⟩ := h
  exact (a.cells_rel x.1 c0 h0).app (b.cells_rel x.2 c1 h1)
theorem TC.cells_len : ∀ (c : TC) (x : c.I), (c.cells x).length = c.sz
 | .int _, _ => rfl
 | .bool, _ => rfl
 | .str, _ => rfl
 | .unit, _ => rfl
 | .row _, _ => rfl
 | .pair a b, x => by show (a.cells x.1 ++ b.cells x.2).length = _; rw [List.length_append, a.cells_len, b.cells_len]; rfl
theorem TC.castL_eq {a b : TC} {x : List a.I} {y : List b.I} (h : TC.castL b x = some y) : ∃ e : a = b, e ▸ x = y := by
 unfold TC.castL at h
 split at h
 ·rename_i e
  injection h with h
  exact ⟨e, h⟩
 ·cases h
/-- One cell, read as data. -/
theorem TC.ofC_K {π : Pi} {I : Imm} {c : TC} {a : AC} {x : c.I} {y : Value} (h : c.ofC a = some x) (hr : relC π I a y) : c.ty.K I x [y] := by
 unfold TC.ofC at h
 split at h
 ·rename_i k k' n
  split at h
  ·rename_i e
   subst e
   injection h with h
   subst h
   obtain ⟨rfl, _⟩ := hr
   rfl
  ·cases h
 ·injection h with h
  subst h
  obtain ⟨rfl, _⟩ := hr
  rfl
 ·injection h with h
  subst h
  obtain ⟨rfl, _⟩ := hr
  rfl
 ·obtain ⟨e, h⟩ := TC.castL_eq h
  subst e; subst h
  obtain ⟨A, cp, rfl, h1, _, h2⟩ := hr
  exact ⟨A, cp, rfl, h1, h2⟩
 ·injection h with h
  subst h
  obtain ⟨rfl, _⟩ := hr
  exact ⟨none, 0, rfl, Nat.le_refl _, Rd.nil _ _ _⟩
 ·cases h
theorem TC.ofCs_K {π : Pi} {I : Imm} : ∀ {c : TC} {l : List AC} {x : c.I} {r : List AC} {ys : List Value}, c.ofCs l = some (x, r) → rl (relC π I) l ys → ∃ c0 c1, ys = c0 ++ c1 ∧ c.ty.K I x c0 ∧ rl (relC π I) r c1
 | .unit, l, x, r, ys, h, hr => by
  have h : some ((), l) = some (x, r) := by cases l <;> exact h
  injection h with h
  injection h with h1 h2
  subst h2
  exact ⟨[], ys, rfl, rfl, hr⟩
 | .pair a b, l, x, r, ys, h, hr => by
  simp only [TC.ofCs] at h
  split at h
  ·cases h
  ·rename_i x1 r1 h1
   split at h
   ·cases h
   ·rename_i y1 r2 h2
    injection h with h
    injection h with e1 e2
    subst e1; subst e2
    obtain ⟨c0, c1, rfl, k0, k1⟩ := TC.ofCs_K h1 hr
    obtain ⟨d0, d1, rfl, m0, m1⟩ := TC.ofCs_K h2 k1
    exact ⟨c0 ++ d0, d1, by rw [List.append_assoc], ⟨c0, d0, rfl, k0, m0⟩, m1⟩
 | .int k, a :: l, x, r, y :: ys, h, hr => by
  simp only [TC.ofCs] at h
  split at h
  ·rename_i z hz
   injection h with h; injection h with e1 e2
   subst e1; subst e2
   exact ⟨[y], ys, rfl, TC.ofC_K hz hr.1, hr.2⟩
  ·cases h
 | .bool, a :: l, x, r, y :: ys, h, hr => by
  simp only [TC.ofCs] at h
  split at h
  ·rename_i z hz
   injection h with h; injection h with e1 e2
   subst e1; subst e2
   exact ⟨[y], ys, rfl, TC.ofC_K hz hr.1, hr.2⟩
  ·cases h
 | .str, a :: l, x, r, y :: ys, h, hr => by
  simp only [TC.ofCs] at h
  split at h
  ·rename_i z hz
   injection h with h; injection h with e1 e2
   subst e1; subst e2
   exact ⟨[y], ys, rfl, TC.ofC_K hz hr.1, hr.2⟩
  ·cases h
 | .row c, a :: l, x, r, y :: ys, h, hr => by
  simp only [TC.ofCs] at h
  split at h
  ·rename_i z hz
   injection h with h; injection h with e1 e2
   subst e1; subst e2
   exact ⟨[y], ys, rfl, TC.ofC_K hz hr.1, hr.2⟩
  ·cases h
 | .int k, [], x, r, ys, h, hr => by cases h
 | .bool, [], x, r, ys, h, hr => by cases h
 | .str, [], x, r, ys, h, hr => by cases h
 | .row c, [], x, r, ys, h, hr => by cases h
 | .int k, a :: l, x, r, [], h, hr => hr.elim
 | .bool, a :: l, x, r, [], h, hr => hr.elim
 | .str, a :: l, x, r, [], h, hr => hr.elim
 | .row c, a :: l, x, r, [], h, hr => hr.elim
end Go.Proofs.YtijhdekfbjafgaaGreat.AM
namespace Go.Proofs.YtijhdekfbjafgaaGreat.AM
open Go Go.RowKit Go.Proofs.YtijhdekfbjafgaaGreat.RW

/-- Whose blocks a piece holds. -/
def fpO (π : Pi) (o : Nat) : Option AObj → Nat → Prop
 | some (.blk _ _), k => ∃ p, π o = some p ∧ p.A = some ⟨k, 0, none⟩
 | some (.row _ _ _), k => ∃ p a, π o = some p ∧ p.A = some a ∧ a.block = k
 | _, _ => False
def atO (π : Pi) (I : Imm) (w : World) (o : Nat) : Option AObj → Prop
 | some (.blk ty cs) => ∃ p g ys, π o = some p ∧ p.A = some ⟨g, 0, none⟩ ∧ rl (relC π I) cs ys ∧ w.heap[g]? = some (.cells ys.toArray ty (0, 0))
 | some (.row e c l) => ∃ p cs, π o = some p ∧ p.n = l.length ∧ w.ownsRow 0 e c.sz (.slice p.A p.n p.c) l.length cs ∧ Reps c.ty I l cs
 | some (.frz c l) => ∃ p, π o = some p ∧ p.n = l.length ∧ l.length ≤ p.c ∧ Rd c.ty I p.A l
 | _ => True

theorem atO.mono {π π' : Pi} {I J : Imm} {w w' : World} {o : Nat} {ob : Option AObj} (hπ : π.le π') (hI : I.le J) (hw : ∀ k, fpO π o ob k → w'.heap[k]? = w.heap[k]?) (h : atO π I w o ob) : atO π' J w' o ob := by
 match ob, h, hw with
 | none, _, _ => trivial
 | some .gone, _, _ => trivial
 | some (.blk ty cs), ⟨p, g, ys, h1, h2, h3, h4⟩, hw => exact ⟨p, g, ys, hπ _ _ h1, h2, h3.mono (fun _ _ => relC.ext hπ hI), (hw g ⟨p, h1, h2⟩).trans h4⟩
 | some (.frz c l), ⟨p, h1, h2, h3, h4⟩, _ => exact ⟨p, hπ _ _ h1, h2, h3, h4.ext hI⟩
 | some (.row e c l), ⟨p, cs, h1, h2, h3, h4⟩, hw =>
  refine ⟨p, cs, hπ _ _ h1, h2, ⟨h3.1, ?_⟩, h4.ext hI⟩
  rcases h3.2 with h | ⟨g, cap, cur, e1, hb, hg, r⟩
  ·exact .inl h
  ·refine .inr ⟨g, cap, cur, e1, hb, ?_, r⟩
   injection e1 with e1
   rw [hw g ⟨p, _, h1, e1, rfl⟩]
   exact hg
theorem fpO.back {π π' : Pi} {I : Imm} {w : World} {o : Nat} {ob : Option AObj} (hπ : π.le π') (h : atO π I w o ob) {k : Nat} (hk : fpO π' o ob k) : fpO π o ob k := by
 match ob, h, hk with
 | some (.blk ty cs), ⟨p, g, ys, h1, _⟩, ⟨p', h2, h3⟩ =>
  rw [hπ _ _ h1] at h2
  injection h2 with h2
  subst h2
  exact ⟨p, h1, h3⟩
 | some (.row e c l), ⟨p, cs, h1, _⟩, ⟨p', a, h2, h3⟩ =>
  rw [hπ _ _ h1] at h2
  injection h2 with h2
  subst h2
  exact ⟨p, a, h1, h3⟩

/-- The pieces, in a world. -/
structure SA (B : Base) (I : Imm) (π : Pi) (M : Nat → Option AObj) (w : World) : Prop where
 evo : Evo B.S B.w0 w
 dom : ∀ o, M o = none → π o = none
 res : ∀ o, atO π I w o (M o)
 own : ∀ o k, fpO π o (M o) k → k < w.heap.size ∧ (B.w0.heap.size ≤ k ∨ B.S k)
 dis : ∀ o o', o ≠ o' → ∀ k, fpO π o (M o) k → ¬ fpO π o' (M o') k
 im : I.at_ w
 imX : ∀ a v, I a = some v → ∀ o, ¬ fpO π o (M o) a.block
 le : B.I0.le I
 inew : ∀ a v, I a = some v → B.I0 a = some v ∨ B.w0.heap.size ≤ a.block ∨ B.S a.block

section
variable {B : Base} {I : Imm} {π : Pi} {M : Nat → Option AObj} {w : World}

/-- A step that touches the pieces T. -/
theorem SA.step (h : SA B I π M w) {π' : Pi} {J : Imm} {M' : Nat → Option AObj} {w' : World} (T : Nat → Prop) (hπ : π.le π') (hI : I.le J)
  (h1 : w'.os = w.os) (h2 : w'.tape = w.tape) (h3 : w'.output = w.output) (h4 : w.heap.size ≤ w'.heap.size)
  (h5 : ∀ k, k < w.heap.size → (∀ o, T o → ¬ fpO π o (M o) k) → w'.heap[k]? = w.heap[k]?)
  (hM : ∀ o, ¬ T o → M' o = M o) (hdom : ∀ o, ¬ T o → M o = none → π' o = none) (hdom' : ∀ o, T o → M' o = none → π' o = none)
  (hP : ∀ o, T o → atO π' J w' o (M' o))
  (hfp : ∀ o, T o → ∀ k, fpO π' o (M' o) k → k < w'.heap.size ∧ ((∃ o', T o' ∧ fpO π o' (M o') k) ∨ w.heap.size ≤ k))
  (hdis : ∀ o o', T o → T o' → o ≠ o' → ∀ k, fpO π' o (M' o) k → ¬ fpO π' o' (M' o') k)
  (hJ : J.at_ w') (hJn : ∀ a v, J a = some v → I a = some v ∨ (∃ o, T o ∧ fpO π o (M o) a.block) ∨ w.heap.size ≤ a.block)
  (hJX : ∀ a v, J a = some v → ∀ o, T o → ¬ fpO π' o (M' o) a.block) : SA B J π' M' w' := by
 have hold : ∀ o, ¬ T o → ∀ k, fpO π' o (M' o) k → fpO π o (M o) k := fun o ho k hk => by
  rw [hM o ho] at hk
  exact fpO.back hπ (h.res o) hk
 have hst : ∀ o, ¬ T o → ∀ k, fpO π o (M o) k → w'.heap[k]? = w.heap[k]? := fun o ho k hk => h5 k (h.own o k hk).1 (fun o' ho' hk' => h.dis o o' (fun e => ho (e ▸ ho')) k hk hk')
 refine ⟨⟨h1.trans h.evo.os, h2.trans h.evo.tape, h3.trans h.evo.output, Nat.le_trans h.evo.size h4, fun k hk hs => ?_⟩, fun o ho => ?_, fun o => ?_, fun o k hk => ?_, fun o o' hne k hk hk' => ?_, hJ, fun a v ha o hk => ?_, Imm.le_trans h.le hI, fun a v ha => ?_⟩
 ·rw [h5 k (Nat.lt_of_lt_of_le hk h.evo.size) (fun o _ ho => by
   rcases (h.own o k ho).2 with h6 | h6
   ·omega
   ·exact hs h6)]
  exact h.evo.blk k hk hs
 ·by_cases hT : T o
  ·exact hdom' o hT ho
  ·exact hdom o hT (by rw [← hM o hT]; exact ho)
 ·by_cases hT : T o
  ·exact hP o hT
  ·rw [hM o hT]
   exact (h.res o).mono hπ hI (hst o hT)
 ·by_cases hT : T o
  ·obtain ⟨h6, h7⟩ := hfp o hT k hk
   refine ⟨h6, ?_⟩
   rcases h7 with ⟨o', _, h8⟩ | h7
   ·exact (h.own o' k h8).2
   ·exact .inl (Nat.le_trans h.evo.size h7)
  ·have := h.own o k (hold o hT k hk)
   exact ⟨Nat.lt_of_lt_of_le this.1 h4, this.2⟩
 ·have key : ∀ o o', o ≠ o' → T o → ¬ T o' → ∀ k, fpO π' o (M' o) k → fpO π' o' (M' o') k → False := fun o o' hne hT hT' k hk hk' => by
   have h8 := hold o' hT' k hk'
   rcases (hfp o hT k hk).2 with ⟨o2, hT2, h9⟩ | h9
   ·exact h.dis o2 o' (fun e => hT' (e ▸ hT2)) k h9 h8
   ·have := (h.own o' k h8).1
    omega
  by_cases hT : T o
  ·by_cases hT' : T o'
   ·exact hdis o o' hT hT' hne k hk hk'
   ·exact key o o' hne hT hT' k hk hk'
  ·by_cases hT' : T o'
   ·exact key o' o (fun e => hne e.symm) hT' hT k hk' hk
   ·exact h.dis o o' hne k (hold o hT k hk) (hold o' hT' k hk')
 ·by_cases hT : T o
  ·exact hJX a v ha o hT hk
  ·have h8 := hold o hT _ hk
   rcases hJn a v ha with h9 | ⟨o', hT', h9⟩ | h9
   ·exact h.imX a v h9 o h8
   ·exact h.dis o' o (fun e => hT (e ▸ hT')) _ h9 h8
   ·have := (h.own o _ h8).1
    omega
 ·rcases hJn a v ha with h9 | ⟨o', hT', h9⟩ | h9
  ·exact h.inew a v h9
  ·exact .inr (h.own o' _ h9).2
  ·exact .inr (.inl (Nat.le_trans h.evo.size h9))

def updM (M : Nat → Option AObj) (o : Nat) (ob : Option AObj) : Nat → Option AObj := fun x => if x = o then ob else M x
theorem updM_self (M : Nat → Option AObj) (o : Nat) (ob : Option AObj) : updM M o ob o = ob := if_pos rfl
theorem updM_ne (M : Nat → Option AObj) {o x : Nat} (ob : Option AObj) (h : x ≠ o) : updM M o ob x = M x := if_neg h
def updP (π : Pi) (o : Nat) (p : Pl) : Pi := fun x => if x = o then some p else π x
theorem updP_self (π : Pi) (o : Nat) (p : Pl) : updP π o p o = some p := if_pos rfl
theorem updP_ne (π : Pi) {o x : Nat} (p : Pl) (h : x ≠ o) : updP π o p x = π x := if_neg h
theorem updP_le {π : Pi} {o : Nat} (h : π o = none) (p : Pl) : π.le (updP π o p) := fun x q hx => by
 by_cases e : x = o
 ·subst e; rw [h] at hx; cases hx
 ·rw [updP_ne π p e]; exact hx
theorem lk_upd (m : AMem) (o : Nat) (ob : AObj) : lk ((o, ob) :: m) = updM (lk m) o (some ob) := by
 funext x
 rw [lk_cons]
 unfold updM
 by_cases h : o = x
 ·rw [if_pos h, if_pos h.symm]
 ·rw [if_neg h, if_neg (fun e => h e.symm)]

/-- A new block of cells. -/
theorem SA.new (h : SA B I π M w) {o : Nat} (ho : M o = none) (ty : TypeId) {cs : List AC} {ys : List Value} (hc : rl (relC π I) cs ys) :
  SA B I (updP π o ⟨some ⟨w.heap.size, 0, none⟩, 0, 0⟩) (updM M o (some (.blk ty cs))) { w with heap := w.heap.push (.cells ys.toArray ty (0, 0)) } := by
 have hπ := updP_le (h.dom o ho) ⟨some ⟨w.heap.size, 0, none⟩, 0, 0⟩
 have hold : ∀ k, k < w.heap.size → (w.heap.push (.cells ys.toArray ty (0, 0)))[k]? = w.heap[k]? := fun k hk => by
  rw [Array.getElem?_push, if_neg (by omega)]
 have hfp : ∀ k, fpO (updP π o ⟨some ⟨w.heap.size, 0, none⟩, 0, 0⟩) o (some (.blk ty cs)) k → k = w.heap.size := fun k ⟨p, h1, h2⟩ => by
  rw [updP_self] at h1
  injection h1 with h1
  subst h1
  injection h2 with h2
  injection h2 with h2
  exact h2.symm
 refine h.step (fun x => x = o) hπ (Imm.le_refl _) rfl rfl rfl (by simp) (fun k hk _ => hold k hk) (fun x hx => updM_ne _ _ hx) (fun x hx hn => by rw [updP_ne _ _ hx]; exact h.dom x hn) ?_ ?_ ?_ ?_ ?_ (fun a v ha => .inl ha) ?_
 ·rintro x rfl hn
  rw [updM_self] at hn
  cases hn
 ·rintro x rfl
  rw [updM_self]
  exact ⟨_, w.heap.size, ys, updP_self _ _ _, rfl, hc.mono (fun _ _ => relC.ext hπ (Imm.le_refl _)), by simp⟩
 ·rintro x rfl k hk
  rw [updM_self] at hk
  have := hfp k hk
  subst this
  exact ⟨by simp, .inr (Nat.le_refl _)⟩
 ·rintro x y rfl rfl hne
  exact absurd rfl hne
 ·intro a v ha
  have hc := h.im a v ha
  rw [← hc]
  exact look_of_block (w := w) (hold _ (look_lt hc))
 ·rintro a v ha x rfl hk
  rw [updM_self] at hk
  have h1 := hfp _ hk
  have h2 := look_lt (h.im a v ha)
  omega

/-- A row that the call owns never turns from now on. -/
theorem SA.freeze (h : SA B I π M w) {o : Nat} {e : TypeId} {c : TC} {l : List c.I} (ho : M o = some (.row e c l)) : ∃ J, I.le J ∧ SA B J π (updM M o (some (.frz c l))) w := by
 have h0 := h.res o
 rw [ho] at h0
 obtain ⟨p, cs, hp, hn, hown, hr⟩ := h0
 have hlen : l.length ≤ 9223372036854775807 ∧ l.length ≤ p.c := by
  rcases hown.2 with ⟨e1, h2⟩ | ⟨g, cap, cur, e1, _, _, hc, hm, _⟩
  ·injection e1 with e1 e2 e3
   constructor <;> omega
  ·injection e1 with e1 e2 e3
   simp only [maxLen] at hm
   constructor <;> omega
 -- the cells that never turn from now on
 have key : ∃ C : Imm, C.at_ w ∧ (∀ a v, C a = some v → p.A = some ⟨a.block, 0, none⟩) ∧ ∀ J : Imm, I.le J → C.le J → Rd c.ty J p.A l := by
  rcases hown.2 with ⟨e1, h2⟩ | ⟨g, cap, cur, e1, _, hg, hc, hm, hs, ht⟩
  ·refine ⟨fun _ => none, (fun a v ha => by cases ha), (fun a v ha => by cases ha), fun J _ _ => ?_⟩
   have : l = [] := List.length_eq_zero_iff.1 h2
   subst this
   exact Rd.nil _ _ _
  ·injection e1 with e1 e2 e3
   refine ⟨rowImm g cs, fun a v ha => ?_, fun a v ha => ?_, fun J hI hC => ?_⟩
   ·obtain ⟨h1, h2⟩ := rowImm_some ha
    rw [h1, look_cell rfl, cell_of_row w g a.off cur e (0, 0) hg, ← h2, ← ht, List.getElem?_take, if_pos (by
     have := (List.getElem?_eq_some_iff.1 h2).1
     rw [hown.1] at this
     exact this)]
    simp
   ·obtain ⟨h1, _⟩ := rowImm_some ha
    rw [e1, h1]
   ·rw [e1]
    exact rd_of_reps (hr.ext hI) (fun j u hu => hC _ _ (by rw [rowImm_get]; exact hu)) hlen.1
 obtain ⟨C, hC, hCb, hRd⟩ := key
 have hfp : ∀ a v, C a = some v → fpO π o (M o) a.block := fun a v ha => by
  rw [ho]
  exact ⟨p, _, hp, hCb a v ha, rfl⟩
 have hno : ∀ a, I a = none ∨ C a = none := fun a => by
  cases h1 : I a with
  | none => exact .inl rfl
  | some v =>
   cases h2 : C a with
   | none => exact .inr rfl
   | some u => exact absurd (hfp a u h2) (h.imX a v h1 o)
 have hCle : C.le (I.or C) := fun a v ha => by
  rcases hno a with h1 | h1
  ·exact Imm.or_get h1 ha
  ·rw [h1] at ha; cases ha
 refine ⟨I.or C, Imm.le_or _ _, h.step (fun x => x = o) (Pi.le_refl _) (Imm.le_or _ _) rfl rfl rfl (Nat.le_refl _) (fun k hk _ => rfl) (fun x hx => updM_ne _ _ hx) (fun x hx hn => h.dom x hn) ?_ ?_ ?_ ?_ ?_ ?_ ?_⟩
 ·rintro x rfl hn'
  rw [updM_self] at hn'
  cases hn'
 ·rintro x rfl
  rw [updM_self]
  exact ⟨p, hp, hn, hlen.2, hRd _ (Imm.le_or _ _) hCle⟩
 ·rintro x rfl k hk
  rw [updM_self] at hk
  exact hk.elim
 ·rintro x y rfl rfl hne
  exact absurd rfl hne
 ·intro a v ha
  rcases Imm.or_new ha with h1 | ⟨_, h1⟩
  ·exact h.im a v h1
  ·exact hC a v h1
 ·intro a v ha
  rcases Imm.or_new ha with h1 | ⟨_, h1⟩
  ·exact .inl h1
  ·exact .inr (.inl ⟨o, rfl, hfp a v h1⟩)
 ·rintro a v ha x rfl hk
  rw [updM_self] at hk
  exact hk.elim
end
end Go.Proofs.YtijhdekfbjafgaaGreat.AM
namespace Go.Proofs.YtijhdekfbjafgaaGreat.AM
open Go Go.RowKit Go.Proofs.YtijhdekfbjafgaaGreat.RW

def Post (B : Base) (I : Imm) (π : Pi) (v : AV) (M : Nat → Option AObj) : Value → World → Prop :=
 fun y w => ∃ π' I', π.le π' ∧ I.le I' ∧ SA B I' π' M w ∧ relV π' I' v y

section
variable {P : Program} {B : Base} {I : Imm} {π : Pi} {M : Nat → Option AObj} {w : World}

theorem Does.val {s : Sem Value} {w w' : World} {y : Value} {N : Value → World → Prop} (h : s.run P w = .ok y w') (hN : N y w') : Does P (toNext s) w N := .inl ⟨y, w', .inl (run_toNext h), hN⟩
theorem Does.unit {s : Sem Unit} {w w' : World} {N : Value → World → Prop} (h : s.run P w = .ok () w') (hN : N undef w') : Does P (s.bind fun _ => .pure .skip) w N :=
 .inl ⟨undef, w', .inr ⟨by rw [Sem.run_bind', h]; rfl, rfl⟩, hN⟩
theorem Post.here {v : AV} {y : Value} (h : SA B I π M w) (hv : relV π I v y) : Post B I π v M y w := ⟨π, I, Pi.le_refl _, Imm.le_refl _, h, hv⟩

theorem szT_info {t : TypeId} {n : Nat} (h : szT P t = some n) : (P.info? t).map (·.size) = some n := by
 unfold szT at h
 split at h
 ·rename_i i hi
  injection h with h
  rw [hi, ← h]; rfl
 ·cases h
theorem aggT_true {t : TypeId} (h : aggT P t = some true) : ∃ d, P.underlying t = some d ∧ d.isRow = true := by
 unfold aggT at h
 split at h
 ·rename_i hu; exact ⟨_, hu, rfl⟩
 ·rename_i hu; exact ⟨_, hu, rfl⟩
 ·cases h
 ·cases h
theorem aggT_false {t : TypeId} (h : aggT P t = some false) (w : World) : (isAgg t).run P w = .ok false w := by
 unfold aggT at h
 split at h
 ·cases h
 ·cases h
 ·rename_i d h1 h2 hu
  unfold isAgg
  rw [Sem.run_bind, run_underlying hu w]
  cases d <;> first | rfl | exact absurd rfl (h1 _) | exact absurd rfl (h2 _ _)
 ·cases h

/-! ### loads -/
theorem rangeAt_drop {b q : Nat} {ys : List Value} (h : w.rangeAt b q ys) (n : Nat) : w.rangeAt b (q + n) (ys.drop n) := fun j v hv => by
 rw [List.getElem?_drop] at hv
 have := h _ _ hv
 rwa [← Nat.add_assoc] at this
theorem rangeAt_take {b q : Nat} {ys : List Value} (h : w.rangeAt b q ys) (n : Nat) : w.rangeAt b q (ys.take n) := fun j v hv => by
 rw [List.getElem?_take] at hv
 split at hv
 ·exact h _ _ hv
 ·cases hv
theorem load_part {t : TypeId} {cs : List AC} {off : Nat} {x : AW} (hx : partA P t cs off = some x) {b q : Nat} {ys : List Value} (hr : rl (relC π I) cs ys) (hw : w.rangeAt b q ys) :
  ∃ y, (Instr.loadAt t (.pointer (some ⟨b, q + off, none⟩))).run P w = .ok y w ∧ relW π I x y := by
 unfold partA at hx
 split at hx
 ·rename_i n ha hn
  cases hb : Nat.ble (off + n) cs.length with
  | false => rw [hb] at hx; cases hx
  | true =>
   rw [hb] at hx
   injection hx with hx
   subst hx
   have hle := Nat.le_of_ble_eq_true hb
   obtain ⟨d, hu, hd⟩ := aggT_true ha
   have hlen : ((ys.drop off).take n).length = n := by
    rw [List.length_take, List.length_drop, ← hr.len]; omega
   refine ⟨_, run_loadAt_mid w b (q + off) t ((ys.drop off).take n) d (rangeAt_take (rangeAt_drop hw off) n) hu hd (by rw [hlen]; exact szT_info hn), _, rfl, (hr.drop off).take n⟩
 ·rename_i hf _ ha
  split at hx
  ·rename_i a hc
   injection hx with hx
   subst hx
   obtain ⟨y, hy, hry⟩ := hr.get hc
   have hcell := hw off y hy
   refine ⟨y, ?_, hry⟩
   simp only [Instr.loadAt, Instr.sureAddr, Sem.run_bind, Sem.run_pure, Result.andThen_ok, loadVar, aggT_false ha, Bool.false_eq_true, if_false]
   show (load _).run P w = _
   unfold load
   simp only [Sem.run, hcell]
  ·cases hx
 ·cases hx

theorem atO_blk {o : Nat} {ty : TypeId} {cs : List AC} (h : SA B I π M w) (ho : M o = some (.blk ty cs)) : ∃ p g ys, π o = some p ∧ p.A = some ⟨g, 0, none⟩ ∧ rl (relC π I) cs ys ∧ w.heap[g]? = some (.cells ys.toArray ty (0, 0)) := by
 have := h.res o
 rw [ho] at this
 exact this
theorem rangeAt_blk {g : Nat} {ys : List Value} {ty : TypeId} (h : w.heap[g]? = some (.cells ys.toArray ty (0, 0))) : w.rangeAt g 0 ys := fun j v hv => by
 rw [Nat.zero_add]
 unfold World.cell?
 simp [h, hv]
theorem atO_row {o : Nat} {e : TypeId} {c : TC} {l : List c.I} (h : SA B I π M w) (ho : M o = some (.row e c l)) : ∃ p cs, π o = some p ∧ p.n = l.length ∧ w.ownsRow 0 e c.sz (.slice p.A p.n p.c) l.length cs ∧ Reps c.ty I l cs := by
 have := h.res o
 rw [ho] at this
 exact this
theorem atO_frz {o : Nat} {c : TC} {l : List c.I} (h : SA B I π M w) (ho : M o = some (.frz c l)) : ∃ p, π o = some p ∧ p.n = l.length ∧ l.length ≤ p.c ∧ Rd c.ty I p.A l := by
 have := h.res o
 rw [ho] at this
 exact this
/-- An element of a row of the call's own. -/
theorem row_elem {e : TypeId} {c : TC} {l : List c.I} {A : Option Addr} {n cap : Nat} {cs : List Value} {g : Nat} (hA : A = some ⟨g, 0, none⟩) (ho : w.ownsRow 0 e c.sz (.slice A n cap) l.length cs) (hr : Reps c.ty I l cs) {i : Nat} (hi : i < l.length) :
  ∃ ys, c.ty.K I (l.getD i c.dflt) ys ∧ w.rangeAt g (i * c.sz) ys := by
 obtain ⟨ys, hk, hc⟩ := hr.get i _ (List.getElem?_eq_getElem hi)
 refine ⟨ys, by rw [List.getD_eq_getElem?_getD, List.getElem?_eq_getElem hi]; exact hk, fun j v hv => ?_⟩
 have h1 := hc j v hv
 rw [c.ty_sz] at h1
 have hn : n = l.length := by
  rcases ho.2 with ⟨e1, h2⟩ | ⟨g', cap', cur, e1, _⟩
  ·injection e1 with _ e1 _; omega
  ·injection e1
 subst hA; subst hn
 rw [ho.cellAt _ (by
  have := (List.getElem?_eq_some_iff.1 h1).1
  rw [ho.1] at this
  exact this)]
 exact h1
theorem frz_elem {c : TC} {l : List c.I} {g : Nat} (hI : I.at_ w) (hr : Rd c.ty I (some ⟨g, 0, none⟩) l) {i : Nat} (hi : i < l.length) :
  ∃ ys, c.ty.K I (l.getD i c.dflt) ys ∧ (∀ j u, ys[j]? = some u → I ⟨g, i * c.sz + j, none⟩ = some u) ∧ w.rangeAt g (i * c.sz) ys := by
 obtain ⟨g', o', ys, e, hk, hc⟩ := hr.get c.dflt (i : Int) (by omega) (by omega)
 injection e with e
 injection e with e1 e2
 subst e1; subst e2
 simp only [Int.toNat_natCast, Nat.zero_add, c.ty_sz] at hk hc
 exact ⟨ys, hk, hc, fun j u hu => by rw [← look_cell rfl]; exact hI _ _ (hc j u hu)⟩

theorem ldA_ok {m : AMem} (h : SA B I π (lk m) w) {t : TypeId} {a : AC} {y : Value} (ha : relC π I a y) {v : AV} {ws : AMem} {rs : List Nat} (hx : Tr.Ex m (ldA P t a) v ws rs) :
  ws = [] ∧ ∃ y', (Instr.loadAt t y).run P w = .ok y' w ∧ relV π I v y' := by
 unfold ldA at hx
 split at hx
 ·rename_i o off
  cases hx with
  | look hx =>
   dsimp only at hx
   split at hx
   ·rename_i ty cs ho
    split at hx
    ·rename_i x hp
     cases hx
     obtain ⟨p, g, h1, h2, rfl⟩ := ha
     obtain ⟨p', g', ys, h3, h4, h5, h6⟩ := atO_blk h ho
     rw [h1] at h3
     injection h3 with h3
     subst h3
     rw [h2] at h4
     injection h4 with h4
     injection h4 with h4
     subst h4
     obtain ⟨y', hy, hr⟩ := load_part hp h5 (rangeAt_blk h6)
     rw [Nat.zero_add] at hy
     exact ⟨rfl, y', hy, hr⟩
    ·cases hx
   ·cases hx
 ·rename_i c x off
  split at hx
  ·rename_i z hp
   cases hx
   obtain ⟨g, q, ys, rfl, hk, hc⟩ := ha
   obtain ⟨y', hy, hr⟩ := load_part (w := w) hp (TC.cells_rel c x ys hk) (fun j u hu => by rw [← look_cell rfl]; exact h.im _ _ (hc j u hu))
   exact ⟨rfl, y', hy, hr⟩
  ·cases hx
 ·rename_i o z i off
  obtain ⟨p, g, h1, h2, h3, rfl⟩ := ha
  cases hx with
  | look hx =>
   dsimp only at hx
   split at hx
   ·rename_i e c l ho
    cases hz : Nat.beq c.sz z with
    | false => rw [hz] at hx; cases hx
    | true =>
     rw [hz] at hx
     have hz := Nat.eq_of_beq_eq_true hz
     subst hz
     simp only [cond_true] at hx
     split at hx
     ·rename_i x hp
      cases hx
      obtain ⟨p', cs, h4, h5, h6, h7⟩ := atO_row h ho
      rw [h1] at h4
      injection h4 with h4
      subst h4
      obtain ⟨ys, hk, hw⟩ := row_elem h2 h6 h7 (h5 ▸ h3)
      obtain ⟨y', hy, hr⟩ := load_part hp (TC.cells_rel c _ ys hk) hw
      exact ⟨rfl, y', hy, hr⟩
     ·cases hx
   ·rename_i c l ho
    cases hz : Nat.beq c.sz z with
    | false => rw [hz] at hx; cases hx
    | true =>
     rw [hz] at hx
     have hz := Nat.eq_of_beq_eq_true hz
     subst hz
     simp only [cond_true] at hx
     split at hx
     ·rename_i x hp
      cases hx
      obtain ⟨p', h4, h5, h6, h7⟩ := atO_frz h ho
      rw [h1] at h4
      injection h4 with h4
      subst h4
      rw [h2] at h7
      obtain ⟨ys, hk, _, hw⟩ := frz_elem h.im h7 (h5 ▸ h3)
      obtain ⟨y', hy, hr⟩ := load_part hp (TC.cells_rel c _ ys hk) hw
      exact ⟨rfl, y', hy, hr⟩
     ·cases hx
   ·cases hx
 ·cases hx

/-! ### places -/
theorem run_fieldAt {s : TypeId} {fs : Array Field} (hu : P.underlying s = some (.struct fs)) {f : Nat} {fd : Field} (hf : fs[f]? = some fd) {n : Nat} (hz : szT P fd.type = some (n + 1)) (g q : Nat) :
  (Instr.fieldAt s (.pointer (some ⟨g, q, none⟩)) f).run P w = .ok (.pointer (some ⟨g, q + fd.offset, none⟩)) w := by
 obtain ⟨i, hi, hs⟩ := Option.map_eq_some_iff.1 (szT_info hz)
 simp [Instr.fieldAt, run_underlying hu, hf, Instr.sureAddr, fieldPlace, sizeOf, typeInfo, hi, hs, Addr.add_mid]
theorem fldA_ok {m : AMem} {s : TypeId} {f : Nat} {a : AC} {y : Value} (ha : relC π I a y) {v : AV} {ws : AMem} {rs : List Nat} (hx : Tr.Ex m (fldA P s a f) v ws rs) :
  ws = [] ∧ ∃ y', (Instr.fieldAt s y f).run P w = .ok y' w ∧ relV π I v y' := by
 unfold fldA at hx
 split at hx
 ·rename_i fs hu
  split at hx
  ·rename_i fd hf
   split at hx
   ·rename_i n hz
    split at hx
    ·cases hx
     obtain ⟨p, g, h1, h2, rfl⟩ := ha
     exact ⟨rfl, _, run_fieldAt hu hf hz g _, p, g, h1, h2, rfl⟩
    ·cases hx
     obtain ⟨g, q, cs, rfl, h⟩ := ha
     exact ⟨rfl, _, run_fieldAt hu hf hz g _, g, q, cs, by rw [Nat.add_assoc], h⟩
    ·cases hx
     obtain ⟨p, g, h1, h2, h3, rfl⟩ := ha
     exact ⟨rfl, _, run_fieldAt hu hf hz g _, p, g, h1, h2, h3, by rw [Nat.add_assoc]⟩
    ·cases hx
   ·cases hx
  ·cases hx
 ·cases hx
theorem inb_spec {i : Int} {n : Nat} (h : inb i n = true) : 0 ≤ i ∧ i < (n : Int) := by
 unfold inb at h
 exact of_decide_eq_true h
theorem idxA_ok {m : AMem} (h : SA B I π (lk m) w) {t : TypeId} {k : IntKind} {i : Int} {a : AC} {y : Value} (ha : relC π I a y) {v : AV} {ws : AMem} {rs : List Nat} (hx : Tr.Ex m (idxA P t a i) v ws rs) :
  ws = [] ∧ ∃ y', (Instr.indexAt t y (.int k i)).run P w = .ok y' w ∧ relV π I v y' := by
 unfold idxA at hx
 split at hx
 ·rename_i e hu
  split at hx
  ·rename_i o n
   obtain ⟨p, g, hp, hg, rfl⟩ := ha
   cases hz : (szT P e == some 1) with
   | false => rw [hz] at hx; cases hx
   | true =>
    rw [hz] at hx
    have hz : szT P e = some 1 := by simpa using hz
    simp only [cond_true] at hx
    generalize hb : inb i n = b at hx
    cases hx with
    | chk hx =>
     obtain ⟨h0, h1⟩ := inb_spec hb
     cases hx
     have hr := RW.run_indexAt_slice (P := P) hu (szT_info hz) k i g 0 n n h0 h1 w
     rw [Nat.zero_add, Nat.mul_one] at hr
     exact ⟨rfl, _, hr, p, g, hp, hg, rfl⟩
  ·rename_i f c l
   obtain ⟨A, cp, rfl, _, _, hr⟩ := ha
   cases hz : (szT P e == some c.sz) with
   | false => rw [hz] at hx; cases hx
   | true =>
    rw [hz] at hx
    have hz : szT P e = some c.sz := by simpa using hz
    simp only [cond_true] at hx
    generalize hb : inb i l.length = b at hx
    cases hx with
    | chk hx =>
     obtain ⟨h0, h1⟩ := inb_spec hb
     cases hx
     obtain ⟨g, q, ys, rfl, hk, hc⟩ := hr.get c.dflt i h0 h1
     exact ⟨rfl, _, RW.run_indexAt_slice hu (szT_info hz) k i g q _ _ h0 h1 w, g, q + i.toNat * c.sz, ys, rfl, hk, fun j u hu => by rw [← c.ty_sz]; exact hc j u hu⟩
  ·rename_i o
   obtain ⟨p, hp, rfl⟩ := ha
   cases hx with
   | look hx =>
    dsimp only at hx
    split at hx
    ·rename_i e' c l ho
     cases hz : (szT P e == some c.sz) with
     | false => rw [hz] at hx; cases hx
     | true =>
      rw [hz] at hx
      have hz : szT P e = some c.sz := by simpa using hz
      simp only [cond_true] at hx
      generalize hb : inb i l.length = b at hx
      cases hx with
      | chk hx =>
       obtain ⟨h0, h1⟩ := inb_spec hb
       cases hx
       obtain ⟨p', cs, h4, h5, h6, h7⟩ := atO_row h ho
       rw [hp] at h4
       injection h4 with h4
       subst h4
       have hg : ∃ g, p.A = some ⟨g, 0, none⟩ := by
        rcases h6.2 with ⟨_, h2⟩ | ⟨g, cap', cur, e1, _⟩
        ·omega
        ·injection e1 with e1; exact ⟨g, e1⟩
       obtain ⟨g, hg⟩ := hg
       have hr := RW.run_indexAt_slice (P := P) hu (szT_info hz) k i g 0 p.n p.c h0 (by omega) w
       rw [Nat.zero_add] at hr
       rw [hg]
       exact ⟨rfl, _, hr, p, g, hp, hg, by omega, by rw [Nat.add_zero]⟩
    ·rename_i c l ho
     cases hz : (szT P e == some c.sz) with
     | false => rw [hz] at hx; cases hx
     | true =>
      rw [hz] at hx
      have hz : szT P e = some c.sz := by simpa using hz
      simp only [cond_true] at hx
      generalize hb : inb i l.length = b at hx
      cases hx with
      | chk hx =>
       obtain ⟨h0, h1⟩ := inb_spec hb
       cases hx
       obtain ⟨p', h4, h5, h6, h7⟩ := atO_frz h ho
       rw [hp] at h4
       injection h4 with h4
       subst h4
       obtain ⟨g, q, ys, hg, hk, hc⟩ := h7.get c.dflt i h0 h1
       rw [hg]
       exact ⟨rfl, _, RW.run_indexAt_slice hu (szT_info hz) k i g q _ _ h0 (by omega) w, g, q + i.toNat * c.sz, ys, rfl, hk, fun j u hu => by rw [← c.ty_sz]; exact hc j u hu⟩
    ·cases hx
  ·cases hx
 ·cases hx
end
end Go.Proofs.YtijhdekfbjafgaaGreat.AM
namespace Go.Proofs.YtijhdekfbjafgaaGreat.AM
open Go Go.RowKit Go.Proofs.YtijhdekfbjafgaaGreat.RW

section
variable {P : Program} {B : Base} {I : Imm} {π : Pi} {M : Nat → Option AObj} {w : World}

/-! ### values and their cells -/
theorem cells_one {u : Value} (h : u.oneCell' = true) : u.cells = #[u] := by cases u <;> first | rfl | cases h
theorem relW.cells {a : AW} {u : Value} (h : relW π I a u) : rl (relC π I) (cellsW a) u.cells.toList := by
 cases a with
 | c a =>
  have h : relC π I a u := h
  rw [cells_one h.one]
  exact ⟨h, trivial⟩
 | agg l =>
  obtain ⟨ys, rfl, h⟩ := h
  exact h
theorem relV.cells {v : AV} {l : List AC} (hv : cellsA v = some l) {u : Value} (h : relV π I v u) : rl (relC π I) l u.cells.toList := by
 cases v with
 | w x =>
  injection hv with hv
  subst hv
  exact relW.cells h
 | tup l => cases hv
theorem rl_v {l : List Value} (h : l.all (·.oneCell') = true) : rl (relC π I) (l.map AC.v) l := by
 induction l with
 | nil => trivial
 | cons x l ih =>
  rw [List.all_cons, Bool.and_eq_true] at h
  exact ⟨⟨rfl, h.1⟩, ih h.2⟩
theorem rel_backC {v : Value} (h : okW v = true) : relW π I (backC v) v := by
 unfold okW at h
 unfold backC
 split at h
 ·exact ⟨_, rfl, rl_v h⟩
 ·cases h
 ·rename_i h1 h2
  split
  ·exact absurd rfl (h1 _)
  ·refine ⟨rfl, ?_⟩
   cases v <;> first | rfl | exact absurd rfl (h1 _) | exact absurd rfl (h2 _)
theorem rel_back {v : Value} (h : okV v = true) : relV π I (back v) v := by
 unfold okV at h
 unfold back
 split at h
 ·refine ⟨_, rfl, ?_⟩
  rename_i vs
  generalize vs.toList = l at h
  induction l with
  | nil => trivial
  | cons x l ih =>
   rw [List.all_cons, Bool.and_eq_true] at h
   exact ⟨rel_backC h.1, ih h.2⟩
 ·exact rel_backC h
theorem exactCs_rel : ∀ {l : List AC} {vs ys : List Value}, exactCs l = some vs → rl (relC π I) l ys → ys = vs
 | [], vs, [], h, _ => by injection h
 | .v x :: r, vs, y :: ys, h, hr => by
  simp only [exactCs] at h
  split at h
  ·rename_i l hl
   injection h with h
   subst h
   rw [exactCs_rel hl hr.2, hr.1.1]
  ·cases h
 | [], _, _ :: _, _, h => h.elim
 | .v _ :: _, _, [], _, h => h.elim
 | .rd .. :: _, _, _, h, _ => by cases h
 | .sl .. :: _, _, _, h, _ => by cases h
 | .ptr .. :: _, _, _, h, _ => by cases h
 | .el .. :: _, _, _, h, _ => by cases h
 | .pr .. :: _, _, _, h, _ => by cases h
 | .fn .. :: _, _, _, h, _ => by cases h
theorem exact_rel {v : AV} {x y : Value} (h : exact v = some x) (hr : relV π I v y) : y = x := by
 unfold exact at h
 split at h
 ·rename_i a
  unfold exactW at h
  split at h
  ·injection h with h
   subst h
   exact hr.1
  ·rename_i l
   obtain ⟨ys, rfl, hr⟩ := hr
   split at h
   ·rename_i vs hl
    injection h with h
    rw [← h, exactCs_rel hl hr]
   ·cases h
  ·cases h
 ·cases h
theorem zeroT_spec {t : TypeId} {cs : List AC} (h : zeroT P t = some cs) : ∃ i z, P.info? t = some i ∧ i.zero = some z ∧ cs = z.cells.toList.map AC.v ∧ z.cells.toList.all (·.oneCell') = true := by
 unfold zeroT at h
 split at h
 ·rename_i i hi
  split at h
  ·rename_i z hz
   cases hb : z.cells.toList.all (·.oneCell') with
   | false => rw [hb] at h; cases h
   | true =>
    rw [hb] at h
    injection h with h
    exact ⟨i, z, hi, hz, h.symm, hb⟩
  ·cases h
 ·cases h

/-! ### new cells -/
theorem freshTr_inv {ρ : Type} {m : AMem} {nb : Nat} {t : Tr ρ} {r : ρ} {ws : AMem} {rs : List Nat} (h : Tr.Ex m (freshTr nb t) r ws rs) : lk m nb = none ∧ ∃ rs', Tr.Ex m t r ws rs' := by
 unfold freshTr at h
 cases h with
 | look h =>
  dsimp only at h
  split at h
  ·rename_i ho; exact ⟨ho, _, h⟩
  ·cases h
theorem new_ok {m : AMem} (h : SA B I π (lk m) w) {o : Nat} (ho : lk m o = none) (ty : TypeId) {cs : List AC} {ys : List Value} (hc : rl (relC π I) cs ys) :
  ∃ w', (newRow ty ys.toArray).run P w = .ok ⟨w.heap.size, 0, none⟩ w' ∧ Post B I π (ac (.ptr o 0)) (lk ([(o, .blk ty cs)] ++ m)) (.pointer (some ⟨w.heap.size, 0, none⟩)) w' := by
 refine ⟨_, rfl, _, I, updP_le (h.dom o ho) ⟨some ⟨w.heap.size, 0, none⟩, 0, 0⟩, Imm.le_refl _, ?_, ⟨some ⟨w.heap.size, 0, none⟩, 0, 0⟩, w.heap.size, updP_self _ _ _, rfl, rfl⟩
 show SA B I _ (lk ((o, .blk ty cs) :: m)) _
 rw [lk_upd]
 exact h.new ho ty hc
/-! ### stores -/
theorem splice_ok {α β : Type} {R : α → β → Prop} {cs new : List α} {off : Nat} {ys ns : List β} (hr : rl R cs ys) (hn : rl R new ns) (hle : off + new.length ≤ cs.length) :
  rl R (cs.take off ++ (new ++ cs.drop (off + new.length))) (ys.take off ++ (ns ++ ys.drop (off + ns.length))) := by
 rw [hn.len]
 exact (hr.take off).app (hn.app (hr.drop _))
theorem setCells_spec (b : Nat) : ∀ (news : List Value) (o : Nat) (ys : List Value) (ty : TypeId) (w : World), o + news.length ≤ ys.length → w.heap[b]? = some (.cells ys.toArray ty (0, 0)) →
  (w.setCells b o news).heap[b]? = some (.cells (ys.take o ++ (news ++ ys.drop (o + news.length))).toArray ty (0, 0)) ∧ (∀ k, k ≠ b → (w.setCells b o news).heap[k]? = w.heap[k]?) ∧ (w.setCells b o news).os = w.os ∧ (w.setCells b o news).tape = w.tape ∧ (w.setCells b o news).output = w.output ∧ (w.setCells b o news).heap.size = w.heap.size
 | [], o, ys, ty, w, hl, h => by
  refine ⟨?_, fun _ _ => rfl, rfl, rfl, rfl, rfl⟩
  simpa [World.setCells] using h
 | v :: r, o, ys, ty, w, hl, h => by
  have hl' : o + 1 + r.length ≤ ys.length := by simp at hl; omega
  have h1 : (w.setCell ⟨b, o, none⟩ v).heap[b]? = some (.cells (ys.set o v).toArray ty (0, 0)) := by
   rw [heap_setCell_same w b o _ ty v h]
   simp
  obtain ⟨i1, i2, i3, i4, i5, i6⟩ := setCells_spec b r (o + 1) (ys.set o v) ty (w.setCell ⟨b, o, none⟩ v) (by simpa using hl') h1
  refine ⟨?_, fun k hk => ?_, i3, i4, i5, by rw [World.setCells, i6]; simp [World.setCell]⟩
  ·rw [World.setCells, i1]
   have e1 : (ys.set o v).take (o + 1) = ys.take o ++ [v] := by
    rw [List.take_add_one, List.take_set_of_le (Nat.le_refl _), List.getElem?_set_self (by omega)]
    rfl
   have e2 : (ys.set o v).drop (o + 1 + r.length) = ys.drop (o + (v :: r).length) := by
    rw [List.drop_set_of_lt (by omega)]
    congr 1
    simp; omega
   rw [e1, e2]
   simp
  ·rw [World.setCells, i2 k hk]
   exact heap_setCell_other w ⟨b, o, none⟩ k v hk
theorem storeAt_cells {t : TypeId} {g q : Nat} {u : Value} {n : Nat} (hn : szT P t = some n) (hl : u.cells.size = n) (h1 : ∀ x ∈ u.cells.toList, x.oneCell' = true) (ht : w.there g q n) :
  (Instr.storeAt t (.pointer (some ⟨g, q, none⟩)) u).run P w = .ok () (w.setCells g q u.cells.toList) := by
 have hs := run_storeVar_mid (P := P) w g q t u.cells (by rw [hl]; exact ht) (by rw [hl]; exact szT_info hn) (by
  rw [Array.all_eq_true_iff_forall_mem]
  exact fun x hx => h1 x (by simpa using hx))
 simp only [Instr.storeAt, Instr.sureAddr, Sem.run_bind, Sem.run_pure, Result.andThen_ok]
 exact hs
theorem there_of {g : Nat} {ys : List Value} {ty : TypeId} (h : w.heap[g]? = some (.cells ys.toArray ty (0, 0))) {q n : Nat} (hl : q + n ≤ ys.length) : w.there g q n := fun j hj => by
 refine ⟨?_, ?_⟩
 ·unfold World.cell?
  simp [h]
  omega
 ·unfold World.frozen?
  simp [h]

/-- A block of cells is written. -/
theorem SA.setB (h : SA B I π M w) {o : Nat} {ty : TypeId} {cs new : List AC} (ho : M o = some (.blk ty cs)) {p : Pl} {g : Nat} (hp : π o = some p) (hA : p.A = some ⟨g, 0, none⟩) {ns : List Value} (hn : rl (relC π I) new ns) {off : Nat} (hle : off + new.length ≤ cs.length) :
  SA B I π (updM M o (some (.blk ty (cs.take off ++ (new ++ cs.drop (off + new.length)))))) (w.setCells g off ns) := by
 obtain ⟨p', g', ys, h3, h4, h5, h6⟩ := atO_blk h ho
 rw [hp] at h3
 injection h3 with h3
 subst h3
 rw [hA] at h4
 injection h4 with h4
 injection h4 with h4
 subst h4
 have hle' : off + ns.length ≤ ys.length := by rw [← hn.len, ← h5.len]; exact hle
 obtain ⟨i1, i2, i3, i4, i5, i6⟩ := setCells_spec g ns off ys ty w hle' h6
 have hfp : fpO π o (M o) g := by rw [ho]; exact ⟨p, hp, hA⟩
 refine h.step (fun x => x = o) (Pi.le_refl _) (Imm.le_refl _) i3 i4 i5 (by rw [i6]; exact Nat.le_refl _) (fun k hk hk' => i2 k (fun e => hk' o rfl (e ▸ hfp))) (fun x hx => updM_ne _ _ hx) (fun x hx hn => h.dom x hn) ?_ ?_ ?_ ?_ ?_ (fun a v ha => .inl ha) ?_
 ·rintro x rfl hn
  rw [updM_self] at hn
  cases hn
 ·rintro x rfl
  rw [updM_self]
  exact ⟨p, g, _, hp, hA, splice_ok h5 hn hle, i1⟩
 ·rintro x rfl k hk
  rw [updM_self] at hk
  obtain ⟨p', h7, h8⟩ := hk
  rw [hp] at h7
  injection h7 with h7
  subst h7
  rw [hA] at h8
  injection h8 with h8
  injection h8 with h8
  subst h8
  exact ⟨by rw [i6]; exact (h.own _ _ hfp).1, .inl ⟨_, rfl, hfp⟩⟩
 ·rintro x y rfl rfl hne
  exact absurd rfl hne
 ·intro a v ha
  have hc := h.im a v ha
  rw [← hc]
  exact look_of_block (w := w) (i2 _ (fun e => h.imX a v ha o (e ▸ hfp)))
 ·intro a v ha x hx hk
  rw [hx, updM_self] at hk
  exact h.imX a v ha o (by rw [ho]; exact hk)
theorem SA.congr {M' : Nat → Option AObj} (h : SA B I π M w) (e : ∀ o, M o = M' o) : SA B I π M' w := by
 have : M = M' := funext e
 exact this ▸ h

/-- Rows that are frozen on the way: each was the call's own. -/
def FzOk (fz m : AMem) : Prop := ∀ o ob, lk fz o = some ob → ∃ e c l, ob = .frz c l ∧ lk m o = some (.row e c l)
theorem FzOk.nil (m : AMem) : FzOk [] m := fun _ _ h => by cases h
theorem freeze1 {m fz : AMem} (h : SA B I π (lk (fz ++ m)) w) (hf : FzOk fz m) {o : Nat} {e : TypeId} {c : TC} {l : List c.I} (ho : lk m o = some (.row e c l)) :
  ∃ J, I.le J ∧ SA B J π (lk (((o, .frz c l) :: fz) ++ m)) w ∧ FzOk ((o, .frz c l) :: fz) m := by
 have hf' : FzOk ((o, .frz c l) :: fz) m := fun x ob hx => by
  rw [lk_cons] at hx
  by_cases hxo : o = x
  ·rw [if_pos hxo] at hx
   injection hx with hx
   subst hxo
   exact ⟨e, c, l, hx.symm, ho⟩
  ·rw [if_neg hxo] at hx
   exact hf x ob hx
 cases hlk : lk fz o with
 | none =>
  have : lk (fz ++ m) o = some (.row e c l) := by rw [lk_append, hlk, ho]; rfl
  obtain ⟨J, hJ, hs⟩ := h.freeze this
  refine ⟨J, hJ, ?_, hf'⟩
  rw [List.cons_append, lk_upd]
  exact hs
 | some ob =>
  obtain ⟨e', c', l', rfl, ho'⟩ := hf o ob hlk
  rw [ho] at ho'
  injection ho' with ho'
  injection ho' with _ h1 h2
  subst h1
  have h2 := eq_of_heq h2
  subst h2
  refine ⟨I, Imm.le_refl _, ?_, hf'⟩
  refine h.congr (fun x => ?_)
  rw [List.cons_append, lk_cons]
  by_cases hxo : o = x
  ·rw [if_pos hxo, ← hxo, lk_append, hlk]; rfl
  ·rw [if_neg hxo]
theorem rd_of_frz {m : AMem} (h : SA B I π (lk m) w) {o : Nat} {c : TC} {l : List c.I} (ho : lk m o = some (.frz c l)) {y : Value} (hy : relC π I (.sl o) y) : relC π I (.rd false c l) y := by
 obtain ⟨p, hp, rfl⟩ := hy
 obtain ⟨p', h1, h2, h3, h4⟩ := atO_frz h ho
 rw [hp] at h1
 injection h1 with h1
 subst h1
 exact ⟨p.A, p.c, by rw [h2], h3, (fun e => by cases e), h4⟩
theorem fzCs_ok {ρ : Type} {m : AMem} : ∀ {l : List AC} {s : Sg} {k : List AC → Sg → Tr ρ} {r : ρ} {ws : AMem} {rs : List Nat} {I : Imm} {ys : List Value}, Tr.Ex m (fzCs l s k) r ws rs → SA B I π (lk (s.fz ++ m)) w → FzOk s.fz m → rl (relC π I) l ys →
  ∃ l' s' J rs', Tr.Ex m (k l' s') r ws rs' ∧ I.le J ∧ SA B J π (lk (s'.fz ++ m)) w ∧ FzOk s'.fz m ∧ rl (relC π J) l' ys ∧ s'.b = s.b := by
 intro l
 induction l with
 | nil => intro s k r ws rs I ys hx hs hf hr; exact ⟨[], s, I, rs, hx, Imm.le_refl _, hs, hf, hr, rfl⟩
 | cons a l ih =>
  intro s k r ws rs I ys hx hs hf hr
  cases ys with
  | nil => exact hr.elim
  | cons y ys =>
   have plain : Tr.Ex m (fzCs l s fun az s => k (a :: az) s) r ws rs → ∃ l' s' J rs', Tr.Ex m (k l' s') r ws rs' ∧ I.le J ∧ SA B J π (lk (s'.fz ++ m)) w ∧ FzOk s'.fz m ∧ rl (relC π J) l' (y :: ys) ∧ s'.b = s.b := by
    intro hx2
    obtain ⟨l', s', J', rs', h1, h2, h3, h4, h5, h6⟩ := ih hx2 hs hf hr.2
    exact ⟨_, s', J', rs', h1, h2, h3, h4, ⟨relC.ext (Pi.le_refl _) h2 hr.1, h5⟩, h6⟩
   cases a with
   | sl o =>
    simp only [fzCs] at hx
    cases hx with
    | look hx =>
     dsimp only at hx
     split at hx
     ·rename_i e c l0 ho
      obtain ⟨J, hJ, hs', hf'⟩ := freeze1 hs hf ho
      obtain ⟨l', s', J', rs', h1, h2, h3, h4, h5, h6⟩ := ih (s := ⟨s.b, (o, .frz c l0) :: s.fz⟩) hx hs' hf' (hr.2.mono fun _ _ => relC.ext (Pi.le_refl _) hJ)
      refine ⟨_, s', J', rs', h1, Imm.le_trans hJ h2, h3, h4, ⟨?_, h5⟩, h6⟩
      refine relC.ext (Pi.le_refl _) h2 (rd_of_frz hs' (o := o) ?_ (relC.ext (Pi.le_refl _) hJ hr.1))
      rw [List.cons_append, lk_cons, if_pos rfl]
     ·rename_i c l0 ho
      have hno : lk s.fz o = none := by
       cases hq : lk s.fz o with
       | none => rfl
       | some ob =>
        obtain ⟨e', c', l', _, h2⟩ := hf o ob hq
        rw [ho] at h2
        cases h2
      obtain ⟨l', s', J', rs', h1, h2, h3, h4, h5, h6⟩ := ih hx hs hf hr.2
      refine ⟨_, s', J', rs', h1, h2, h3, h4, ⟨?_, h5⟩, h6⟩
      refine relC.ext (Pi.le_refl _) h2 (rd_of_frz hs (o := o) ?_ hr.1)
      rw [lk_append, hno, ho]; rfl
     ·cases hx
   | _ => exact plain hx
end
end Go.Proofs.YtijhdekfbjafgaaGreat.AM
namespace Go.Proofs.YtijhdekfbjafgaaGreat.AM
open Go Go.RowKit Go.Proofs.YtijhdekfbjafgaaGreat.RW

section
variable {P : Program} {B : Base} {I : Imm} {π : Pi} {M : Nat → Option AObj} {w : World}

/-! ### parts over cells -/
theorem fold_set (off : Nat) : ∀ (l : List Value) (k : Nat) (ys : List Value), off + k + l.length ≤ ys.length →
  (l.zipIdx k).foldl (fun (cs : Array Value) p => cs.setIfInBounds (off + p.2) p.1) ys.toArray = (ys.take (off + k) ++ (l ++ ys.drop (off + k + l.length))).toArray
 | [], k, ys, h => by simp
 | v :: r, k, ys, h => by
  have h1 : off + k + 1 + r.length ≤ ys.length := by simp at h; omega
  rw [List.zipIdx_cons, List.foldl_cons]
  have e0 : ys.toArray.setIfInBounds (off + k) v = (ys.set (off + k) v).toArray := by simp
  rw [e0, fold_set off r (k + 1) (ys.set (off + k) v) (by rw [List.length_set]; omega)]
  have e1 : (ys.set (off + k) v).take (off + (k + 1)) = ys.take (off + k) ++ [v] := by
   rw [← Nat.add_assoc, List.take_add_one, List.take_set_of_le (Nat.le_refl _), List.getElem?_set_self (by omega)]
   rfl
  have e2 : (ys.set (off + k) v).drop (off + (k + 1) + r.length) = ys.drop (off + k + (v :: r).length) := by
   rw [List.drop_set_of_lt (by omega)]
   congr 1
   simp; omega
  rw [e1, e2]
  simp
theorem fill_step (off : Nat) (v : Value) (ys : List Value) (h : off + v.cells.toList.length ≤ ys.length) :
  v.cells.zipIdx.foldl (fun cs (c, j) => cs.setIfInBounds (off + j) c) ys.toArray = (ys.take off ++ (v.cells.toList ++ ys.drop (off + v.cells.toList.length))).toArray := by
 have := fold_set off v.cells.toList 0 ys (by simpa using h)
 rw [← Array.foldl_toList]
 simpa using this
theorem fill_ok {place : Nat → Option (Nat × Nat)} : ∀ {parts : List (Nat × Option AV)} {vs : List (Nat × Value)} {cs cs' : List AC} {ys : List Value}, rl (fun p q => p.1 = q.1 ∧ ∃ av, p.2 = some av ∧ relV π I av q.2) parts vs →
  fillA place cs parts = some cs' → rl (relC π I) cs ys → ∃ ys', Instr.fill place ys.toArray vs = some ys'.toArray ∧ rl (relC π I) cs' ys'
 | [], [], cs, cs', ys, _, h, hr => by
  simp only [fillA] at h
  injection h with h
  subst h
  exact ⟨ys, rfl, hr⟩
 | [], _ :: _, _, _, _, h, _, _ => h.elim
 | _ :: _, [], _, _, _, h, _, _ => h.elim
 | (i, v) :: r, (i', u) :: r', cs, cs', ys, hp, h, hr => by
  obtain ⟨⟨e1, av, e2, hv⟩, hp⟩ := hp
  simp only at e1 e2
  subst e1; subst e2
  simp only [fillA] at h
  split at h
  ·rename_i off n v hpl heq
   injection heq with heq
   subst heq
   split at h
   ·rename_i new hnew
    cases hb : Nat.beq new.length n with
    | false => rw [hb] at h; cases h
    | true =>
     rw [hb] at h
     have hb := Nat.eq_of_beq_eq_true hb
     simp only [cond_true] at h
     split at h
     ·rename_i cs1 hs
      unfold splice at hs
      cases hb2 : Nat.ble (off + new.length) cs.length with
      | false => rw [hb2] at hs; cases hs
      | true =>
       rw [hb2] at hs
       injection hs with hs
       have hle := Nat.le_of_ble_eq_true hb2
       have hc := relV.cells hnew hv
       obtain ⟨ys', h1, h2⟩ := fill_ok hp h (hs ▸ splice_ok hr hc hle)
       refine ⟨ys', ?_, h2⟩
       have hcl : u.cells.size = n := by rw [← hb, hc.len, Array.length_toList]
       unfold Instr.fill
       rw [hpl]
       simp only
       rw [if_neg (by simp [hcl, ← hr.len]; omega), fill_step off u ys (by rw [Array.length_toList, hcl, ← hr.len, ← hb]; exact hle)]
       exact h1
     ·cases h
   ·cases h
  ·cases h
theorem buildA_ok {m : AMem} {t : TypeId} {parts : List (Nat × Option AV)} {vs : Array (Nat × Value)} (hp : rl (fun p q => p.1 = q.1 ∧ ∃ av, p.2 = some av ∧ relV π I av q.2) parts vs.toList) {v : AV} {ws : AMem} {rs : List Nat} (hx : Tr.Ex m (buildA P t parts) v ws rs) :
  ws = [] ∧ ∃ y, (Instr.build t vs).run P w = .ok y w ∧ relV π I v y := by
 unfold buildA at hx
 split at hx
 ·rename_i fs z hu hz
  obtain ⟨i, zv, hi, hz1, rfl, hall⟩ := zeroT_spec hz
  split at hx
  ·rename_i cs hf
   generalize hb : (fs.toList.all fun f => (szT P f.type).isSome) = b at hx
   cases b with
   | false => cases hx
   | true =>
   rw [List.all_eq_true] at hb
   cases hx
   obtain ⟨ys', h1, h2⟩ := fill_ok hp hf (rl_v hall)
   refine ⟨rfl, .agg ys'.toArray, ?_, ys', rfl, h2⟩
   have key : ∀ (l : List Field) , (∀ f ∈ l, (szT P f.type).isSome = true) → l.mapM (fun f => (P.info? f.type).map fun i => (f.offset, i.size)) = some (l.map fun f => (f.offset, (szT P f.type).getD 0)) := by
    intro l
    induction l with
    | nil => intro _; rfl
    | cons f l ih =>
     intro hl
     have hf := hl f List.mem_cons_self
     unfold szT at hf
     split at hf
     ·rename_i inf hinf
      rw [List.mapM_cons, hinf, ih (fun g hg => hl g (List.mem_cons_of_mem _ hg))]
      simp [szT, hinf]
     ·cases hf
   -- only the parts' places are asked for
   have hmono : ∀ (pl1 pl2 : Nat → Option (Nat × Nat)), (∀ i x, pl1 i = some x → pl2 i = some x) → ∀ (vs : List (Nat × Value)) (cs r : Array Value), Instr.fill pl1 cs vs = some r → Instr.fill pl2 cs vs = some r := by
    intro pl1 pl2 hpl vs
    induction vs with
    | nil => intro cs r h; exact h
    | cons q vs ih =>
     intro cs r h
     unfold Instr.fill at h ⊢
     cases hq : pl1 q.1 with
     | none => rw [hq] at h; cases h
     | some x =>
      rw [hq] at h
      rw [hpl _ _ hq]
      simp only at h ⊢
      split at h
      ·cases h
      ·rename_i hcond
       rw [if_neg hcond]
       exact ih _ _ h
   refine run_build w t vs ys'.toArray ?_
   unfold Program.built
   rw [hi, hu]
   simp only [hz1, key fs.toList hb]
   refine hmono _ _ ?_ _ _ _ h1
   intro i x hx
   split at hx
   ·rename_i f hf
    split at hx
    ·rename_i n hn
     injection hx with hx
     subst hx
     simp only [List.getElem?_toArray, List.getElem?_map]
     rw [Array.getElem?_toList, hf]
     simp [hn]
    ·cases hx
   ·cases hx
  ·cases hx
 ·cases hx

/-! ### a new row -/
/-- Pieces made and given up: a row takes a number that is new; pieces in `G` are given up (a row that grew). -/
theorem SA.row (h : SA B I π M w) {nb : Nat} (hnb : M nb = none) {e : TypeId} {c : TC} {l : List c.I} {w' : World} {v : Value} {cs : List Value} (ho : w'.ownsRow 0 e c.sz v l.length cs) (hr : Reps c.ty I l cs) (hg : w.grownBy w' none) (hb : ∀ k, v.ownBlock = some k → w.heap.size ≤ k) :
  ∃ p : Pl, v = .slice p.A p.n p.c ∧ p.n = l.length ∧ SA B I (updP π nb p) (updM M nb (some (.row e c l))) w' := by
 have hv : ∃ A cp, v = .slice A l.length cp := by
  rcases ho.2 with ⟨rfl, h0⟩ | ⟨g, cap, cur, rfl, _⟩
  ·exact ⟨none, 0, by rw [h0]⟩
  ·exact ⟨_, _, rfl⟩
 obtain ⟨A, cp, rfl⟩ := hv
 have hπ := updP_le (h.dom nb hnb) ⟨A, l.length, cp⟩
 have hf0 : ∀ k, ¬ fpO π nb (M nb) k := fun k hk => by rw [hnb] at hk; exact hk
 have hfp : ∀ k, fpO (updP π nb ⟨A, l.length, cp⟩) nb (some (.row e c l)) k → (Value.slice A l.length cp).ownBlock = some k := by
  rintro k ⟨p, a, h1, h2, rfl⟩
  rw [updP_self] at h1
  injection h1 with h1
  subst h1
  simp only at h2
  subst h2
  rfl
 refine ⟨⟨A, l.length, cp⟩, rfl, rfl, h.step (fun x => x = nb) hπ (Imm.le_refl _) hg.os hg.tape hg.output hg.size (fun k hk _ => hg.block k hk (by simp)) (fun x hx => updM_ne _ _ hx) (fun x hx hn => by rw [updP_ne _ _ hx]; exact h.dom x hn) ?_ ?_ ?_ ?_ ?_ (fun a v ha => .inl ha) ?_⟩
 ·intro x hx hn
  rw [hx, updM_self] at hn
  cases hn
 ·intro x hx
  rw [hx, updM_self]
  exact ⟨_, cs, updP_self _ _ _, rfl, ho, hr⟩
 ·intro x hx k hk
  rw [hx, updM_self] at hk
  exact ⟨(ho.lt k (hfp k hk)).2, .inr (hb k (hfp k hk))⟩
 ·intro x y hx hy hne
  exact absurd (hx.trans hy.symm) hne
 ·intro a u ha
  have hc := h.im a u ha
  rw [← hc]
  exact look_of_block (w := w) (hg.block _ (look_lt hc) (by simp))
 ·intro a u ha x hx hk
  rw [hx, updM_self] at hk
  have h1 := hb _ (hfp _ hk)
  have h2 := look_lt (h.im a u ha)
  omega
/-- A row of the call's own that grew: the old number is given up. -/
theorem SA.grow (h : SA B I π M w) {o nb : Nat} {e : TypeId} {c c0 : TC} {l : List c.I} {l0 : List c0.I} (hoM : M o = some (.row e c0 l0)) (hnb : M nb = none) {p0 : Pl} (hp0 : π o = some p0) {w' : World} {v : Value} {cs : List Value} (ho : w'.ownsRow 0 e c.sz v l.length cs) (hr : Reps c.ty I l cs)
  (hg : w.grownBy w' (Value.slice p0.A p0.n p0.c).ownBlock) (hb : v.ownBlock = (Value.slice p0.A p0.n p0.c).ownBlock ∨ v.ownBlock = some w.heap.size) :
  ∃ p : Pl, v = .slice p.A p.n p.c ∧ p.n = l.length ∧ SA B I (updP π nb p) (updM (updM M o (some .gone)) nb (some (.row e c l))) w' := by
 have hv : ∃ A cp, v = .slice A l.length cp := by
  rcases ho.2 with ⟨rfl, h0⟩ | ⟨g, cap, cur, rfl, _⟩
  ·exact ⟨none, 0, by rw [h0]⟩
  ·exact ⟨_, _, rfl⟩
 obtain ⟨A, cp, rfl⟩ := hv
 have hon : o ≠ nb := fun e1 => by rw [e1, hnb] at hoM; cases hoM
 have hπ := updP_le (h.dom nb hnb) ⟨A, l.length, cp⟩
 have hfp : ∀ k, fpO (updP π nb ⟨A, l.length, cp⟩) nb (some (.row e c l)) k → (Value.slice A l.length cp).ownBlock = some k := by
  rintro k ⟨p, a, h1, h2, rfl⟩
  rw [updP_self] at h1
  injection h1 with h1
  subst h1
  simp only at h2
  subst h2
  rfl
 have hold : ∀ k, (Value.slice p0.A p0.n p0.c).ownBlock = some k → fpO π o (M o) k := fun k hk => by
  rw [hoM]
  cases hA : p0.A with
  | none => rw [hA] at hk; cases hk
  | some a =>
   rw [hA] at hk
   injection hk with hk
   exact ⟨p0, a, hp0, hA, hk⟩
 have hM : ∀ x, x ≠ o → x ≠ nb → updM (updM M o (some .gone)) nb (some (.row e c l)) x = M x := fun x h1 h2 => by rw [updM_ne _ _ h2, updM_ne _ _ h1]
 have hMo : updM (updM M o (some .gone)) nb (some (.row e c l)) o = some .gone := by rw [updM_ne _ _ hon, updM_self]
 refine ⟨⟨A, l.length, cp⟩, rfl, rfl, h.step (fun x => x = o ∨ x = nb) hπ (Imm.le_refl _) hg.os hg.tape hg.output hg.size (fun k hk hk' => hg.block k hk (fun e1 => hk' o (.inl rfl) (hold k e1.symm))) (fun x hx => hM x (fun e1 => hx (.inl e1)) (fun e1 => hx (.inr e1)))
  (fun x hx hn => by rw [updP_ne _ _ (fun e1 => hx (.inr e1))]; exact h.dom x hn) ?_ ?_ ?_ ?_ ?_ (fun a v ha => .inl ha) ?_⟩
 ·rintro x (hx | hx) hn
  ·rw [hx, hMo] at hn; cases hn
  ·rw [hx, updM_self] at hn; cases hn
 ·rintro x (hx | hx)
  ·rw [hx, hMo]; trivial
  ·rw [hx, updM_self]
   exact ⟨_, cs, updP_self _ _ _, rfl, ho, hr⟩
 ·rintro x (hx | hx) k hk
  ·rw [hx, hMo] at hk; exact hk.elim
  ·rw [hx, updM_self] at hk
   refine ⟨(ho.lt k (hfp k hk)).2, ?_⟩
   rcases hb with h1 | h1
   ·exact .inl ⟨o, .inl rfl, hold k (h1 ▸ hfp k hk)⟩
   ·right
    rw [hfp k hk] at h1
    injection h1 with h1
    omega
 ·rintro x y (hx | hx) (hy | hy) hne k hk hk'
  ·exact hne (hx.trans hy.symm)
  ·rw [hx, hMo] at hk; exact hk
  ·rw [hy, hMo] at hk'; exact hk'
  ·exact hne (hx.trans hy.symm)
 ·intro a u ha
  have hc := h.im a u ha
  rw [← hc]
  exact look_of_block (w := w) (hg.block _ (look_lt hc) (fun e1 => h.imX a u ha o (hold _ e1.symm)))
 ·rintro a u ha x (hx | hx) hk
  ·rw [hx, hMo] at hk; exact hk
  ·rw [hx, updM_self] at hk
   rcases hb with h1 | h1
   ·exact h.imX a u ha o (hold _ (h1 ▸ hfp _ hk))
   ·rw [hfp _ hk] at h1
    injection h1 with h1
    have := look_lt (h.im a u ha)
    omega

theorem ofRow_reps {c : TC} : ∀ {n : Nat} {cs : List AC} {l : List c.I} {ys : List Value}, ofRow c n cs = some l → rl (relC π I) cs ys → l.length = n ∧ Reps c.ty I l ys
 | 0, [], l, ys, h, hr => by
  simp only [ofRow] at h
  injection h with h
  subst h
  cases ys with
  | nil => exact ⟨rfl, rfl⟩
  | cons y ys => exact hr.elim
 | 0, _ :: _, l, ys, h, hr => by cases h
 | n + 1, cs, l, ys, h, hr => by
  simp only [ofRow] at h
  split at h
  ·rename_i x r hx
   split at h
   ·rename_i l1 hl
    injection h with h
    subst h
    obtain ⟨c0, c1, rfl, hk, hr1⟩ := TC.ofCs_K hx hr
    obtain ⟨h1, h2⟩ := ofRow_reps hl hr1
    exact ⟨by simp [h1], c0, c1, rfl, hk, h2⟩
   ·cases h
  ·cases h
def repV (z : List Value) : Nat → List Value
 | 0 => []
 | n + 1 => z ++ repV z n
theorem repV_len (z : List Value) : ∀ n, (repV z n).length = n * z.length
 | 0 => by simp [repV]
 | n + 1 => by rw [repV, List.length_append, repV_len z n, Nat.succ_mul, Nat.add_comm]
theorem repV_get (z : List Value) : ∀ (n j : Nat), j < n * z.length → (repV z n)[j]? = z[j % z.length]?
 | 0, j, h => by simp at h
 | n + 1, j, h => by
  rw [repV]
  rcases Nat.lt_or_ge j z.length with hj | hj
  ·rw [List.getElem?_append_left hj, Nat.mod_eq_of_lt hj]
  ·rw [List.getElem?_append_right hj, repV_get z n _ (by rw [Nat.succ_mul] at h; omega), Nat.mod_eq_sub_mod hj]
theorem repV_made (z : Array Value) (n : Nat) (hz : 0 < z.size) : madeCells z (n * z.size) = (repV z.toList n).toArray := by
 apply Array.ext
 ·simp [madeCells, repV_len]
 ·intro j h1 h2
  have h1' : j < n * z.size := by simpa [madeCells] using h1
  have := repV_get z.toList n j (by simpa using h1')
  have hm : j % z.size < z.size := Nat.mod_lt _ hz
  simp only [Array.length_toList] at this
  rw [List.getElem?_eq_getElem (by rw [repV_len]; simpa using h1'), List.getElem?_eq_getElem (by simpa using hm)] at this
  injection this with this
  simp only [madeCells, Array.getElem_map, Array.getElem_range, List.getElem_toArray]
  rw [this]
  simp [hm]
theorem repA_rel {zA : List AC} {zV : List Value} (h : rl (relC π I) zA zV) : ∀ n, rl (relC π I) (repA zA n) (repV zV n)
 | 0 => trivial
 | n + 1 => h.app (repA_rel h n)
theorem Reps.rep {c : TC} {x : c.I} {zs : List Value} (h : c.ty.K I x zs) : ∀ n, Reps c.ty I (List.replicate n x) (repV zs n)
 | 0 => rfl
 | n + 1 => ⟨zs, repV zs n, rfl, h, Reps.rep h n⟩

theorem bslA_ok {m : AMem} (h : SA B I π (lk m) w) {t : TypeId} {len : Nat} {parts : List (Nat × Option AV)} {vs : Array (Nat × Value)} {nb : Nat} (hp : rl (fun p q => p.1 = q.1 ∧ ∃ av, p.2 = some av ∧ relV π I av q.2) parts vs.toList) {v : AV} {ws : AMem} {rs : List Nat} (hx : Tr.Ex m (bslA P t len parts nb) v ws rs) :
  ∃ y w', (Instr.buildSlice t len vs).run P w = .ok y w' ∧ Post B I π v (lk (ws ++ m)) y w' := by
 unfold bslA at hx
 split at hx
 ·rename_i e hu
  split at hx
  ·rename_i z n c hz hn hc
   obtain ⟨i, zv, hi, hz1, rfl, hall⟩ := zeroT_spec hz
   have hin : i.size = n := by
    have := szT_info hn
    rw [hi] at this
    injection this
   split at hx
   ·rename_i cs hf
    generalize hb : (Nat.ble (len * n) 16777216 && (Nat.blt 0 n && (Nat.beq n c.sz && Nat.beq (List.map AC.v zv.cells.toList).length n))) = b at hx
    cases b with
    | false => cases hx
    | true =>
     simp only [Bool.and_eq_true] at hb
     obtain ⟨hb1, hb2, hb3, hb4⟩ := hb
     have hb1 := Nat.le_of_ble_eq_true hb1
     have hb2 : 0 < n := Nat.le_of_ble_eq_true hb2
     have hb3 := Nat.eq_of_beq_eq_true hb3
     have hb4 := Nat.eq_of_beq_eq_true hb4
     rw [List.length_map, Array.length_toList] at hb4
     simp only [cond_true] at hx
     obtain ⟨ys', h1, h2⟩ := fill_ok hp hf (repA_rel (rl_v hall) len)
     obtain ⟨cs', s', J, rs', hx', hJ, hs', hfz, hr', _⟩ := fzCs_ok hx (by simpa using h) (FzOk.nil m) h2
     split at hx'
     ·rename_i l hl
      obtain ⟨hnb, rs2, hx2⟩ := freshTr_inv hx'
      cases hx2
      obtain ⟨hlen, hreps⟩ := ofRow_reps hl hr'
      have hnb' : lk (s'.fz ++ m) nb = none := by
       rw [lk_append, hnb]
       cases hq : lk s'.fz nb with
       | none => rfl
       | some ob =>
        obtain ⟨_, _, _, _, h5⟩ := hfz nb ob hq
        rw [hnb] at h5
        cases h5
      have hmade : (Array.range (len * i.size)).map (zv.cells[· % zv.cells.size]!) = (repV zv.cells.toList len).toArray := by
       have := repV_made zv.cells len (by omega)
       rw [hb4] at this
       rw [hin]
       exact this
      have hys : ys'.length = len * n := by
       have := hreps.len
       rw [← hlen, this, TC.ty_sz, hb3]
      have hrun : (Instr.buildSlice t len vs).run P w = .ok (.slice (some ⟨w.heap.size, 0, none⟩) len len) (w.alloc (.cells ys'.toArray e)) := by
       by_cases h0 : len = 0
       ·subst h0
        have : ys' = [] := List.length_eq_zero_iff.1 (by rw [hys]; simp)
        subst this
        have hfl : Instr.fill (fun i => some (i * n, n)) #[] vs.toList = some #[] := by simpa [repV] using h1
        simp [Instr.buildSlice, run_underlying hu, sizeOf, typeInfo, hi, hin, newRow]
        rw [show (Array.map (fun _ => (default : Value)) (Array.range 0)) = #[] from by apply Array.ext <;> simp, hfl]
        rfl
       ·refine run_buildSlice w t e len vs ys'.toArray i zv hu hi hz1 (by rw [hin]; omega) (by rw [hin]; intro h5; rcases Nat.mul_eq_zero.1 h5 with h6 | h6 <;> omega) ?_
        rw [hmade, hin]
        exact h1
      have hown : (w.alloc (.cells ys'.toArray e)).ownsRow 0 e c.sz (.slice (some ⟨w.heap.size, 0, none⟩) len len) l.length ys' := by
       have := World.ownsRow_lit (e := e) (size := n) w ys'.toArray len (base := 0) (Nat.zero_le _) (by
        simp only [maxLen]
        have : len ≤ len * n := Nat.le_mul_of_pos_right _ hb2
        omega) (by simpa using hys)
       rw [hlen, ← hb3]
       exact this
      obtain ⟨p, hp1, hp2, hs2⟩ := hs'.row hnb' (l := l) hown hreps (World.grownBy_alloc w _ none) (fun k hk => by
       injection hk with hk
       have hk : w.heap.size = k := hk
       omega)
      refine ⟨_, _, hrun, updP π nb p, J, updP_le (hs'.dom nb hnb') p, hJ, ?_, p, updP_self _ _ _, hp1⟩
      rw [List.cons_append, lk_upd]
      exact hs2
     ·cases hx'
   ·cases hx
  ·rename_i z n hz hn _
   obtain ⟨i, zv, hi, hz1, rfl, hall⟩ := zeroT_spec hz
   have hin : i.size = n := by
    have := szT_info hn
    rw [hi] at this
    injection this
   split at hx
   ·rename_i cs hf
    generalize hb : (Nat.ble (len * n) 16777216 && (Nat.blt 0 len && (Nat.beq n 1 && Nat.beq (List.map AC.v zv.cells.toList).length n))) = b at hx
    cases b with
    | false => cases hx
    | true =>
     simp only [Bool.and_eq_true] at hb
     obtain ⟨hb1, hb2, hb3, hb4⟩ := hb
     have hb1 := Nat.le_of_ble_eq_true hb1
     have hb2 : 0 < len := Nat.le_of_ble_eq_true hb2
     have hb3 := Nat.eq_of_beq_eq_true hb3
     have hb4 := Nat.eq_of_beq_eq_true hb4
     rw [List.length_map, Array.length_toList] at hb4
     simp only [cond_true] at hx
     obtain ⟨ys', h1, h2⟩ := fill_ok hp hf (repA_rel (rl_v hall) len)
     obtain ⟨hnb, rs2, hx2⟩ := freshTr_inv hx
     cases hx2
     have hmade : (Array.range (len * i.size)).map (zv.cells[· % zv.cells.size]!) = (repV zv.cells.toList len).toArray := by
      have := repV_made zv.cells len (by omega)
      rw [hb4] at this
      rw [hin]
      exact this
     have hrun : (Instr.buildSlice t len vs).run P w = .ok (.slice (some ⟨w.heap.size, 0, none⟩) len len) (w.alloc (.cells ys'.toArray e)) := by
      refine run_buildSlice w t e len vs ys'.toArray i zv hu hi hz1 (by rw [hin]; omega) (by rw [hin]; intro h5; rcases Nat.mul_eq_zero.1 h5 with h6 | h6 <;> omega) ?_
      rw [hmade, hin]
      exact h1
     have hs2 := h.new (o := nb) hnb e h2
     refine ⟨_, _, hrun, updP π nb ⟨some ⟨w.heap.size, 0, none⟩, 0, 0⟩, I, updP_le (h.dom nb hnb) _, Imm.le_refl _, ?_, _, w.heap.size, updP_self _ _ _, rfl, rfl⟩
     rw [List.cons_append, lk_upd]
     exact hs2
   ·cases hx
  ·cases hx
 ·cases hx
end
end Go.Proofs.YtijhdekfbjafgaaGreat.AM
namespace Go.Proofs.YtijhdekfbjafgaaGreat.AM
open Go Go.RowKit Go.Proofs.YtijhdekfbjafgaaGreat.RW

section
variable {P : Program} {B : Base} {I : Imm} {π : Pi} {M : Nat → Option AObj} {w : World}

/-! ### stores -/
theorem elem_splice {L ns : List Value} {N a z off k : Nat} (hk : ns.length = k) (h1 : a + z ≤ N) (h2 : N ≤ L.length) (h3 : off + k ≤ z) :
  (L.take (a + off) ++ (ns ++ L.drop (a + off + k))).take N = (L.take N).take a ++ ((((L.take N).drop a).take z).take off ++ (ns ++ (((L.take N).drop a).take z).drop (off + k))) ++ (L.take N).drop (a + z) := by
 apply List.ext_getElem?
 intro j
 simp only [List.getElem?_append, List.getElem?_take, List.getElem?_drop, List.length_take, List.length_drop, List.length_append, hk]
 by_cases c1 : j < a + off
 ·by_cases c2 : j < a
  ·simp [show j < N by omega, show j < min (a + off) L.length by omega, show j < a + off by omega, c2, show j < min a (min N L.length) + (min off (min z (min N L.length - a)) + (k + (min z (min N L.length - a) - (off + k)))) by omega, show j < min a (min N L.length) by omega]
  ·simp [show j < N by omega, show j < min (a + off) L.length by omega, show j < a + off by omega, show j < min a (min N L.length) + (min off (min z (min N L.length - a)) + (k + (min z (min N L.length - a) - (off + k)))) by omega, show ¬ j < min a (min N L.length) by omega, show j - min a (min N L.length) < min off (min z (min N L.length - a)) by omega, show j - min a (min N L.length) < off by omega, show j - min a (min N L.length) < z by omega, show a + (j - min a (min N L.length)) = j by omega]
 ·by_cases c3 : j < a + off + k
  ·simp [show j < N by omega, show ¬ j < min (a + off) L.length by omega, show j - min (a + off) L.length < k by omega, show j < min a (min N L.length) + (min off (min z (min N L.length - a)) + (k + (min z (min N L.length - a) - (off + k)))) by omega, show ¬ j < min a (min N L.length) by omega, show ¬ j - min a (min N L.length) < min off (min z (min N L.length - a)) by omega, show j - min a (min N L.length) - min off (min z (min N L.length - a)) < k by omega, show j - min (a + off) L.length = j - min a (min N L.length) - min off (min z (min N L.length - a)) by omega]
  ·by_cases c4 : j < N
   ·by_cases c5 : j < a + z
    ·simp [c4, show ¬ j < min (a + off) L.length by omega, show ¬ j - min (a + off) L.length < k by omega, show j < min a (min N L.length) + (min off (min z (min N L.length - a)) + (k + (min z (min N L.length - a) - (off + k)))) by omega, show ¬ j < min a (min N L.length) by omega, show ¬ j - min a (min N L.length) < min off (min z (min N L.length - a)) by omega, show ¬ j - min a (min N L.length) - min off (min z (min N L.length - a)) < k by omega, show a + off + k + (j - min (a + off) L.length - k) = j by omega, show off + k + (j - min a (min N L.length) - min off (min z (min N L.length - a)) - k) < z by omega, show a + (off + k + (j - min a (min N L.length) - min off (min z (min N L.length - a)) - k)) = j by omega]
    ·simp [c4, show ¬ j < min (a + off) L.length by omega, show ¬ j - min (a + off) L.length < k by omega, show ¬ j < min a (min N L.length) + (min off (min z (min N L.length - a)) + (k + (min z (min N L.length - a) - (off + k)))) by omega, show a + off + k + (j - min (a + off) L.length - k) = j by omega, show a + z + (j - (min a (min N L.length) + (min off (min z (min N L.length - a)) + (k + (min z (min N L.length - a) - (off + k)))))) = j by omega]
   ·simp [c4, show ¬ j < min a (min N L.length) + (min off (min z (min N L.length - a)) + (k + (min z (min N L.length - a) - (off + k)))) by omega, show ¬ a + z + (j - (min a (min N L.length) + (min off (min z (min N L.length - a)) + (k + (min z (min N L.length - a) - (off + k)))))) < N by omega]

/-- An element of a row of the call's own is written. -/
theorem SA.setE (h : SA B I π M w) {o : Nat} {e : TypeId} {c : TC} {l : List c.I} (hoM : M o = some (.row e c l)) {p : Pl} {g : Nat} (hp : π o = some p) (hA : p.A = some ⟨g, 0, none⟩) {i off : Nat} (hi : i < l.length) {new cs' : List AC} {x : c.I} {ns : List Value} (hn : rl (relC π I) new ns)
  (hsp : splice (c.cells (l.getD i c.dflt)) new off = some cs') (hof : c.ofCs cs' = some (x, [])) :
  SA B I π (updM M o (some (.row e c (l.set i x)))) (w.setCells g (i * c.sz + off) ns) ∧ w.there g (i * c.sz + off) ns.length := by
 obtain ⟨p', cs, h1, hpn, hown, hr⟩ := atO_row h hoM
 rw [hp] at h1
 injection h1 with h1
 subst h1
 unfold splice at hsp
 cases hb : Nat.ble (off + new.length) (c.cells (l.getD i c.dflt)).length with
 | false => rw [hb] at hsp; cases hsp
 | true =>
 rw [hb] at hsp
 injection hsp with hsp
 have hle := Nat.le_of_ble_eq_true hb
 rw [TC.cells_len] at hle
 obtain ⟨hlen, hown'⟩ := hown
 rcases hown' with ⟨_, h0⟩ | ⟨g', cap, cur, e1, _, hg, hcap, hmax, hcs, ht⟩
 ·omega
 rw [hA] at e1
 injection e1 with e1 e2 e3
 injection e1 with e1
 injection e1 with e1
 subst e1
 subst hsp
 -- the element's cells as they are
 obtain ⟨ys, hk, hy⟩ := hr.get i _ (List.getElem?_eq_getElem hi)
 rw [c.ty_sz] at hy
 have hyl : ys.length = c.sz := by rw [c.ty.len hk, c.ty_sz]
 have hmul : i * c.sz + c.sz ≤ l.length * c.sz := by
  have := Nat.mul_le_mul_right c.sz (show i + 1 ≤ l.length from hi)
  rwa [Nat.succ_mul] at this
 have hcs' : cur.toList.length = cap * c.sz := by simpa using hcs
 have hcl : l.length * c.sz ≤ cur.toList.length := by
  rw [hcs']
  exact Nat.mul_le_mul_right _ hcap
 have hye : ys = (cs.drop (i * c.sz)).take c.sz := by
  apply List.ext_getElem?
  intro j
  rw [List.getElem?_take, List.getElem?_drop]
  by_cases hj : j < c.sz
  ·rw [if_pos hj]
   have := hy j _ (List.getElem?_eq_getElem (by omega))
   rw [this, List.getElem?_eq_getElem (by omega)]
  ·rw [if_neg hj, List.getElem?_eq_none (by omega)]
 have hk' : c.ty.K I (l.getD i c.dflt) ys := by rw [List.getD_eq_getElem?_getD, List.getElem?_eq_getElem hi]; exact hk
 have hrel := splice_ok (off := off) (TC.cells_rel (π := π) c _ ys hk') hn (by rw [TC.cells_len]; exact hle)
 obtain ⟨c0, c1, hcc, hkx, hnil⟩ := TC.ofCs_K hof hrel
 have hc1 : c1 = [] := by
  cases c1 with
  | nil => rfl
  | cons _ _ => exact hnil.elim
 rw [hc1, List.append_nil] at hcc
 have hcur : w.heap[g]? = some (.cells cur.toList.toArray e (0, 0)) := by simpa using hg
 have hnl : ns.length = new.length := hn.len.symm
 obtain ⟨i1, i2, i3, i4, i5, i6⟩ := setCells_spec g ns (i * c.sz + off) cur.toList e w (by omega) hcur
 have hfp : fpO π o (M o) g := by rw [hoM]; exact ⟨p, _, hp, hA, rfl⟩
 refine ⟨?_, there_of hcur (by omega)⟩
 refine h.step (fun x => x = o) (Pi.le_refl _) (Imm.le_refl _) i3 i4 i5 (by rw [i6]; exact Nat.le_refl _) (fun k hk hk' => i2 k (fun e => hk' o rfl (e ▸ hfp))) (fun x hx => updM_ne _ _ hx) (fun x hx hn => h.dom x hn) ?_ ?_ ?_ ?_ ?_ (fun a v ha => .inl ha) ?_
 ·intro x hx hn
  rw [hx, updM_self] at hn
  cases hn
 ·intro y hx
  rw [hx, updM_self]
  refine ⟨p, cs.take (i * c.sz) ++ c0 ++ cs.drop (i * c.sz + c.sz), hp, by rw [List.length_set]; exact hpn, ⟨?_, .inr ⟨g, cap, _, by rw [hA, List.length_set, e2, e3], Nat.zero_le _, i1, by rw [List.length_set]; exact hcap, hmax, ?_, ?_⟩⟩, ?_⟩
  ·have := (Reps.set hr i x c0 hi hkx).len
   rw [c.ty_sz] at this
   exact this
  ·simp only [List.size_toArray, List.length_append, List.length_take, List.length_drop]
   rw [← hcs']
   omega
  ·rw [List.length_set]
   have := elem_splice (L := cur.toList) (ns := ns) (N := l.length * c.sz) (a := i * c.sz) (z := c.sz) (off := off) (k := new.length) hnl hmul hcl hle
   rw [ht, ← hye] at this
   rw [← hcc, hnl]
   exact this
  ·have := Reps.set hr i x c0 hi hkx
   rw [c.ty_sz] at this
   exact this
 ·intro x hx k hk
  rw [hx, updM_self] at hk
  obtain ⟨p', a, h7, h8, h9⟩ := hk
  rw [hp] at h7
  injection h7 with h7
  subst h7
  rw [hA] at h8
  injection h8 with h8
  subst h8
  have h9 : g = k := h9
  subst h9
  exact ⟨by rw [i6]; exact (h.own _ _ hfp).1, .inl ⟨_, rfl, hfp⟩⟩
 ·intro x y hx hy hne
  exact absurd (hx.trans hy.symm) hne
 ·intro a v ha
  have hc := h.im a v ha
  rw [← hc]
  exact look_of_block (w := w) (i2 _ (fun e => h.imX a v ha o (e ▸ hfp)))
 ·intro a v ha x hx hk
  rw [hx, updM_self] at hk
  exact h.imX a v ha o (by rw [hoM]; exact hk)

theorem any_beq {fz : AMem} {o : Nat} (h : fz.any (fun q => Nat.beq q.1 o) = false) : lk fz o = none := by
 induction fz with
 | nil => rfl
 | cons q fz ih =>
  obtain ⟨j, a⟩ := q
  rw [List.any_cons, Bool.or_eq_false_iff] at h
  rw [lk_cons, if_neg (fun e => by rw [e, Nat.beq_refl] at h; cases h.1)]
  exact ih h.2
theorem stA_ok {m : AMem} (h : SA B I π (lk m) w) {t : TypeId} {a : AC} {y : Value} (ha : relC π I a y) {v : AV} {u : Value} (hv : relV π I v u) {r : AV} {ws : AMem} {rs : List Nat} (hx : Tr.Ex m (stA P t a v) r ws rs) :
  r = undefA ∧ ∃ w' J, (Instr.storeAt t y u).run P w = .ok () w' ∧ I.le J ∧ SA B J π (lk (ws ++ m)) w' := by
 unfold stA at hx
 split at hx
 ·cases hx
 ·rename_i new hnew
  have hc := relV.cells hnew hv
  split at hx
  ·cases hx
  ·rename_i n hn
   cases hb : Nat.beq new.length n with
   | false => rw [hb] at hx; cases hx
   | true =>
    rw [hb] at hx
    have hb := Nat.eq_of_beq_eq_true hb
    simp only [cond_true] at hx
    have hcl : u.cells.size = n := by rw [← hb, hc.len, Array.length_toList]
    split at hx
    ·rename_i o off
     obtain ⟨p, g, h1, h2, rfl⟩ := ha
     cases hx with
     | look hx =>
      dsimp only at hx
      split at hx
      ·rename_i ty cs ho
       split at hx
       ·rename_i cs' hs
        cases hx
        unfold splice at hs
        cases hb2 : Nat.ble (off + new.length) cs.length with
        | false => rw [hb2] at hs; cases hs
        | true =>
         rw [hb2] at hs
         injection hs with hs
         subst hs
         have hle := Nat.le_of_ble_eq_true hb2
         obtain ⟨p', g', ys, h3, h4, h5, h6⟩ := atO_blk h ho
         rw [h1] at h3
         injection h3 with h3
         subst h3
         rw [h2] at h4
         injection h4 with h4
         injection h4 with h4
         subst h4
         refine ⟨rfl, _, I, storeAt_cells hn hcl (relL.one hc) (there_of h6 (by rw [← h5.len, ← hb]; exact hle)), Imm.le_refl _, ?_⟩
         rw [List.cons_append, lk_upd]
         exact h.setB ho h1 h2 hc hle
       ·cases hx
      ·cases hx
    ·rename_i o z i off
     obtain ⟨p, g, h1, h2, h3, rfl⟩ := ha
     obtain ⟨new', s', J, rs', hx', hJ, hs', hfz, hr', _⟩ := fzCs_ok hx (by simpa using h) (FzOk.nil m) hc
     cases hx' with
     | look hx' =>
      dsimp only at hx'
      split at hx'
      ·rename_i e c l ho
       cases hz : Nat.beq c.sz z with
       | false => rw [hz] at hx'; cases hx'
       | true =>
        rw [hz] at hx'
        have hz := Nat.eq_of_beq_eq_true hz
        subst hz
        simp only [Bool.not_true, cond_false] at hx'
        split at hx'
        ·cases hx'
        ·rename_i cs' hsp
         split at hx'
         ·rename_i x hof
          cases hany : s'.fz.any (fun q => Nat.beq q.1 o) with
          | true => rw [hany] at hx'; cases hx'
          | false =>
           rw [hany] at hx'
           cases hx'
           have ho' : lk (s'.fz ++ m) o = some (.row e c l) := by rw [lk_append, any_beq hany, ho]; rfl
           obtain ⟨p', _, h4, h5, _⟩ := atO_row hs' ho'
           rw [h1] at h4
           injection h4 with h4
           subst h4
           obtain ⟨k1, k2⟩ := hs'.setE ho' h1 h2 (by omega) hr' hsp hof
           rw [Array.length_toList, hcl] at k2
           refine ⟨rfl, _, J, storeAt_cells hn hcl (relL.one hc) k2, hJ, ?_⟩
           rw [List.cons_append, lk_upd]
           exact k1
         ·cases hx'
      ·cases hx'
    ·cases hx
end
end Go.Proofs.YtijhdekfbjafgaaGreat.AM
namespace Go.Proofs.YtijhdekfbjafgaaGreat.AM
open Go Go.RowKit Go.Proofs.YtijhdekfbjafgaaGreat.RW

section
variable {P : Program} {B : Base} {I : Imm} {π : Pi} {M : Nat → Option AObj} {w : World}

/-- A row that is read: where its cells lie. -/
theorem rd_cells {α : Type} {d : Ty α} (him : I.at_ w) {A : Option Addr} {xs : List α} (h : Rd d I A xs) (hne : xs ≠ []) : ∃ cs, Reps d I xs cs ∧ ∃ g q, A = some ⟨g, q, none⟩ ∧ ∀ j u, cs[j]? = some u → w.cell? ⟨g, q + j, none⟩ = some u := by
 obtain ⟨g, o, rfl, hc⟩ := h.2 hne
 have key : ∀ (ys : List α) (n0 : Nat), (∀ j x, ys[j]? = some x → ∃ c, d.K I x c ∧ ∀ i u, c[i]? = some u → I ⟨g, o + (n0 + j) * d.sz + i, none⟩ = some u) → ∃ cs, Reps d I ys cs ∧ ∀ j u, cs[j]? = some u → I ⟨g, o + n0 * d.sz + j, none⟩ = some u := by
  intro ys
  induction ys with
  | nil => intro n0 _; exact ⟨[], rfl, fun j u hu => by simp at hu⟩
  | cons y ys ih =>
   intro n0 hy
   obtain ⟨c0, hk0, hc0⟩ := hy 0 y rfl
   obtain ⟨c1, hk1, hc1⟩ := ih (n0 + 1) (fun j x hj => by
    have := hy (j + 1) x hj
    rwa [show n0 + (j + 1) = n0 + 1 + j from by omega] at this)
   refine ⟨c0 ++ c1, ⟨c0, c1, rfl, hk0, hk1⟩, fun j u hu => ?_⟩
   rcases Nat.lt_or_ge j c0.length with hlt | hge
   ·rw [List.getElem?_append_left hlt] at hu
    exact hc0 j u hu
   ·rw [List.getElem?_append_right hge] at hu
    have := hc1 _ u hu
    have hl := d.len hk0
    rwa [show o + (n0 + 1) * d.sz + (j - c0.length) = o + n0 * d.sz + j from by rw [Nat.succ_mul]; omega] at this
 obtain ⟨cs, hr, hcells⟩ := key xs 0 (fun j x hj => by
  have := hc j x hj
  rwa [show 0 + j = j from by omega])
 refine ⟨cs, hr, _, _, rfl, fun j u hu => ?_⟩
 rw [← look_cell rfl]
 have := hcells j u hu
 rw [Nat.zero_mul, Nat.add_zero] at this
 exact him _ _ this

/-- What a value says that reads as a row. -/
def RowAt (I : Imm) (w : World) (c : TC) (l : List c.I) (y : Value) : Prop :=
 ∃ S cp, y = .slice S l.length cp ∧ l.length ≤ cp ∧ (l = [] ∨ ∃ g q cs, S = some ⟨g, q, none⟩ ∧ Reps c.ty I l cs ∧ ∀ j u, cs[j]? = some u → w.cell? ⟨g, q + j, none⟩ = some u)
theorem RowAt.nil {c : TC} {y : Value} (h : y = .slice none 0 0) : RowAt I w c [] y := ⟨none, 0, h, Nat.le_refl _, .inl rfl⟩
theorem RowAt.rd {c : TC} {l : List c.I} {A : Option Addr} {cp : Nat} (him : I.at_ w) (hl : l.length ≤ cp) (h : Rd c.ty I A l) : RowAt I w c l (.slice A l.length cp) := by
 refine ⟨A, cp, rfl, hl, ?_⟩
 by_cases hn : l = []
 ·exact .inl hn
 ·obtain ⟨cs, h1, g, q, h2, h3⟩ := rd_cells him h hn
  exact .inr ⟨g, q, cs, h2, h1, h3⟩
theorem RowAt.own {e : TypeId} {c : TC} {l : List c.I} {p : Pl} {cs : List Value} (hn : p.n = l.length) (ho : w.ownsRow 0 e c.sz (.slice p.A p.n p.c) l.length cs) (hr : Reps c.ty I l cs) : RowAt I w c l (.slice p.A p.n p.c) := by
 refine ⟨p.A, p.c, by rw [hn], ?_, ?_⟩
 ·rcases ho.2 with ⟨e1, h0⟩ | ⟨g, cap, cur, e1, _, _, hc, _⟩
  ·omega
  ·injection e1 with _ _ e3; omega
 ·rcases ho.2 with ⟨e1, h0⟩ | ⟨g, cap, cur, e1, _⟩
  ·exact .inl (List.length_eq_zero_iff.1 h0)
  ·injection e1 with e1 e2 e3
   refine .inr ⟨g, 0, cs, e1, hr, fun j u hu => ?_⟩
   rw [Nat.zero_add]
   rw [e1, hn] at ho
   rw [ho.cellAt j (by rw [← ho.1]; exact (List.getElem?_eq_some_iff.1 hu).1)]
   exact hu
theorem rowTr_ok {ρ : Type} {m : AMem} (h : SA B I π (lk m) w) {a : AC} {y : Value} (ha : relC π I a y) {k : (c : TC) → List c.I → Tr ρ} {r : ρ} {ws : AMem} {rs : List Nat} (hx : Tr.Ex m (rowTr a k) r ws rs) :
  ∃ c l rs', Tr.Ex m (k c l) r ws rs' ∧ RowAt I w c l y := by
 unfold rowTr at hx
 split at hx
 ·rename_i f c l
  obtain ⟨A, cp, rfl, h1, _, h2⟩ := ha
  exact ⟨c, l, _, hx, .rd h.im h1 h2⟩
 ·rename_i o
  obtain ⟨p, hp, rfl⟩ := ha
  cases hx with
  | look hx =>
   dsimp only at hx
   split at hx
   ·rename_i e c l ho
    obtain ⟨p', cs, h1, h2, h3, h4⟩ := atO_row h ho
    rw [hp] at h1
    injection h1 with h1
    subst h1
    exact ⟨c, l, _, hx, .own h2 h3 h4⟩
   ·rename_i c l ho
    obtain ⟨p', h1, h2, h3, h4⟩ := atO_frz h ho
    rw [hp] at h1
    injection h1 with h1
    subst h1
    refine ⟨c, l, _, hx, ?_⟩
    rw [h2]
    exact .rd h.im h3 h4
   ·cases hx
 ·cases hx
theorem RowAt.cast {a b : TC} {l : List a.I} {l' : List b.I} {y : Value} (h : RowAt I w a l y) (hc : TC.castL b l = some l') : RowAt I w b l' y := by
 obtain ⟨e, h1⟩ := TC.castL_eq hc
 subst e; subst h1
 exact h
theorem srcTr_ok {ρ : Type} {m : AMem} (h : SA B I π (lk m) w) {c : TC} {a : AC} {y : Value} (ha : relC π I a y) {k : List c.I → Tr ρ} {r : ρ} {ws : AMem} {rs : List Nat} (hx : Tr.Ex m (srcTr c a k) r ws rs) :
  ∃ l rs', Tr.Ex m (k l) r ws rs' ∧ RowAt I w c l y := by
 unfold srcTr at hx
 split at hx
 ·exact ⟨[], _, hx, .nil ha.1⟩
 ·obtain ⟨c', l, rs', h1, h2⟩ := rowTr_ok h ha hx
  split at h1
  ·rename_i l' hl
   exact ⟨l', _, h1, h2.cast hl⟩
  ·cases h1
theorem lenA_ok {m : AMem} (h : SA B I π (lk m) w) {t ty : TypeId} {a : AC} {y : Value} (ha : relC π I a y) {v : AV} {ws : AMem} {rs : List Nat} (hx : Tr.Ex m (lenA P t a) v ws rs) :
  ws = [] ∧ ∃ y', (Builtin.len_ #[t] ty #[y]).run P w = .ok y' w ∧ relV π I v y' := by
 unfold lenA at hx
 split at hx
 ·rename_i e hu
  split at hx
  ·cases hx
   obtain ⟨rfl, _⟩ := ha
   exact ⟨rfl, .int .i64 0, by simp [Builtin.len_, run_underlying hu, goInt], rfl, rfl⟩
  ·cases hx
   obtain ⟨p, g, _, _, rfl⟩ := ha
   exact ⟨rfl, .int .i64 _, by simp [Builtin.len_, run_underlying hu, goInt], rfl, rfl⟩
  ·obtain ⟨c, l, rs', h1, S, cp, rfl, _⟩ := rowTr_ok h ha hx
   cases h1
   exact ⟨rfl, .int .i64 l.length, by simp [Builtin.len_, run_underlying hu, goInt], rfl, rfl⟩
 ·rename_i hu
  split at hx
  ·rename_i s
   cases hx
   obtain ⟨rfl, _⟩ := ha
   exact ⟨rfl, .int .i64 s.size, by simp [Builtin.len_, run_underlying hu, goInt], rfl, rfl⟩
  ·cases hx
 ·cases hx

/-! ### appends -/
theorem room_spec {n b : Nat} (h : room n b = true) : n * b ≤ 140737488355328 ∧ n ≤ 9223372036854775807 := of_decide_eq_true h
theorem ownsRow_base {b : Nat} {e : TypeId} {sz n : Nat} {v : Value} {xs : List Value} (h : w.ownsRow b e sz v n xs) : w.ownsRow 0 e sz v n xs :=
 ⟨h.1, h.2.imp id fun ⟨g, cap, cur, h1, _, h2⟩ => ⟨g, cap, cur, h1, Nat.zero_le _, h2⟩⟩
theorem byT_info {t : TypeId} {n : Nat} (h : byT P t = some n) : ∃ i, P.info? t = some i ∧ i.bytes = n := by
 unfold byT at h
 split at h
 ·rename_i i hi
  injection h with h
  exact ⟨i, hi, h⟩
 ·cases h
theorem grownBy_refl (w : World) (r : Option Nat) : w.grownBy w r := ⟨rfl, rfl, rfl, Nat.le_refl _, fun _ _ _ => rfl⟩
/-- An append onto a row of the call's own. -/
theorem app_own {t ty e : TypeId} (hu : P.underlying t = some (.slice e)) {i : TypeInfo} (hi : P.info? e = some i) {z : Value} (hz : i.zero = some z) {c : TC} (hsz : i.size = c.sz) (hzs : z.cells.size = c.sz) (h0 : 0 < c.sz)
  {v : Value} {l l2 : List c.I} {cs : List Value} (ho : w.ownsRow 0 e c.sz v l.length cs) (hr : Reps c.ty I l cs) {y : Value} (hs : RowAt I w c l2 y) (hroom : room (l.length + l2.length) i.bytes = true) :
  ∃ v' w' cs', (Builtin.append_ #[t, t] ty #[v, y]).run P w = .ok v' w' ∧ w'.ownsRow 0 e c.sz v' (l ++ l2).length cs' ∧ Reps c.ty I (l ++ l2) cs' ∧ w.grownBy w' v.ownBlock ∧ (v'.ownBlock = v.ownBlock ∨ v'.ownBlock = some w.heap.size) := by
 obtain ⟨S, cp, rfl, hle, hcase⟩ := hs
 obtain ⟨hb1, hb2⟩ := room_spec hroom
 rcases hcase with rfl | ⟨g0, q0, news, rfl, hr2, hc0⟩
 ·have hv : ∃ A cap, v = .slice A l.length cap ∧ l.length ≤ cap := by
   rcases ho.2 with ⟨rfl, h1⟩ | ⟨g, cap, cur, rfl, _, _, h1, _⟩
   ·exact ⟨none, 0, by rw [h1], by omega⟩
   ·exact ⟨_, _, rfl, h1⟩
  obtain ⟨A, cap, rfl, hcap⟩ := hv
  refine ⟨_, w, cs, run_append_nothing w t t ty e i hu hi A l.length cap hcap _ (src_none hu S cp w), ?_, ?_, grownBy_refl _ _, .inl rfl⟩
  ·rw [List.append_nil]; exact ho
  ·rw [List.append_nil]; exact hr
 ·have hc : ∀ j u, news[j]? = some u → w.cell? ((⟨g0, q0, none⟩ : Addr).add j) = some u := fun j u hu => by rw [Addr.add_mid]; exact hc0 j u hu
  obtain ⟨v', w', h1, h2, h3, _, h4⟩ := run_append_own_at (P := P) w 0 t ty e i z c.sz i.bytes hu hi hz hsz rfl hzs h0 v l.length cs ho ⟨g0, q0, none⟩ l2.length cp news (by rw [hr2.len, c.ty_sz]) hc (fun u hu => hr2.one u hu) (by simp only [maxLen]; omega) hb1 (Nat.zero_le _)
  exact ⟨v', w', cs ++ news, h1, by rw [List.length_append]; exact h2, hr.append hr2, h3, h4⟩
/-- An append onto a full row that is read: a new row. -/
theorem app_rd (him : I.at_ w) {t ty e : TypeId} (hu : P.underlying t = some (.slice e)) {i : TypeInfo} (hi : P.info? e = some i) {z : Value} (hz : i.zero = some z) {c : TC} (hsz : i.size = c.sz) (hzs : z.cells.size = c.sz) (h0 : 0 < c.sz)
  {A : Option Addr} {l l2 : List c.I} (hr : Rd c.ty I A l) {y : Value} (hs : RowAt I w c l2 y) (hne : l2 ≠ []) (hroom : room (l.length + l2.length) i.bytes = true) :
  ∃ v' w' cs', (Builtin.append_ #[t, t] ty #[.slice A l.length l.length, y]).run P w = .ok v' w' ∧ w'.ownsRow 0 e c.sz v' (l ++ l2).length cs' ∧ Reps c.ty I (l ++ l2) cs' ∧ w.grownBy w' none ∧ ∀ k, v'.ownBlock = some k → w.heap.size ≤ k := by
 obtain ⟨S, cp, rfl, hle, hcase⟩ := hs
 obtain ⟨hb1, hb2⟩ := room_spec hroom
 obtain ⟨g0, q0, news, rfl, hr2, hc0⟩ := hcase.resolve_left hne
 have hc : ∀ j u, news[j]? = some u → w.cell? ((⟨g0, q0, none⟩ : Addr).add j) = some u := fun j u hu => by rw [Addr.add_mid]; exact hc0 j u hu
 have hl2 : 0 < l2.length := List.length_pos_iff.2 hne
 have fin : ∀ (olds : List Value) v' w', Reps c.ty I l olds → (Builtin.append_ #[t, t] ty #[.slice A l.length l.length, .slice (some ⟨g0, q0, none⟩) l2.length cp]).run P w = .ok v' w' → w'.ownsRow w.heap.size e c.sz v' (l.length + l2.length) (olds ++ news) → w.grownBy w' none →
   ∃ v' w' cs', (Builtin.append_ #[t, t] ty #[.slice A l.length l.length, .slice (some ⟨g0, q0, none⟩) l2.length cp]).run P w = .ok v' w' ∧ w'.ownsRow 0 e c.sz v' (l ++ l2).length cs' ∧ Reps c.ty I (l ++ l2) cs' ∧ w.grownBy w' none ∧ ∀ k, v'.ownBlock = some k → w.heap.size ≤ k := by
  intro olds v' w' k1 k2 k3 k4
  exact ⟨v', w', olds ++ news, k2, by rw [List.length_append]; exact ownsRow_base k3, k1.append hr2, k4, fun k hk => (k3.lt k hk).1⟩
 by_cases hn : l = []
 ·subst hn
  cases A with
  | none =>
   obtain ⟨v', w', k1, k2, k3, _⟩ := run_append_own_at (P := P) w w.heap.size t ty e i z c.sz i.bytes hu hi hz hsz rfl hzs h0 (.slice none 0 0) 0 [] (World.ownsRow_nil w _ e c.sz) ⟨g0, q0, none⟩ l2.length cp news (by rw [hr2.len, c.ty_sz]) hc (fun u hu => hr2.one u hu) (by simp only [maxLen]; simpa using hb2) (by simpa using hb1) (Nat.le_refl _)
   exact fin [] v' w' rfl k1 (by simpa using k2) k3
  | some b =>
   obtain ⟨v', w', k1, k2, k3⟩ := run_append_arg_grows (P := P) w t ty e i z c.sz i.bytes hu hi hz hsz rfl hzs h0 b 0 0 [] (by simp) (fun j u hj => by cases hj) ⟨g0, q0, none⟩ l2.length cp news (by rw [hr2.len, c.ty_sz]) hc (by omega) (by simp only [maxLen]; simpa using hb2) (by simpa using hb1)
   exact fin [] v' w' rfl k1 (by simpa using k2) k3
 ·obtain ⟨olds, hro, g1, q1, hb, hcells0⟩ := rd_cells him hr hn
  subst hb
  have hcells : ∀ j u, olds[j]? = some u → w.cell? ((⟨g1, q1, none⟩ : Addr).add j) = some u := fun j u hu => by rw [Addr.add_mid]; exact hcells0 j u hu
  obtain ⟨v', w', k1, k2, k3⟩ := run_append_arg_grows (P := P) w t ty e i z c.sz i.bytes hu hi hz hsz rfl hzs h0 ⟨g1, q1, none⟩ l.length l.length olds (by rw [hro.len, c.ty_sz]) hcells ⟨g0, q0, none⟩ l2.length cp news (by rw [hr2.len, c.ty_sz]) hc (by omega) (by simp only [maxLen]; omega) hb1
  exact fin olds v' w' hro k1 k2 k3
theorem appA_ok {m : AMem} (h : SA B I π (lk m) w) {t ty : TypeId} {d s : AC} {nb : Nat} {y1 y2 : Value} (h1 : relC π I d y1) (h2 : relC π I s y2) {v : AV} {ws : AMem} {rs : List Nat} (hx : Tr.Ex m (appA P t d s nb) v ws rs) :
  ∃ y w', (Builtin.append_ #[t, t] ty #[y1, y2]).run P w = .ok y w' ∧ Post B I π v (lk (ws ++ m)) y w' := by
 unfold appA at hx
 split at hx
 ·rename_i e hu
  split at hx
  ·rename_i c b z hc hb hz
   obtain ⟨i, zv, hi, hz1, rfl, hall⟩ := zeroT_spec hz
   obtain ⟨i', hi', hby⟩ := byT_info hb
   rw [hi] at hi'
   injection hi' with hi'
   subst hi'
   generalize hbb : (szT P e == some c.sz && Nat.blt 0 c.sz && Nat.beq (List.map AC.v zv.cells.toList).length c.sz) = bb at hx
   cases bb with
   | false => cases hx
   | true =>
   simp only [Bool.and_eq_true] at hbb
   obtain ⟨⟨hb1, hb2⟩, hb3⟩ := hbb
   have hsz : i.size = c.sz := by
    have := szT_info (P := P) (t := e) (n := c.sz) (by simpa using hb1)
    rw [hi] at this
    injection this
   have hb2 : 0 < c.sz := Nat.le_of_ble_eq_true hb2
   have hb3 := Nat.eq_of_beq_eq_true hb3
   rw [List.length_map, Array.length_toList] at hb3
   simp only [Bool.not_true, cond_false] at hx
   split at hx
   ·rename_i o
    obtain ⟨p, hp, rfl⟩ := h1
    cases hx with
    | look hx =>
     dsimp only at hx
     split at hx
     ·rename_i e' c' l ho
      cases hee : Nat.beq e e' with
      | false => rw [hee] at hx; cases hx
      | true =>
       rw [hee] at hx
       have hee := Nat.eq_of_beq_eq_true hee
       subst hee
       simp only [cond_true] at hx
       split at hx
       ·rename_i l' hl'
        obtain ⟨ec, hl''⟩ := TC.castL_eq hl'
        subst ec; subst hl''
        obtain ⟨l2, rs', hx', hrow⟩ := srcTr_ok h h2 hx
        generalize hroom : room (l.length + l2.length) b = rb at hx'
        cases hx' with
        | chk hx' =>
         obtain ⟨hnb, rs2, hx'⟩ := freshTr_inv hx'
         cases hx'
         obtain ⟨p', cs, h3, h4, h5, h6⟩ := atO_row h ho
         rw [hp] at h3
         injection h3 with h3
         subst h3
         obtain ⟨v', w', cs', k1, k2, k3, k4, k5⟩ := app_own (ty := ty) hu hi hz1 hsz hb3 hb2 h5 h6 hrow (by rw [hby]; exact hroom)
         obtain ⟨q, q1, q2, q3⟩ := h.grow ho hnb hp k2 k3 k4 k5
         refine ⟨v', w', k1, _, I, updP_le (h.dom nb hnb) q, Imm.le_refl _, ?_, q, updP_self _ _ _, q1⟩
         refine q3.congr (fun x => ?_)
         have hon : o ≠ nb := fun e1 => by rw [e1, hnb] at ho; cases ho
         show _ = lk ((o, .gone) :: (nb, .row e _ (l ++ l2)) :: m) x
         rw [lk_upd, lk_upd]
         unfold updM
         by_cases e1 : x = nb
         ·rw [if_pos e1, if_neg (fun e2 => hon (e2.symm.trans e1)), if_pos e1]
         ·rw [if_neg e1, if_neg e1]
       ·cases hx
     ·cases hx
   ·rename_i c' l
    obtain ⟨A, cp, rfl, _, hfull, hrd⟩ := h1
    have hcp := hfull rfl
    subst hcp
    split at hx
    ·rename_i l' hl'
     obtain ⟨ec, hl''⟩ := TC.castL_eq hl'
     subst ec; subst hl''
     obtain ⟨l2, rs', hx', hrow⟩ := srcTr_ok h h2 hx
     generalize hne : (!l2.isEmpty) = nb2 at hx'
     cases hx' with
     | chk hx' =>
     generalize hroom : room (l.length + l2.length) b = rb at hx'
     cases hx' with
     | chk hx' =>
      obtain ⟨hnb, rs2, hx'⟩ := freshTr_inv hx'
      cases hx'
      obtain ⟨v', w', cs', k1, k2, k3, k4, k5⟩ := app_rd h.im (ty := ty) hu hi hz1 hsz hb3 hb2 hrd hrow (fun e1 => by subst e1; simp at hne) (by rw [hby]; exact hroom)
      obtain ⟨q, q1, q2, q3⟩ := h.row hnb k2 k3 k4 k5
      refine ⟨v', w', k1, _, I, updP_le (h.dom nb hnb) q, Imm.le_refl _, ?_, q, updP_self _ _ _, q1⟩
      show SA B I _ (lk ((nb, .row e _ (l ++ l2)) :: m)) w'
      rw [lk_upd]
      exact q3
    ·cases hx
   ·obtain ⟨rfl, _⟩ := h1
    obtain ⟨l2, rs', hx', hrow⟩ := srcTr_ok h h2 hx
    generalize hroom : room l2.length b = rb at hx'
    cases hx' with
    | chk hx' =>
     obtain ⟨hnb, rs2, hx'⟩ := freshTr_inv hx'
     cases hx'
     obtain ⟨v', w', cs', k1, k2, k3, k4, k5⟩ := app_own (ty := ty) (l := []) hu hi hz1 hsz hb3 hb2 (World.ownsRow_nil w 0 e c.sz) rfl hrow (by rw [hby, List.length_nil, Nat.zero_add]; exact hroom)
     obtain ⟨q, q1, q2, q3⟩ := h.row hnb (l := l2) k2 k3 k4 (fun k hk => by
      rcases k5 with k5 | k5
      ·rw [hk] at k5; cases k5
      ·rw [hk] at k5; injection k5 with k5; omega)
     refine ⟨v', w', k1, _, I, updP_le (h.dom nb hnb) q, Imm.le_refl _, ?_, q, updP_self _ _ _, q1⟩
     show SA B I _ (lk ((nb, .row e c l2) :: m)) w'
     rw [lk_upd]
     exact q3
   ·cases hx
  ·cases hx
 ·cases hx

/-! ### rows made -/
theorem mkA_ok {m : AMem} (h : SA B I π (lk m) w) {t : TypeId} {kl kc : IntKind} {len cap : Int} {nb : Nat} {v : AV} {ws : AMem} {rs : List Nat} (hx : Tr.Ex m (mkA P t len cap nb) v ws rs) :
  ∃ y w', (Instr.makeSlice t (.int kl len) (.int kc cap)).run P w = .ok y w' ∧ Post B I π v (lk (ws ++ m)) y w' := by
 unfold mkA at hx
 split at hx
 ·rename_i e hu
  split at hx
  ·rename_i z b c hz hb hc
   obtain ⟨i, zv, hi, hz1, rfl, hall⟩ := zeroT_spec hz
   obtain ⟨i', hi', hby⟩ := byT_info hb
   rw [hi] at hi'
   injection hi' with hi'
   subst hi'
   generalize hbb : (szT P e == some c.sz && Nat.beq (List.map AC.v zv.cells.toList).length c.sz) = bb at hx
   cases bb with
   | false => cases hx
   | true =>
   simp only [Bool.and_eq_true] at hbb
   obtain ⟨hb1, hb3⟩ := hbb
   have hsz : i.size = c.sz := by
    have := szT_info (P := P) (t := e) (n := c.sz) (by simpa using hb1)
    rw [hi] at this
    injection this
   have hb3 := Nat.eq_of_beq_eq_true hb3
   rw [List.length_map, Array.length_toList] at hb3
   simp only [Bool.not_true, cond_false] at hx
   split at hx
   ·rename_i x hof
    generalize hle : decide (0 ≤ len ∧ len ≤ cap) = db at hx
    cases hx with
    | chk hx =>
    generalize hroom : room cap.toNat b = rb at hx
    cases hx with
    | chk hx =>
     obtain ⟨h0, h1⟩ := of_decide_eq_true hle
     obtain ⟨hr1, hr2⟩ := room_spec hroom
     obtain ⟨hnb, rs2, hx'⟩ := freshTr_inv hx
     cases hx'
     have hcap : cap = (cap.toNat : Int) := by omega
     have hrun := run_make (P := P) w t e i zv hu hi hz1 kl kc len cap h0 h1 (by
      rw [hcap, hby]
      have : ((b * cap.toNat : Nat) : Int) ≤ 140737488355328 := by rw [Nat.mul_comm]; omega
      rw [Int.natCast_mul] at this
      omega) (by omega)
     obtain ⟨c0, c1, hcc, hk, hnil⟩ := TC.ofCs_K (π := π) (I := I) hof (rl_v hall)
     have hc1 : c1 = [] := by
      cases c1 with
      | nil => rfl
      | cons _ _ => exact hnil.elim
     rw [hc1, List.append_nil] at hcc
     have hown : (w.alloc (.cells (madeCells zv.cells (cap.toNat * i.size)) e)).ownsRow 0 e c.sz (.slice (some ⟨w.heap.size, 0, none⟩) len.toNat cap.toNat) (List.replicate len.toNat x).length (repV zv.cells.toList len.toNat) := by
      rw [List.length_replicate]
      refine ⟨by rw [repV_len, Array.length_toList, hb3], .inr ⟨w.heap.size, cap.toNat, _, rfl, Nat.zero_le _, heap_alloc_new w _, by omega, by simp only [maxLen]; omega, by rw [size_madeCells, hsz], ?_⟩⟩
      rcases Nat.eq_zero_or_pos zv.cells.size with h6 | h6
      ·have h7 : c.sz = 0 := by omega
       have h8 : repV zv.cells.toList len.toNat = [] := List.length_eq_zero_iff.1 (by rw [repV_len, Array.length_toList, h6, Nat.mul_zero])
       rw [h7, h8]
       simp
      ·rw [hsz, ← hb3, repV_made _ _ h6]
       apply List.ext_getElem?
       intro j
       rw [List.getElem?_take]
       have hmul : len.toNat * zv.cells.size ≤ cap.toNat * zv.cells.size := Nat.mul_le_mul_right _ (by omega)
       by_cases hj : j < len.toNat * zv.cells.size
       ·rw [if_pos hj]
        simp only []
        rw [repV_get _ _ _ (by rw [Array.length_toList]; omega), repV_get _ _ _ (by rw [Array.length_toList]; exact hj)]
       ·rw [if_neg hj, List.getElem?_eq_none (by rw [repV_len, Array.length_toList]; omega)]
     obtain ⟨q, q1, q2, q3⟩ := h.row hnb hown (by rw [hcc]; exact Reps.rep hk _) (World.grownBy_alloc w _ none) (fun k hk => by
      injection hk with hk
      have hk : w.heap.size = k := hk
      omega)
     refine ⟨_, _, hrun, _, I, updP_le (h.dom nb hnb) q, Imm.le_refl _, ?_, q, updP_self _ _ _, q1⟩
     show SA B I _ (lk ((nb, .row e c (List.replicate len.toNat x)) :: m)) _
     rw [lk_upd]
     exact q3
   ·cases hx
  ·cases hx
 ·cases hx
end
end Go.Proofs.YtijhdekfbjafgaaGreat.AM
namespace Go.Proofs.YtijhdekfbjafgaaGreat.AM
open Go Go.RowKit Go.Proofs.YtijhdekfbjafgaaGreat.RW

section
variable {P : Program} {B : Base} {I : Imm} {π : Pi} {M : Nat → Option AObj} {w : World}

theorem rel_ac {a : AC} {y : Value} (h : relC π I a y) : relV π I (ac a) y := h
/-- What the code says of the kind of a value: a number of whichever kind. -/
def isInt (i : Int) (y : Value) : Prop := ∃ k, y = .int k i
def optInt : Option Int → Option Value → Prop
 | none, none => True
 | some i, some y => isInt i y
 | _, _ => False
theorem sub_len {α : Type} {l : List α} {lo hi : Int} (h0 : 0 ≤ lo) (h1 : lo ≤ hi) (h2 : hi ≤ (l.length : Int)) : ((l.take hi.toNat).drop lo.toNat).length = hi.toNat - lo.toNat := by
 rw [List.length_drop, List.length_take]; omega
theorem rd_part {c : TC} {l : List c.I} {A : Option Addr} {cap : Nat} (hrd : Rd c.ty I A l) (hcap : l.length ≤ cap) {lo hi : Int} (h0 : 0 ≤ lo) (h1 : lo ≤ hi) (h2 : hi ≤ (l.length : Int)) {mx : Nat} (hm : hi.toNat ≤ mx) (f : Bool) (hf : f = true → mx = hi.toNat) :
  relC π I (.rd f c ((l.take hi.toNat).drop lo.toNat)) (.slice (slA A lo.toNat mx c.sz) (hi.toNat - lo.toNat) (mx - lo.toNat)) := by
 have hl := sub_len (l := l) h0 h1 h2
 refine ⟨_, _, by rw [hl], by rw [hl]; omega, fun e => by rw [hl, hf e], ?_⟩
 by_cases hn : (l.take hi.toNat).drop lo.toNat = []
 ·rw [hn]; exact Rd.nil _ _ _
 ·have hlt : lo.toNat < hi.toNat := by
   have : 0 < ((l.take hi.toNat).drop lo.toNat).length := List.length_pos_iff.2 hn
   omega
  obtain ⟨g, o, rfl, hcell⟩ := hrd.2 (by rintro rfl; simp at hn)
  have hA : slA (some ⟨g, o, none⟩) lo.toNat mx c.sz = some ⟨g, o + lo.toNat * c.sz, none⟩ := by
   unfold slA
   rw [if_neg (by omega), Option.map_some, Addr.add_mid]
  rw [hA, ← c.ty_sz]
  exact Rd.drop (hrd.take _) _
theorem run_part {t e : TypeId} {sz : Nat} (hu : P.underlying t = some (.slice e)) (hz : (P.info? e).map (·.size) = some sz) {A : Option Addr} {n cap : Nat} (hcap : n ≤ cap) {lo hi mx : Option Int} {ylo yhi ymx : Option Value} (h1 : optInt lo ylo) (h2 : optInt hi yhi) (h3 : optInt mx ymx) (hnm : mx ≠ none → hi ≠ none)
  (k0 : 0 ≤ lo.getD 0) (k1 : lo.getD 0 ≤ hi.getD n) (k2 : hi.getD n ≤ mx.getD cap) (k3 : mx.getD cap ≤ cap) (w : World) :
  (Instr.sliceAt t (.slice A n cap) ylo yhi ymx).run P w = .ok (.slice (slA A (lo.getD 0).toNat (mx.getD cap).toNat sz) ((hi.getD n).toNat - (lo.getD 0).toNat) ((mx.getD cap).toNat - (lo.getD 0).toNat)) w := by
 obtain ⟨inf, hi', hsz⟩ := Option.map_eq_some_iff.1 hz
 obtain ⟨hu1, he⟩ := elem_of hu
 have h63 : ∀ x : Nat, ((x : Int)).toNat = x := fun x => Int.toNat_natCast x
 cases lo with
 | none =>
  cases ylo with
  | some _ => exact h1.elim
  | none =>
  cases hi with
  | none =>
   cases yhi with
   | some _ => exact h2.elim
   | none =>
   cases mx with
   | some _ => exact absurd rfl (hnm (by simp))
   | none =>
   cases ymx with
   | some _ => exact h3.elim
   | none =>
   simp only [Option.getD_none, h63] at *
   rw [run_sliceAt_slice w t _ _ _ _ hu1, run_slice_all w t A n cap hu1, he]
   simp only [sizeOf, typeInfo, hi', Sem.run_bind, Result.andThen]
   simp [hi', hsz, Result.andThen, sliced, slA]
  | some hi =>
   cases yhi with
   | none => exact h2.elim
   | some yhi =>
   obtain ⟨kh, rfl⟩ := h2
   cases mx with
   | none =>
    cases ymx with
    | some _ => exact h3.elim
    | none =>
    simp only [Option.getD_none, Option.getD_some, h63] at *
    rw [run_sliceAt_slice w t _ _ _ _ hu1, run_slice_h w t A n cap hu1 kh hi (by omega) (by omega), he]
    simp only [sizeOf, typeInfo, hi', Sem.run_bind, Result.andThen]
    simp [hi', hsz, Result.andThen, sliced, slA]
   | some mx =>
    cases ymx with
    | none => exact h3.elim
    | some ymx =>
    obtain ⟨km, rfl⟩ := h3
    simp only [Option.getD_none, Option.getD_some] at *
    rw [run_sliceAt_slice w t _ _ _ _ hu1, run_slice_hm w t A n cap hu1 kh km hi mx (by omega) (by omega) (by omega), he]
    simp only [sizeOf, typeInfo, hi', Sem.run_bind, Result.andThen]
    simp [hi', hsz, Result.andThen, sliced, slA]
 | some lo =>
  cases ylo with
  | none => exact h1.elim
  | some ylo =>
  obtain ⟨kl, rfl⟩ := h1
  cases hi with
  | none =>
   cases yhi with
   | some _ => exact h2.elim
   | none =>
   cases mx with
   | some _ => exact absurd rfl (hnm (by simp))
   | none =>
   cases ymx with
   | some _ => exact h3.elim
   | none =>
   simp only [Option.getD_none, Option.getD_some, h63] at *
   rw [run_sliceAt_slice w t _ _ _ _ hu1, run_slice_l w t A n cap hu1 kl lo (by omega) (by omega), he]
   simp only [sizeOf, typeInfo, hi', Sem.run_bind, Result.andThen]
   simp [hi', hsz, Result.andThen, sliced, slA]
  | some hi =>
   cases yhi with
   | none => exact h2.elim
   | some yhi =>
   obtain ⟨kh, rfl⟩ := h2
   cases mx with
   | none =>
    cases ymx with
    | some _ => exact h3.elim
    | none =>
    simp only [Option.getD_none, Option.getD_some, h63] at *
    rw [run_sliceAt_slice w t _ _ _ _ hu1, run_slice_lh w t A n cap hu1 kl kh lo hi (by omega) (by omega) (by omega), he]
    simp only [sizeOf, typeInfo, hi', Sem.run_bind, Result.andThen]
    simp [hi', hsz, Result.andThen, sliced, slA]
   | some mx =>
    cases ymx with
    | none => exact h3.elim
    | some ymx =>
    obtain ⟨km, rfl⟩ := h3
    simp only [Option.getD_some] at *
    rw [run_sliceAt_slice w t _ _ _ _ hu1, run_slice_lhm w t A n cap hu1 kl kh km lo hi mx (by omega) (by omega) (by omega) (by omega), he]
    simp only [sizeOf, typeInfo, hi', Sem.run_bind, Result.andThen]
    simp [hi', hsz, Result.andThen, sliced, slA]
theorem subTr_ok {m : AMem} {t e : TypeId} {c : TC} {l : List c.I} {fz : AMem} {lo hi mx : Option Int} {v : AV} {ws : AMem} {rs : List Nat} (hx : Tr.Ex m (subTr c l fz lo hi mx) v ws rs) (hu : P.underlying t = some (.slice e)) (hz : (P.info? e).map (·.size) = some c.sz)
  {A : Option Addr} {cap : Nat} (hrd : Rd c.ty I A l) (hcap : l.length ≤ cap) {ylo yhi ymx : Option Value} (h1 : optInt lo ylo) (h2 : optInt hi yhi) (h3 : optInt mx ymx) :
  ws = fz ∧ ∃ y, (Instr.sliceAt t (.slice A l.length cap) ylo yhi ymx).run P w = .ok y w ∧ relV π I v y := by
 have all_ : ∀ l : List c.I, l = (l.take ((l.length : Int)).toNat).drop (0 : Int).toNat := fun l => by simp
 unfold subTr at hx
 split at hx
 ·cases hx
  have hp := rd_part (π := π) hrd hcap (lo := 0) (hi := l.length) (Int.le_refl _) (by omega) (Int.le_refl _) (mx := cap) (by omega) false (fun e => by cases e)
  rw [← all_ l] at hp
  exact ⟨rfl, _, run_part hu hz hcap h1 h2 h3 (fun h => absurd rfl h) (by simp) (by simp) (by simp; omega) (by simp) w, rel_ac (by simpa using hp)⟩
 ·rename_i lo
  generalize hb : inb lo (l.length + 1) = b at hx
  cases hx with
  | chk hx =>
  cases hx
  obtain ⟨b0, b1⟩ := inb_spec hb
  have hp := rd_part (π := π) hrd hcap (lo := lo) (hi := l.length) b0 (by omega) (Int.le_refl _) (mx := cap) (by omega) false (fun e => by cases e)
  rw [show (l.take ((l.length : Int)).toNat) = l by simp] at hp
  exact ⟨rfl, _, run_part hu hz hcap h1 h2 h3 (fun h => absurd rfl h) (by simpa using b0) (by simp; omega) (by simp; omega) (by simp) w, rel_ac (by simpa using hp)⟩
 ·rename_i hi
  generalize hb : inb hi (l.length + 1) = b at hx
  cases hx with
  | chk hx =>
  cases hx
  obtain ⟨b0, b1⟩ := inb_spec hb
  have hp := rd_part (π := π) hrd hcap (lo := 0) (hi := hi) (Int.le_refl _) b0 (by omega) (mx := cap) (by omega) false (fun e => by cases e)
  exact ⟨rfl, _, run_part hu hz hcap h1 h2 h3 (fun h => absurd rfl h) (by simp) (by simpa using b0) (by simp; omega) (by simp) w, rel_ac (by simpa using hp)⟩
 ·rename_i lo hi
  generalize hb : inb hi (l.length + 1) = b at hx
  cases hx with
  | chk hx =>
  generalize hb2 : inb lo (hi.toNat + 1) = b at hx
  cases hx with
  | chk hx =>
  cases hx
  obtain ⟨b0, b1⟩ := inb_spec hb
  obtain ⟨b2, b3⟩ := inb_spec hb2
  have hp := rd_part (π := π) hrd hcap (lo := lo) (hi := hi) b2 (by omega) (by omega) (mx := cap) (by omega) false (fun e => by cases e)
  exact ⟨rfl, _, run_part hu hz hcap h1 h2 h3 (fun h => absurd rfl h) (by simpa using b2) (by simp; omega) (by simp; omega) (by simp) w, rel_ac (by simpa using hp)⟩
 ·rename_i hi mx
  generalize hd : decide (hi = mx) = b at hx
  cases hx with
  | chk hx =>
  generalize hb : inb hi (l.length + 1) = b at hx
  cases hx with
  | chk hx =>
  cases hx
  have hd := of_decide_eq_true hd
  subst hd
  obtain ⟨b0, b1⟩ := inb_spec hb
  have hp := rd_part (π := π) hrd hcap (lo := 0) (hi := hi) (Int.le_refl _) b0 (by omega) (mx := hi.toNat) (Nat.le_refl _) true (fun _ => rfl)
  exact ⟨rfl, _, run_part hu hz hcap h1 h2 h3 (fun _ h => by cases h) (by simp) (by simpa using b0) (by simp) (by simp; omega) w, rel_ac (by simpa using hp)⟩
 ·rename_i lo hi mx
  generalize hd : decide (hi = mx) = b at hx
  cases hx with
  | chk hx =>
  generalize hb : inb hi (l.length + 1) = b at hx
  cases hx with
  | chk hx =>
  generalize hb2 : inb lo (hi.toNat + 1) = b at hx
  cases hx with
  | chk hx =>
  cases hx
  have hd := of_decide_eq_true hd
  subst hd
  obtain ⟨b0, b1⟩ := inb_spec hb
  obtain ⟨b2, b3⟩ := inb_spec hb2
  have hp := rd_part (π := π) hrd hcap (lo := lo) (hi := hi) b2 (by omega) (by omega) (mx := hi.toNat) (Nat.le_refl _) true (fun _ => rfl)
  exact ⟨rfl, _, run_part hu hz hcap h1 h2 h3 (fun _ h => by cases h) (by simpa using b2) (by simp; omega) (by simp) (by simp; omega) w, rel_ac (by simpa using hp)⟩
 ·cases hx
theorem slcA_ok {m : AMem} (h : SA B I π (lk m) w) {t : TypeId} {a : AC} {y : Value} (ha : relC π I a y) {lo hi mx : Option Int} {ylo yhi ymx : Option Value} (h1 : optInt lo ylo) (h2 : optInt hi yhi) (h3 : optInt mx ymx) {v : AV} {ws : AMem} {rs : List Nat} (hx : Tr.Ex m (slcA P t a lo hi mx) v ws rs) :
  ∃ y' J, (Instr.sliceAt t y ylo yhi ymx).run P w = .ok y' w ∧ I.le J ∧ SA B J π (lk (ws ++ m)) w ∧ relV π J v y' := by
 unfold slcA at hx
 split at hx
 ·rename_i e hu
  split at hx
  ·rename_i f c l
   obtain ⟨A, cp, rfl, hle, _, hrd⟩ := ha
   generalize hz : (szT P e == some c.sz) = z at hx
   cases z with
   | false => cases hx
   | true =>
   simp only [cond_true] at hx
   obtain ⟨rfl, y', k1, k2⟩ := subTr_ok (w := w) (π := π) hx hu (szT_info (by simpa using hz)) hrd hle h1 h2 h3
   exact ⟨y', I, k1, Imm.le_refl _, h, k2⟩
  ·rename_i o
   cases hx with
   | look hx =>
    dsimp only at hx
    split at hx
    ·rename_i e' c l ho
     generalize hz : (szT P e == some c.sz) = z at hx
     cases z with
     | false => cases hx
     | true =>
     simp only [cond_true] at hx
     obtain ⟨J, hJ, hs, _⟩ := freeze1 (fz := []) h (FzOk.nil m) ho
     obtain ⟨p, hp, rfl⟩ := ha
     obtain ⟨p', q1, q2, q3, q4⟩ := atO_frz hs (o := o) (c := c) (l := l) (by rw [List.cons_append, lk_cons, if_pos rfl])
     rw [hp] at q1
     injection q1 with q1
     subst q1
     rw [q2]
     obtain ⟨rfl, y', k1, k2⟩ := subTr_ok (w := w) (π := π) hx hu (szT_info (by simpa using hz)) q4 q3 h1 h2 h3
     exact ⟨y', J, k1, hJ, hs, k2⟩
    ·rename_i c l ho
     generalize hz : (szT P e == some c.sz) = z at hx
     cases z with
     | false => cases hx
     | true =>
     simp only [cond_true] at hx
     obtain ⟨p, hp, rfl⟩ := ha
     obtain ⟨p', q1, q2, q3, q4⟩ := atO_frz h ho
     rw [hp] at q1
     injection q1 with q1
     subst q1
     rw [q2]
     obtain ⟨rfl, y', k1, k2⟩ := subTr_ok (w := w) (π := π) hx hu (szT_info (by simpa using hz)) q4 q3 h1 h2 h3
     exact ⟨y', I, k1, Imm.le_refl _, h, k2⟩
    ·cases hx
  ·cases hx
 ·cases hx

/-! ### conversions -/
theorem byteT_spec {t : TypeId} (h : byteT P t = true) : P.underlying t = some (.int .u8) := by
 unfold byteT at h
 split at h
 ·assumption
 ·cases h
theorem SA.got (h : SA B I π M w) {J : Imm} {w' : World} (g : Got w w' I J []) : SA B J π M w' :=
 h.step (fun _ => False) (Pi.le_refl _) g.le g.evo.os g.evo.tape g.evo.output g.evo.size (fun k hk _ => g.evo.blk k hk (fun f => f)) (fun _ _ => rfl) (fun o _ ho => h.dom o ho) (fun _ f => f.elim) (fun _ f => f.elim) (fun _ f => f.elim) (fun _ _ f => f.elim)
  g.im (fun a v ha => (g.inew a v ha).imp id .inr) (fun _ _ _ _ f => f.elim)
theorem toString_ok {src dst e : TypeId} (hs : P.underlying src = some (.slice e)) (he : P.underlying e = some (.int .u8)) (hd : P.underlying dst = some .string) {l : List Int} {y : Value} (h : RowAt I w (.int .u8) l y) :
  (convert src dst y).run P w = .ok (.string (strOfNums l)) w := by
 obtain ⟨S, cp, rfl, hle, hcase⟩ := h
 rcases hcase with rfl | ⟨g, o, cs, rfl, hr, hc⟩
 ·show (convert src dst (.slice S 0 cp)).run P w = _
  rw [run_convert_bytes_string w src dst e _ _ cp hs he hd]
  cases S <;> simp [Conv.bytesToString, loadCells, loadCellsFrom] <;> rfl
 ·have hcs : ∀ (l : List Int) (cs : List Value), Reps (Ty.int .u8) I l cs → cs = l.map (Value.int .u8) := by
   intro l
   induction l with
   | nil => intro cs h; exact h
   | cons x l ih =>
    rintro cs ⟨c0, c1, rfl, h0, h1⟩
    have h0 : c0 = [.int .u8 x] := h0
    rw [h0, ih c1 h1]
    rfl
  have := hcs l cs hr
  subst this
  refine run_convert_bytes_arg w src e hs he g o _ cp l rfl (fun i hi => ?_) dst hd
  rw [hc i (.int .u8 l[i]) (by simp [hi]), List.getD_eq_getElem?_getD, List.getElem?_eq_getElem hi]
  rfl
theorem convA_ok {m : AMem} (h : SA B I π (lk m) w) {sl : Operand → Option AV} {ρ : Operand → Value} {o : Oper} {src dst : TypeId} {x : Operand} (ho : o.op = .convert src dst x) (hx0 : ∀ av, sl x = some av → relV π I av (ρ x))
  {v : AV} {ws : AMem} {rs : List Nat} (hscal : Tr.Ex m (scalA P sl o) v ws rs → Does P (execOp ρ o) w (Post B I π v (lk (ws ++ m)))) (hx : Tr.Ex m (convA P sl o src dst x) v ws rs) : Does P (execOp ρ o) w (Post B I π v (lk (ws ++ m))) := by
 have hex : execOp ρ o = toNext (convert src dst (ρ x)) := by unfold execOp; rw [ho]; rfl
 have hof : ∀ a, ofAC (sl x) = some a → relC π I a (ρ x) := fun a ha => by
  unfold ofAC at ha
  split at ha
  ·rename_i a' hs
   injection ha with ha
   subst ha
   exact hx0 _ hs
  ·cases ha
 unfold convA at hx
 split at hx
 ·rename_i e a hs hd ha
  generalize hb : byteT P e = b at hx
  cases b with
  | false => cases hx
  | true =>
  simp only [cond_true] at hx
  obtain ⟨c, l, rs', h1, h2⟩ := rowTr_ok h (hof _ ha) hx
  split at h1
  ·rename_i l' hl
   cases h1
   rw [hex]
   exact Does.val (toString_ok hs (byteT_spec hb) hd (h2.cast hl)) (Post.here h ⟨rfl, rfl⟩)
  ·cases h1
 ·rename_i e s hs hd ha
  generalize hb : byteT P e = b at hx
  cases b with
  | false => cases hx
  | true =>
  simp only [cond_true] at hx
  generalize hq : decide (s.size ≤ 9223372036854775807) = q at hx
  cases hx with
  | chk hx =>
  cases hx
  obtain ⟨hy, _⟩ := hof _ ha
  refine RW.Does.mono ?_ (Does.toBytes (P := P) h.im hs hd (byteT_spec hb) (of_decide_eq_true hq) (by rw [hex, hy]))
  rintro y w' ⟨J, cap, rfl, hg, hle, hrd⟩
  exact ⟨π, J, Pi.le_refl _, hg.le, h.got hg, _, _, rfl, hle, (fun e => by cases e), hrd⟩
 ·exact hscal hx

/-! ### what the machine does itself -/
theorem scalA_ok {m : AMem} (h : SA B I π (lk m) w) {sl : Operand → Option AV} {ρ : Operand → Value} {o : Oper} (hsl : ∀ x ∈ o.op.operands, ∀ av, sl x = some av → relV π I av (ρ x))
  {v : AV} {ws : AMem} {rs : List Nat} (hx : Tr.Ex m (scalA P sl o) v ws rs) : Does P (execOp ρ o) w (Post B I π v (lk (ws ++ m))) := by
 unfold scalA at hx
 generalize hb : (noSelect o.op && o.op.operands.toList.all fun x => ((sl x).bind exact).isSome) = b at hx
 cases b with
 | false => cases hx
 | true =>
 simp only [cond_true] at hx
 rw [Bool.and_eq_true, List.all_eq_true] at hb
 have hcong : execOp ρ o = execOp (fun x => ((sl x).bind exact).getD undef) o := by
  refine execOp_congr o (fun cs b e => by have := hb.1; rw [e] at this; simp [noSelect] at this) (fun x hxo => ?_)
  obtain ⟨y, hy⟩ := Option.isSome_iff_exists.1 (hb.2 x (by simpa using hxo))
  obtain ⟨av, h1, h2⟩ := Option.bind_eq_some_iff.1 hy
  rw [hy]
  exact exact_rel h2 (hsl x hxo av h1)
 rw [hcong]
 split at hx
 ·rename_i y es hsim
  generalize hok : okV y = q at hx
  cases q with
  | false => cases hx
  | true =>
  cases hx
  exact .inl ⟨y, w, .inl (simQ_any _ _ _ _ hsim w), Post.here h (rel_back hok)⟩
 ·rename_i es hsim
  cases hx
  exact .inl ⟨undef, w, .inr ⟨simQ_any _ _ _ _ hsim w, rfl⟩, Post.here h ⟨[], rfl, trivial⟩⟩
 ·cases hx
end
end Go.Proofs.YtijhdekfbjafgaaGreat.AM
namespace Go.Proofs.YtijhdekfbjafgaaGreat.AM
open Go Go.RowKit Go.Proofs.YtijhdekfbjafgaaGreat.RW

section
variable {ρ : Type} {P : Program} {B : Base} {π : Pi} {w : World} {m : AMem}

def Sg.le (s s' : Sg) : Prop := ∀ i o, lk s.b i = some o → lk s'.b i = some o
theorem Sg.le_refl (s : Sg) : s.le s := fun _ _ h => h
theorem Sg.le_trans {a b c : Sg} (h : a.le b) (k : b.le c) : a.le c := fun i o e => k i o (h i o e)
def Sg.inj (s : Sg) : Prop := ∀ i j o, lk s.b i = some o → lk s.b j = some o → i = j
/-- Where the pattern's pieces lie. -/
def Ag (s : Sg) (π π' : Pi) : Prop := ∀ i o, lk s.b i = some o → ∀ p, π o = some p → π' i = some p
theorem Ag.mono {s s' : Sg} {π π' : Pi} (h : s.le s') (k : Ag s' π π') : Ag s π π' := fun i o e => k i o (h i o e)
def wk (π π' : Pi) (J : Imm) (a a' : AC) : Prop := ∀ J', J.le J' → ∀ y, relC π J' a y → relC π' J' a' y
theorem wk.mono {π π' : Pi} {J J' : Imm} {a a' : AC} (h : J.le J') (k : wk π π' J a a') : wk π π' J' a a' := fun J2 h2 y hy => k J2 (Imm.le_trans h h2) y hy

theorem any_snd {l : List (Nat × Nat)} {o : Nat} (h : l.any (fun p => Nat.beq p.2 o) = false) : ∀ i, lk l i ≠ some o := by
 induction l with
 | nil => intro i h; cases h
 | cons p l ih =>
  obtain ⟨j, q⟩ := p
  rw [List.any_cons, Bool.or_eq_false_iff] at h
  intro i hi
  rw [lk_cons] at hi
  split at hi
  ·injection hi with hi
   subst hi
   rw [Nat.beq_refl] at h
   cases h.1
  ·exact ih h.2 i hi
theorem Sg.bind_ok {s s' : Sg} {i o : Nat} (h : s.bind i o = some s') (hi : s.inj) : s.le s' ∧ s'.inj ∧ s'.fz = s.fz ∧ lk s'.b i = some o := by
 unfold Sg.bind at h
 split at h
 ·rename_i o' ho
  cases hb : Nat.beq o o' with
  | false => rw [hb] at h; cases h
  | true =>
   rw [hb] at h
   injection h with h
   subst h
   have := Nat.eq_of_beq_eq_true hb
   subst this
   exact ⟨Sg.le_refl _, hi, rfl, ho⟩
 ·rename_i hn
  cases hb : s.b.any (fun p => Nat.beq p.2 o) with
  | true => rw [hb] at h; cases h
  | false =>
   rw [hb] at h
   injection h with h
   subst h
   have hno := any_snd hb
   refine ⟨fun j q hj => ?_, fun j k q hj hk => ?_, rfl, by rw [lk_cons, if_pos rfl]⟩
   ·rw [lk_cons]
    by_cases e : i = j
    ·rw [← e, hn] at hj; cases hj
    ·rw [if_neg e]; exact hj
   ·rw [lk_cons] at hj hk
    split at hj
    ·rename_i e1
     injection hj with hj
     split at hk
     ·rename_i e2; exact e1.symm.trans e2
     ·subst hj; exact absurd hk (hno k)
    ·split at hk
     ·injection hk with hk
      subst hk; exact absurd hj (hno j)
     ·exact hi j k q hj hk
theorem Sg.binds_ok : ∀ {l r : List (Nat × Nat)} {s s' : Sg}, Sg.binds l r s = some s' → s.inj → s.le s' ∧ s'.inj ∧ s'.fz = s.fz ∧ ∀ (π π' : Pi), Ag s' π π' → ∀ ys, rl (relP π) r ys → rl (relP π') l ys
 | [], [], s, s', h, hi => by
  injection h with h
  subst h
  exact ⟨Sg.le_refl _, hi, rfl, fun _ _ _ ys hy => by cases ys with | nil => trivial | cons _ _ => exact hy.elim⟩
 | (i, j) :: l, (o, q) :: r, s, s', h, hi => by
  simp only [Sg.binds] at h
  cases hb : Nat.beq j q with
  | false => rw [hb] at h; cases h
  | true =>
   rw [hb] at h
   have hb := Nat.eq_of_beq_eq_true hb
   subst hb
   simp only [cond_true] at h
   split at h
   ·rename_i s1 h1
    obtain ⟨a1, a2, a3, a4⟩ := Sg.bind_ok h1 hi
    obtain ⟨b1, b2, b3, b4⟩ := Sg.binds_ok h a2
    refine ⟨Sg.le_trans a1 b1, b2, b3.trans a3, fun π π' hA ys hy => ?_⟩
    cases ys with
    | nil => exact hy.elim
    | cons y ys =>
     obtain ⟨⟨p, g, h5, h6, h7⟩, hy2⟩ := hy
     exact ⟨⟨p, g, hA i o (b1 i o a4) p h5, h6, h7⟩, b4 π π' hA ys hy2⟩
   ·cases h
 | [], _ :: _, _, _, h, _ => by cases h
 | _ :: _, [], _, _, h, _ => by cases h

def Tt (s : Sg) (τ : Nat → Nat) : Prop := ∀ i o, lk s.b i = some o → τ i = o
theorem Tt.mono {s s' : Sg} {τ : Nat → Nat} (h : s.le s') (k : Tt s' τ) : Tt s τ := fun i o e => k i o (h i o e)
theorem ofC_can {c : TC} {a : AC} {x : c.I} (h : c.ofC a = some x) (hc : canD a = true) : c.one x = a := by
 unfold TC.ofC at h
 split at h
 ·split at h
  ·rename_i e
   subst e
   injection h with h
   subst h
   rfl
  ·cases h
 ·injection h with h
  subst h
  rfl
 ·injection h with h
  subst h
  rfl
 ·rename_i f c' l
  cases f with
  | true => cases hc
  | false =>
   obtain ⟨ec, h2⟩ := TC.castL_eq h
   subst ec; subst h2
   rfl
 ·cases hc
 ·cases h
theorem ofCs_can : ∀ {c : TC} {l : List AC} {x : c.I} {r : List AC}, c.ofCs l = some (x, r) → l.all canD = true → c.cells x ++ r = l := by
 intro c
 induction c with
 | unit =>
  intro l x r h hc
  unfold TC.ofCs at h
  injection h with h
  injection h with h1 h2
  subst h2
  rfl
 | pair a b iha ihb =>
  intro l x r h hc
  unfold TC.ofCs at h
  split at h
  ·cases h
  ·rename_i x1 r1 h1
   split at h
   ·cases h
   ·rename_i y r2 h2
    injection h with h
    injection h with h3 h4
    subst h3; subst h4
    have e1 := iha h1 hc
    have hc2 : r1.all canD = true := by
     rw [← e1, List.all_append, Bool.and_eq_true] at hc
     exact hc.2
    have e2 := ihb h2 hc2
    show (a.cells x1 ++ b.cells y) ++ r2 = l
    rw [List.append_assoc, e2, e1]
 | int k =>
  intro l x r h hc
  cases l with
  | nil => simp [TC.ofCs] at h
  | cons a l =>
   simp only [TC.ofCs] at h
   split at h
   ·rename_i x' hx
    injection h with h
    injection h with h1 h2
    subst h1; subst h2
    rw [List.all_cons, Bool.and_eq_true] at hc
    have := ofC_can hx hc.1
    show [TC.one (.int k) x'] ++ l = _
    rw [this]; rfl
   ·cases h
 | bool =>
  intro l x r h hc
  cases l with
  | nil => simp [TC.ofCs] at h
  | cons a l =>
   simp only [TC.ofCs] at h
   split at h
   ·rename_i x' hx
    injection h with h
    injection h with h1 h2
    subst h1; subst h2
    rw [List.all_cons, Bool.and_eq_true] at hc
    have := ofC_can hx hc.1
    show [TC.one .bool x'] ++ l = _
    rw [this]; rfl
   ·cases h
 | str =>
  intro l x r h hc
  cases l with
  | nil => simp [TC.ofCs] at h
  | cons a l =>
   simp only [TC.ofCs] at h
   split at h
   ·rename_i x' hx
    injection h with h
    injection h with h1 h2
    subst h1; subst h2
    rw [List.all_cons, Bool.and_eq_true] at hc
    have := ofC_can hx hc.1
    show [TC.one .str x'] ++ l = _
    rw [this]; rfl
   ·cases h
 | row c _ =>
  intro l x r h hc
  cases l with
  | nil => simp [TC.ofCs] at h
  | cons a l =>
   simp only [TC.ofCs] at h
   split at h
   ·rename_i x' hx
    injection h with h
    injection h with h1 h2
    subst h1; subst h2
    rw [List.all_cons, Bool.and_eq_true] at hc
    have := ofC_can hx hc.1
    show [TC.one (.row c) x'] ++ l = _
    rw [this]; rfl
   ·cases h
theorem fzCs_can : ∀ {l : List AC} {s : Sg} {k : List AC → Sg → Tr ρ}, l.all canD = true → fzCs l s k = k l s
 | [], s, k, _ => rfl
 | a :: l, s, k, h => by
  rw [List.all_cons, Bool.and_eq_true] at h
  cases a with
  | sl o => cases h.1
  | _ => simp only [fzCs]; rw [fzCs_can h.2]
theorem ofC_wk {c : TC} {a : AC} {x : c.I} (h : c.ofC a = some x) (π π' : Pi) (J : Imm) : wk π π' J a (c.one x) := by
 intro J' _ y hy
 unfold TC.ofC at h
 split at h
 ·split at h
  ·rename_i e
   subst e
   injection h with h
   subst h
   exact hy
  ·cases h
 ·injection h with h
  subst h
  exact hy
 ·injection h with h
  subst h
  exact hy
 ·obtain ⟨e, h⟩ := TC.castL_eq h
  subst e; subst h
  obtain ⟨A, cp, h1, h2, _, h3⟩ := hy
  exact ⟨A, cp, h1, h2, (fun e => by cases e), h3⟩
 ·injection h with h
  subst h
  obtain ⟨rfl, _⟩ := hy
  exact ⟨none, 0, rfl, Nat.le_refl _, (fun e => by cases e), Rd.nil _ _ _⟩
 ·cases h

/-- What reading off a piece of a pattern leaves. -/
structure Rdn (B : Base) (π : Pi) (w : World) (m : AMem) (I : Imm) (s : Sg) (J : Imm) (s' : Sg) : Prop where
 le : I.le J
 sa : SA B J π (lk (s'.fz ++ m)) w
 fz : FzOk s'.fz m
 sl : s.le s'
 inj : s'.inj
 fl : ∀ o, lk s'.fz o = none → lk s.fz o = none
theorem Rdn.refl {I : Imm} {s : Sg} (h : SA B I π (lk (s.fz ++ m)) w) (hf : FzOk s.fz m) (hi : s.inj) : Rdn B π w m I s I s := ⟨Imm.le_refl _, h, hf, Sg.le_refl _, hi, fun _ h => h⟩
theorem Rdn.trans {I J K : Imm} {s s' s'' : Sg} (h : Rdn B π w m I s J s') (k : Rdn B π w m J s' K s'') : Rdn B π w m I s K s'' := ⟨Imm.le_trans h.le k.le, k.sa, k.fz, Sg.le_trans h.sl k.sl, k.inj, fun o ho => h.fl o (k.fl o ho)⟩

theorem rd_any {π' : Pi} {I J : Imm} {f : Bool} {c : TC} {l : List c.I} {y : Value} (hI : I.le J) (h : relC π I (.rd f c l) y) : relC π' J (.rd f c l) y := by
 obtain ⟨A, cp, h1, h2, h3, h4⟩ := h
 exact ⟨A, cp, h1, h2, h3, h4.ext hI⟩
/-- A row of the call's own, read off as data: it never turns from now on. -/
theorem frz_read {o : Nat} {s : Sg} {I : Imm} (h : SA B I π (lk (s.fz ++ m)) w) (hf : FzOk s.fz m) (hi : s.inj) {e : TypeId} {c : TC} {l : List c.I} (ho : lk m o = some (.row e c l)) :
  ∃ J, Rdn B π w m I s J ⟨s.b, (o, .frz c l) :: s.fz⟩ ∧ ∀ π', wk π π' J (.sl o) (.rd false c l) := by
 obtain ⟨J, hJ, hs, hf'⟩ := freeze1 h hf ho
 refine ⟨J, ⟨hJ, hs, hf', fun _ _ h => h, hi, fun x hx => ?_⟩, fun π' J' hJ' y hy => ?_⟩
 ·simp only [] at hx
  rw [lk_cons] at hx
  split at hx
  ·cases hx
  ·exact hx
 have h3 : relC π J (.rd false c l) y := rd_of_frz hs (o := o) (by rw [List.cons_append, lk_cons, if_pos rfl]) hy
 exact rd_any hJ' h3
theorem frz_there {o : Nat} {s : Sg} {I : Imm} (h : SA B I π (lk (s.fz ++ m)) w) (hf : FzOk s.fz m) {c : TC} {l : List c.I} (ho : lk m o = some (.frz c l)) (π' : Pi) : wk π π' I (.sl o) (.rd false c l) := by
 have hno : lk s.fz o = none := by
  cases hq : lk s.fz o with
  | none => rfl
  | some ob =>
   obtain ⟨e', c', l', _, h2⟩ := hf o ob hq
   rw [ho] at h2
   cases h2
 intro J' hJ' y hy
 have h3 : relC π I (.rd false c l) y := rd_of_frz h (o := o) (by rw [lk_append, hno, ho]; rfl) hy
 exact rd_any hJ' h3
theorem mPC_ok {p : PC} {a : AC} {s : Sg} {k : p.I → Sg → Tr ρ} {r : ρ} {ws : AMem} {rs : List Nat} {I : Imm} (hx : Tr.Ex m (mPC p a s k) r ws rs) (h : SA B I π (lk (s.fz ++ m)) w) (hf : FzOk s.fz m) (hi : s.inj) :
  ∃ x s' J rs', Tr.Ex m (k x s') r ws rs' ∧ Rdn B π w m I s J s' ∧ (∀ π', Ag s' π π' → wk π π' J a (p.inst id x)) ∧ (canC p a = true → ∀ τ, Tt s' τ → p.inst τ x = a) := by
 cases p with
 | h c =>
  have data : (∀ o, a ≠ .sl o) → Tr.Ex m (match c.ofC a with | some x => k x s | none => .fail) r ws rs → ∃ x s' J rs', Tr.Ex m (k x s') r ws rs' ∧ Rdn B π w m I s J s' ∧ (∀ π', Ag s' π π' → wk π π' J a (PC.inst id (.h c) x)) ∧ (canC (.h c) a = true → ∀ τ, Tt s' τ → PC.inst τ (.h c) x = a) := by
   intro _ hx
   split at hx
   ·rename_i x hc
    exact ⟨x, s, I, _, hx, .refl h hf hi, fun π' _ => ofC_wk hc π π' I, fun hcan τ _ => ofC_can hc hcan⟩
   ·cases hx
  cases a with
  | sl o =>
   cases c with
   | row c' =>
    simp only [mPC] at hx
    cases hx with
    | look hx =>
     dsimp only at hx
     split at hx
     ·rename_i e c2 l ho
      split at hx
      ·rename_i l' hl
       obtain ⟨ec, h2⟩ := TC.castL_eq hl
       subst ec; subst h2
       obtain ⟨J, h1, h2⟩ := frz_read h hf hi ho
       exact ⟨l, _, J, _, hx, h1, fun π' _ => h2 π', fun hcan => by cases hcan⟩
      ·cases hx
     ·rename_i c2 l ho
      split at hx
      ·rename_i l' hl
       obtain ⟨ec, h2⟩ := TC.castL_eq hl
       subst ec; subst h2
       exact ⟨l, s, I, _, hx, .refl h hf hi, fun π' _ => frz_there h hf ho π', fun hcan => by cases hcan⟩
      ·cases hx
     ·cases hx
   | _ => simp only [mPC] at hx; cases hx
  | _ => exact data (fun o e => by cases e) hx
 | full c =>
  simp only [mPC] at hx
  split at hx
  ·split at hx
   ·rename_i l' hl
    obtain ⟨ec, h2⟩ := TC.castL_eq hl
    subst ec; subst h2
    exact ⟨_, s, I, _, hx, .refl h hf hi, fun π' _ J' _ y hy => hy, fun _ _ _ => rfl⟩
   ·cases hx
  ·cases hx
 | sl i =>
  cases a with
  | sl o =>
   simp only [mPC] at hx
   split at hx
   ·rename_i s' hb
    obtain ⟨a1, a2, a3, a4⟩ := Sg.bind_ok hb hi
    refine ⟨(), s', I, _, hx, ⟨Imm.le_refl _, by rw [a3]; exact h, by rw [a3]; exact hf, a1, a2, fun o ho => by rw [a3] at ho; exact ho⟩, fun π' hA J' _ y hy => ?_, fun _ τ ht => by show AC.sl (τ i) = _; rw [ht i o a4]⟩
    obtain ⟨p, h1, h2⟩ := hy
    exact ⟨p, hA i o a4 p h1, h2⟩
   ·cases hx
  | _ => simp only [mPC] at hx; cases hx
 | sb i q =>
  cases a with
  | sb o q' =>
   simp only [mPC] at hx
   cases hq : Nat.beq q q' with
   | false => rw [hq] at hx; cases hx
   | true =>
    rw [hq] at hx
    have hq := Nat.eq_of_beq_eq_true hq
    subst hq
    simp only [cond_true] at hx
    split at hx
    ·rename_i s' hb
     obtain ⟨a1, a2, a3, a4⟩ := Sg.bind_ok hb hi
     refine ⟨(), s', I, _, hx, ⟨Imm.le_refl _, by rw [a3]; exact h, by rw [a3]; exact hf, a1, a2, fun o ho => by rw [a3] at ho; exact ho⟩, fun π' hA J' _ y hy => ?_, fun _ τ ht => by show AC.sb (τ i) _ = _; rw [ht i o a4]⟩
     obtain ⟨p, g, h1, h2⟩ := hy
     exact ⟨p, g, hA i o a4 p h1, h2⟩
    ·cases hx
  | _ => simp only [mPC] at hx; cases hx
 | ptr i q =>
  cases a with
  | ptr o q' =>
   simp only [mPC] at hx
   cases hq : Nat.beq q q' with
   | false => rw [hq] at hx; cases hx
   | true =>
    rw [hq] at hx
    have hq := Nat.eq_of_beq_eq_true hq
    subst hq
    simp only [cond_true] at hx
    split at hx
    ·rename_i s' hb
     obtain ⟨a1, a2, a3, a4⟩ := Sg.bind_ok hb hi
     refine ⟨(), s', I, _, hx, ⟨Imm.le_refl _, by rw [a3]; exact h, by rw [a3]; exact hf, a1, a2, fun o ho => by rw [a3] at ho; exact ho⟩, fun π' hA J' _ y hy => ?_, fun _ τ ht => by show AC.ptr (τ i) _ = _; rw [ht i o a4]⟩
     obtain ⟨p, g, h1, h2⟩ := hy
     exact ⟨p, g, hA i o a4 p h1, h2⟩
    ·cases hx
  | _ => simp only [mPC] at hx; cases hx
 | fn f l1 l2 =>
  cases a with
  | fn g r1 r2 =>
   cases g with
   | func g =>
    simp only [mPC] at hx
    cases hq : Nat.beq f g with
    | false => rw [hq] at hx; cases hx
    | true =>
     rw [hq] at hx
     have hq := Nat.eq_of_beq_eq_true hq
     subst hq
     simp only [cond_true] at hx
     split at hx
     ·rename_i s1 hb
      split at hx
      ·rename_i s2 hb2
       obtain ⟨a1, a2, a3, a4⟩ := Sg.binds_ok hb hi
       obtain ⟨b1, b2, b3, b4⟩ := Sg.binds_ok hb2 a2
       refine ⟨(), s2, I, _, hx, ⟨Imm.le_refl _, by rw [b3, a3]; exact h, by rw [b3, a3]; exact hf, Sg.le_trans a1 b1, b2, fun o ho => by rw [b3, a3] at ho; exact ho⟩, fun π' hA J' _ y hy => ?_, fun hcan => by cases hcan⟩
       obtain ⟨xs, ys, h1, h2, h3⟩ := hy
       have e0 : ∀ l : List (Nat × Nat), (l.map fun p => (id p.1, p.2)) = l := fun l => by simp
       refine ⟨xs, ys, h1, ?_, ?_⟩
       ·rw [e0]; exact a4 π π' (hA.mono b1) xs h2
       ·rw [e0]; exact b4 π π' hA ys h3
      ·cases hx
     ·cases hx
   | _ => simp only [mPC] at hx; cases hx
  | _ => simp only [mPC] at hx; cases hx
theorem mPCs_ok : ∀ {ps : List PC} {l : List AC} {s : Sg} {k : PCsI ps → Sg → Tr ρ} {r : ρ} {ws : AMem} {rs : List Nat} {I : Imm}, Tr.Ex m (mPCs ps l s k) r ws rs → SA B I π (lk (s.fz ++ m)) w → FzOk s.fz m → s.inj →
  ∃ x s' J rs', Tr.Ex m (k x s') r ws rs' ∧ Rdn B π w m I s J s' ∧ (∀ π', Ag s' π π' → rl (wk π π' J) l (instCs id ps x)) ∧ (canCs ps l = true → ∀ τ, Tt s' τ → instCs τ ps x = l)
 | [], [], s, k, r, ws, rs, I, hx, h, hf, hi => ⟨(), s, I, rs, hx, .refl h hf hi, fun _ _ => trivial, fun _ _ _ => rfl⟩
 | p :: ps, a :: l, s, k, r, ws, rs, I, hx, h, hf, hi => by
  obtain ⟨x, s1, J1, rs1, h1, h2, h3, h4⟩ := mPC_ok (p := p) hx h hf hi
  obtain ⟨xs, s2, J2, rs2, k1, k2, k3, k4⟩ := mPCs_ok h1 h2.sa h2.fz h2.inj
  refine ⟨(x, xs), s2, J2, rs2, k1, h2.trans k2, fun π' hA => ⟨(h3 π' (hA.mono k2.sl)).mono k2.le, k3 π' hA⟩, fun hc τ ht => ?_⟩
  simp only [canCs, Bool.and_eq_true] at hc
  show p.inst τ x :: instCs τ ps xs = a :: l
  rw [h4 hc.1 τ (ht.mono k2.sl), k4 hc.2 τ ht]
 | [], _ :: _, _, _, _, _, _, _, hx, _, _, _ => by cases hx
 | _ :: _, [], _, _, _, _, _, _, hx, _, _, _ => by cases hx
theorem wk.refl_of (π' : Pi) {J : Imm} {a : AC} (h : ∀ J' y, relC π J' a y → relC π' J' a y) : wk π π' J a a := fun J' _ y hy => h J' y hy

/-- The cells' rows are frozen. -/
theorem fzCs_rdn : ∀ {l : List AC} {s : Sg} {k : List AC → Sg → Tr ρ} {r : ρ} {ws : AMem} {rs : List Nat} {I : Imm}, Tr.Ex m (fzCs l s k) r ws rs → SA B I π (lk (s.fz ++ m)) w → FzOk s.fz m → s.inj →
  ∃ l' s' J rs', Tr.Ex m (k l' s') r ws rs' ∧ Rdn B π w m I s J s' ∧ rl (wk π π J) l l' := by
 intro l
 induction l with
 | nil => intro s k r ws rs I hx h hf hi; exact ⟨[], s, I, rs, hx, .refl h hf hi, trivial⟩
 | cons a l ih =>
  intro s k r ws rs I hx h hf hi
  have plain : Tr.Ex m (fzCs l s fun az s => k (a :: az) s) r ws rs → ∃ l' s' J rs', Tr.Ex m (k l' s') r ws rs' ∧ Rdn B π w m I s J s' ∧ rl (wk π π J) (a :: l) l' := by
   intro hx2
   obtain ⟨l', s', J, rs', h1, h2, h3⟩ := ih hx2 h hf hi
   exact ⟨_, s', J, rs', h1, h2, .refl_of π (fun _ _ h => h), h3⟩
  cases a with
  | sl o =>
   simp only [fzCs] at hx
   cases hx with
   | look hx =>
    dsimp only at hx
    split at hx
    ·rename_i e c l0 ho
     obtain ⟨J, h1, h2⟩ := frz_read h hf hi ho
     obtain ⟨l', s', J', rs', k1, k2, k3⟩ := ih (s := ⟨s.b, (o, .frz c l0) :: s.fz⟩) hx h1.sa h1.fz h1.inj
     exact ⟨_, s', J', rs', k1, h1.trans k2, (h2 π).mono k2.le, k3⟩
    ·rename_i c l0 ho
     obtain ⟨l', s', J', rs', k1, k2, k3⟩ := ih hx h hf hi
     exact ⟨_, s', J', rs', k1, k2, (frz_there h hf ho π).mono k2.le, k3⟩
    ·cases hx
  | _ => exact plain hx
/-- Data told cell by cell, whatever the pieces' places. -/
theorem ofCs_wk {c : TC} {l : List AC} {x : c.I} (h : c.ofCs l = some (x, [])) (π π' : Pi) {J : Imm} {ys : List Value} (hr : rl (relC π J) l ys) : rl (relC π' J) (c.cells x) ys := by
 obtain ⟨c0, c1, rfl, hk, hn⟩ := TC.ofCs_K h hr
 cases c1 with
 | cons _ _ => exact hn.elim
 | nil =>
  rw [List.append_nil]
  exact TC.cells_rel c x c0 hk
/-- Cells that are told by fewer words. -/
def wkL (π π' : Pi) (J : Imm) (l l' : List AC) : Prop := ∀ J', J.le J' → ∀ ys, rl (relC π J') l ys → rl (relC π' J') l' ys
theorem wkL_of {π π' : Pi} {J : Imm} : ∀ {l l' : List AC}, rl (wk π π' J) l l' → wkL π π' J l l'
 | [], [], _ => fun _ _ ys h => by cases ys with | nil => trivial | cons _ _ => exact h.elim
 | a :: l, b :: l', h => fun J' hJ ys hy => by
  cases ys with
  | nil => exact hy.elim
  | cons y ys => exact ⟨h.1 J' hJ y hy.1, wkL_of h.2 J' hJ ys hy.2⟩
 | [], _ :: _, h => h.elim
 | _ :: _, [], h => h.elim
theorem mSt_ok {c : TC} {l : List AC} {s : Sg} {k : c.I → Sg → Tr ρ} {r : ρ} {ws : AMem} {rs : List Nat} {I : Imm} (hx : Tr.Ex m (mSt c l s k) r ws rs) (h : SA B I π (lk (s.fz ++ m)) w) (hf : FzOk s.fz m) (hi : s.inj) :
  ∃ x s' J rs', Tr.Ex m (k x s') r ws rs' ∧ Rdn B π w m I s J s' ∧ (∀ π', wkL π π' J l (c.cells x)) ∧ (l.all canD = true → c.cells x = l) := by
 cases hc0 : l.all canD with
 | true =>
  unfold mSt at hx
  rw [fzCs_can hc0] at hx
  split at hx
  ·rename_i x hc
   exact ⟨x, s, I, _, hx, .refl h hf hi, fun π' J' _ ys hy => ofCs_wk hc π π' hy, fun _ => by have := ofCs_can hc hc0; rwa [List.append_nil] at this⟩
  ·cases hx
 | false =>
 obtain ⟨l', s', J, rs', h1, h2, h3⟩ := fzCs_rdn hx h hf hi
 split at h1
 ·rename_i x hc
  exact ⟨x, s', J, rs', h1, h2, fun π' J' hJ ys hy => ofCs_wk hc π π' (wkL_of h3 J' hJ ys hy), fun e => by cases e⟩
 ·cases h1
def wkW (π π' : Pi) (J : Imm) (a a' : AW) : Prop := ∀ J', J.le J' → ∀ y, relW π J' a y → relW π' J' a' y
theorem wkW.mono {π π' : Pi} {J J' : Imm} {a a' : AW} (h : J.le J') (k : wkW π π' J a a') : wkW π π' J' a a' := fun J2 h2 y hy => k J2 (Imm.le_trans h h2) y hy
theorem mPW_ok {p : PW} {a : AW} {s : Sg} {k : p.I → Sg → Tr ρ} {r : ρ} {ws : AMem} {rs : List Nat} {I : Imm} (hx : Tr.Ex m (mPW p a s k) r ws rs) (h : SA B I π (lk (s.fz ++ m)) w) (hf : FzOk s.fz m) (hi : s.inj) :
  ∃ x s' J rs', Tr.Ex m (k x s') r ws rs' ∧ Rdn B π w m I s J s' ∧ ∀ π', Ag s' π π' → wkW π π' J a (p.inst id x) := by
 cases p with
 | c p =>
  cases a with
  | c a =>
   obtain ⟨x, s1, J1, rs1, h1, h2, h3, _⟩ := mPC_ok (p := p) hx h hf hi
   exact ⟨x, s1, J1, rs1, h1, h2, h3⟩
  | agg l => simp only [mPW] at hx; cases hx
 | st c =>
  cases a with
  | c a => simp only [mPW] at hx; cases hx
  | agg l =>
   obtain ⟨x, s1, J1, rs1, h1, h2, h3, _⟩ := mSt_ok (c := c) hx h hf hi
   refine ⟨x, s1, J1, rs1, h1, h2, fun π' _ J' hJ y hy => ?_⟩
   obtain ⟨ys, e1, e2⟩ := hy
   exact ⟨ys, e1, h3 π' J' hJ ys e2⟩
 | agg ps =>
  cases a with
  | c a => simp only [mPW] at hx; cases hx
  | agg l =>
   obtain ⟨x, s1, J1, rs1, h1, h2, h3, _⟩ := mPCs_ok (ps := ps) hx h hf hi
   refine ⟨x, s1, J1, rs1, h1, h2, fun π' hA J' hJ y hy => ?_⟩
   obtain ⟨ys, e1, e2⟩ := hy
   exact ⟨ys, e1, wkL_of (h3 π' hA) J' hJ ys e2⟩
theorem mPWs_ok : ∀ {ps : List PW} {l : List AW} {s : Sg} {k : PWsI ps → Sg → Tr ρ} {r : ρ} {ws : AMem} {rs : List Nat} {I : Imm}, Tr.Ex m (mPWs ps l s k) r ws rs → SA B I π (lk (s.fz ++ m)) w → FzOk s.fz m → s.inj →
  ∃ x s' J rs', Tr.Ex m (k x s') r ws rs' ∧ Rdn B π w m I s J s' ∧ ∀ π', Ag s' π π' → rl (wkW π π' J) l (instWs id ps x)
 | [], [], s, k, r, ws, rs, I, hx, h, hf, hi => ⟨(), s, I, rs, hx, .refl h hf hi, fun _ _ => trivial⟩
 | p :: ps, a :: l, s, k, r, ws, rs, I, hx, h, hf, hi => by
  obtain ⟨x, s1, J1, rs1, h1, h2, h3⟩ := mPW_ok (p := p) hx h hf hi
  obtain ⟨xs, s2, J2, rs2, k1, k2, k3⟩ := mPWs_ok h1 h2.sa h2.fz h2.inj
  exact ⟨(x, xs), s2, J2, rs2, k1, h2.trans k2, fun π' hA => ⟨(h3 π' (hA.mono k2.sl)).mono k2.le, k3 π' hA⟩⟩
 | [], _ :: _, _, _, _, _, _, _, hx, _, _, _ => by cases hx
 | _ :: _, [], _, _, _, _, _, _, hx, _, _, _ => by cases hx
theorem wkWs_of {π π' : Pi} {J : Imm} : ∀ {l l' : List AW}, rl (wkW π π' J) l l' → ∀ J', J.le J' → ∀ ys, rl (relW π J') l ys → rl (relW π' J') l' ys
 | [], [], _ => fun _ _ ys h => by cases ys with | nil => trivial | cons _ _ => exact h.elim
 | a :: l, b :: l', h => fun J' hJ ys hy => by
  cases ys with
  | nil => exact hy.elim
  | cons y ys => exact ⟨h.1 J' hJ y hy.1, wkWs_of h.2 J' hJ ys hy.2⟩
 | [], _ :: _, h => h.elim
 | _ :: _, [], h => h.elim
def wkV (π π' : Pi) (J : Imm) (a a' : AV) : Prop := ∀ J', J.le J' → ∀ y, relV π J' a y → relV π' J' a' y
theorem wkV.mono {π π' : Pi} {J J' : Imm} {a a' : AV} (h : J.le J') (k : wkV π π' J a a') : wkV π π' J' a a' := fun J2 h2 y hy => k J2 (Imm.le_trans h h2) y hy
theorem mPV_ok {p : PV} {a : AV} {s : Sg} {k : p.I → Sg → Tr ρ} {r : ρ} {ws : AMem} {rs : List Nat} {I : Imm} (hx : Tr.Ex m (mPV p a s k) r ws rs) (h : SA B I π (lk (s.fz ++ m)) w) (hf : FzOk s.fz m) (hi : s.inj) :
  ∃ x s' J rs', Tr.Ex m (k x s') r ws rs' ∧ Rdn B π w m I s J s' ∧ ∀ π', Ag s' π π' → wkV π π' J a (p.inst id x) := by
 cases p with
 | w p =>
  cases a with
  | w a =>
   obtain ⟨x, s1, J1, rs1, h1, h2, h3⟩ := mPW_ok (p := p) hx h hf hi
   exact ⟨x, s1, J1, rs1, h1, h2, h3⟩
  | tup l => simp only [mPV] at hx; cases hx
 | tup ps =>
  cases a with
  | w a => simp only [mPV] at hx; cases hx
  | tup l =>
   obtain ⟨x, s1, J1, rs1, h1, h2, h3⟩ := mPWs_ok (ps := ps) hx h hf hi
   refine ⟨x, s1, J1, rs1, h1, h2, fun π' hA J' hJ y hy => ?_⟩
   obtain ⟨ys, e1, e2⟩ := hy
   exact ⟨ys, e1, wkWs_of (h3 π' hA) J' hJ ys e2⟩
theorem mSl_ok {sl : ASl} : ∀ {ps : List (Nat × PV)} {s : Sg} {k : SlI ps → Sg → Tr ρ} {r : ρ} {ws : AMem} {rs : List Nat} {I : Imm}, Tr.Ex m (mSl ps sl s k) r ws rs → SA B I π (lk (s.fz ++ m)) w → FzOk s.fz m → s.inj →
  ∃ x s' J rs', Tr.Ex m (k x s') r ws rs' ∧ Rdn B π w m I s J s' ∧ ∀ π', Ag s' π π' → ∀ t av, lk (instSl id ps x) t = some av → ∃ av0, lk sl t = some av0 ∧ wkV π π' J av0 av
 | [], s, k, r, ws, rs, I, hx, h, hf, hi => ⟨(), s, I, rs, hx, .refl h hf hi, fun _ _ t av h => by cases h⟩
 | p :: ps, s, k, r, ws, rs, I, hx, h, hf, hi => by
  simp only [mSl] at hx
  split at hx
  ·rename_i a ha
   obtain ⟨x, s1, J1, rs1, h1, h2, h3⟩ := mPV_ok (p := p.2) hx h hf hi
   obtain ⟨xs, s2, J2, rs2, k1, k2, k3⟩ := mSl_ok (ps := ps) h1 h2.sa h2.fz h2.inj
   refine ⟨(x, xs), s2, J2, rs2, k1, h2.trans k2, fun π' hA t av ht => ?_⟩
   simp only [instSl] at ht
   rw [lk_cons] at ht
   split at ht
   ·rename_i e
    injection ht with ht
    subst ht
    exact ⟨a, by rw [← e]; exact ha, (h3 π' (hA.mono k2.sl)).mono k2.le⟩
   ·exact k3 π' hA t av ht
  ·cases hx
/-- A piece, told by fewer words, under another number. -/
def wkO (π π' : Pi) (J : Imm) (w : World) (o i : Nat) (ob ob' : AObj) : Prop := (∀ J', J.le J' → atO π J' w o (some ob) → atO π' J' w i (some ob')) ∧ ∀ k, fpO π' i (some ob') k → atO π J w o (some ob) → fpO π o (some ob) k
theorem wkO.mono {π π' : Pi} {J J' : Imm} {o i : Nat} {ob ob' : AObj} (h : J.le J') (k : wkO π π' J w o i ob ob') (hat : atO π J w o (some ob)) : wkO π π' J' w o i ob ob' :=
 ⟨fun J2 h2 => k.1 J2 (Imm.le_trans h h2), fun q hq _ => k.2 q hq hat⟩
theorem wkO_blk {π π' : Pi} {J : Imm} {o i : Nat} {ty : TypeId} {cs cs' : List AC} (hp : ∀ p, π o = some p → π' i = some p) (h : wkL π π' J cs cs') : wkO π π' J w o i (.blk ty cs) (.blk ty cs') := by
 refine ⟨fun J' hJ ⟨p, g, ys, h1, h2, h3, h4⟩ => ⟨p, g, ys, hp p h1, h2, h J' hJ ys h3, h4⟩, fun k hk hat => ?_⟩
 obtain ⟨p, g, ys, h1, h2, _⟩ := hat
 obtain ⟨p', k1, k2⟩ := hk
 rw [hp p h1] at k1
 injection k1 with k1
 subst k1
 exact ⟨p, h1, k2⟩
theorem mPO_ok {p : PO} {ob : AObj} {o i : Nat} {s : Sg} {k : p.I → Sg → Tr ρ} {r : ρ} {ws : AMem} {rs : List Nat} {I : Imm} (hx : Tr.Ex m (mPO p (some ob) s k) r ws rs) (h : SA B I π (lk (s.fz ++ m)) w) (hf : FzOk s.fz m) (hi : s.inj) :
  ∃ x s' J rs', Tr.Ex m (k x s') r ws rs' ∧ Rdn B π w m I s J s' ∧ (∀ π', Ag s' π π' → (∀ p, π o = some p → π' i = some p) → wkO π π' J w o i ob (p.inst id x)) ∧ (canO p ob = true → ∀ τ, Tt s' τ → p.inst τ x = ob) := by
 cases p with
 | blk ty ps =>
  cases ob with
  | blk ty' cs =>
   simp only [mPO] at hx
   cases hq : Nat.beq ty ty' with
   | false => rw [hq] at hx; cases hx
   | true =>
    rw [hq] at hx
    have hq := Nat.eq_of_beq_eq_true hq
    subst hq
    obtain ⟨x, s1, J1, rs1, h1, h2, h3, h4⟩ := mPCs_ok (ps := ps) hx h hf hi
    exact ⟨x, s1, J1, rs1, h1, h2, fun π' hA hp => wkO_blk hp (wkL_of (h3 π' hA)), fun hc τ ht => by show AObj.blk ty (instCs τ ps x) = _; rw [h4 hc τ ht]⟩
  | _ => simp only [mPO] at hx; cases hx
 | stb ty c =>
  cases ob with
  | blk ty' cs =>
   simp only [mPO] at hx
   cases hq : Nat.beq ty ty' with
   | false => rw [hq] at hx; cases hx
   | true =>
    rw [hq] at hx
    have hq := Nat.eq_of_beq_eq_true hq
    subst hq
    obtain ⟨x, s1, J1, rs1, h1, h2, h3, h4⟩ := mSt_ok (c := c) hx h hf hi
    exact ⟨x, s1, J1, rs1, h1, h2, fun π' hA hp => wkO_blk hp (h3 π'), fun hc τ ht => by show AObj.blk ty (c.cells x) = _; rw [h4 hc]⟩
  | _ => simp only [mPO] at hx; cases hx
 | row e c =>
  cases ob with
  | row e' c' l =>
   simp only [mPO] at hx
   cases hq : Nat.beq e e' with
   | false => rw [hq] at hx; cases hx
   | true =>
    rw [hq] at hx
    have hq := Nat.eq_of_beq_eq_true hq
    subst hq
    simp only [cond_true] at hx
    split at hx
    ·rename_i l' hl
     obtain ⟨ec, h2⟩ := TC.castL_eq hl
     subst ec; subst h2
     refine ⟨l, s, I, _, hx, .refl h hf hi, fun π' _ hp => ⟨fun J' hJ ⟨p, cs, h1, h2, h3, h4⟩ => ⟨p, cs, hp p h1, h2, h3, h4⟩, fun k hk hat => ?_⟩, fun _ _ _ => rfl⟩
     obtain ⟨p, cs, h1, _⟩ := hat
     obtain ⟨p', a, k1, k2⟩ := hk
     rw [hp p h1] at k1
     injection k1 with k1
     subst k1
     exact ⟨p, a, h1, k2⟩
    ·cases hx
  | _ => simp only [mPO] at hx; cases hx
 | frz c =>
  cases ob with
  | frz c' l =>
   simp only [mPO] at hx
   split at hx
   ·rename_i l' hl
    obtain ⟨ec, h2⟩ := TC.castL_eq hl
    subst ec; subst h2
    exact ⟨l, s, I, _, hx, .refl h hf hi, fun π' _ hp => ⟨fun J' hJ ⟨p, h1, h2⟩ => ⟨p, hp p h1, h2⟩, fun k hk _ => hk.elim⟩, fun _ _ _ => rfl⟩
   ·cases hx
  | _ => simp only [mPO] at hx; cases hx
 | gone => exact ⟨(), s, I, _, hx, .refl h hf hi, fun π' _ _ => ⟨fun _ _ _ => trivial, fun k hk _ => hk.elim⟩, fun e => by cases ob <;> cases e⟩
 | same => exact ⟨(), s, I, _, hx, .refl h hf hi, fun π' _ _ => ⟨fun _ _ _ => trivial, fun k hk _ => hk.elim⟩, fun e => by cases ob <;> cases e⟩
theorem mPO_some {p : PO} {ob : Option AObj} {s : Sg} {k : p.I → Sg → Tr ρ} {r : ρ} {ws : AMem} {rs : List Nat} (hp : p.real = true) (hx : Tr.Ex m (mPO p ob s k) r ws rs) : ∃ ob', ob = some ob' ∧ ob' ≠ .gone := by
 cases p with
 | gone => cases hp
 | same => cases hp
 | blk ty ps =>
  simp only [mPO] at hx
  split at hx
  ·exact ⟨_, rfl, fun e => by cases e⟩
  ·cases hx
 | stb ty c =>
  simp only [mPO] at hx
  split at hx
  ·exact ⟨_, rfl, fun e => by cases e⟩
  ·cases hx
 | row e c =>
  simp only [mPO] at hx
  split at hx
  ·exact ⟨_, rfl, fun e => by cases e⟩
  ·cases hx
 | frz c =>
  simp only [mPO] at hx
  split at hx
  ·exact ⟨_, rfl, fun e => by cases e⟩
  ·cases hx
/-- What a pattern's piece is read off. -/
def ObAt (π π' : Pi) (J : Imm) (w : World) (m : AMem) (s : Sg) (i : Nat) (ps : Option PO) (M : Option AObj) : Prop :=
 M = some .gone ∨ (M = none ∧ ps = some .same) ∨ ∃ (o : Nat) (ob : AObj) (po : PO) (z : po.I), lk s.b i = some o ∧ ps = some po ∧ po.real = true ∧ lk m o = some ob ∧ ob ≠ .gone ∧ M = some (po.inst id z) ∧ (lk s.fz o = none → wkO π π' J w o i ob (po.inst id z)) ∧ (canO po ob = true → ∀ τ, Tt s τ → po.inst τ z = ob)
theorem instOb_real (τ : Nat → Nat) {p : PO} {ps : List PO} {n : Nat} {x : ObI (p :: ps)} (h : p.isSame = false) : instOb τ (p :: ps) n x = (τ n, p.inst τ x.1) :: instOb τ ps (n + 1) x.2 := by
 show (bif p.isSame then _ else _) = _
 rw [h]
 rfl
theorem instOb_same (τ : Nat → Nat) {p : PO} {ps : List PO} {n : Nat} {x : ObI (p :: ps)} (h : p.isSame = true) : instOb τ (p :: ps) n x = instOb τ ps (n + 1) x.2 := by
 show (bif p.isSame then _ else _) = _
 rw [h]
 rfl
theorem instOb_lt (τ : Nat → Nat) : ∀ {ps : List PO} {n : Nat} {x : ObI ps} {o : Nat}, (∀ i, n ≤ i → i < n + ps.length → τ i ≠ o) → lk (instOb τ ps n x) o = none
 | [], _, _, _, _ => rfl
 | p :: ps, n, x, o, h => by
  have ih := instOb_lt τ (ps := ps) (n := n + 1) (x := x.2) (o := o) (fun i h1 h2 => h i (by omega) (by simp; omega))
  cases hs : p.isSame with
  | true => rw [instOb_same τ hs]; exact ih
  | false =>
   rw [instOb_real τ hs, lk_cons, if_neg (h n (Nat.le_refl _) (by simp))]
   exact ih
theorem mOb_ok : ∀ {ps : List PO} {n : Nat} {s : Sg} {k : ObI ps → Sg → Tr ρ} {r : ρ} {ws : AMem} {rs : List Nat} {I : Imm}, Tr.Ex m (mOb ps n s k) r ws rs → SA B I π (lk (s.fz ++ m)) w → FzOk s.fz m → s.inj →
  ∃ x s' J rs', Tr.Ex m (k x s') r ws rs' ∧ Rdn B π w m I s J s' ∧ ∀ π', Ag s' π π' → ∀ i, n ≤ i → i < n + ps.length → ObAt π π' J w m s' i ps[i - n]? (lk (instOb id ps n x) i)
 | [], n, s, k, r, ws, rs, I, hx, h, hf, hi => ⟨(), s, I, rs, hx, .refl h hf hi, fun _ _ i h1 h2 => by simp at h2; omega⟩
 | p :: ps, n, s, k, r, ws, rs, I, hx, h, hf, hi => by
  have key : ∀ (hp : p.real = true), Tr.Ex m (match lk s.b n with | some o => .look o fun ob => mPO p ob s fun x s => mOb ps (n + 1) s fun xs s => k (x, xs) s | none => .fail) r ws rs →
    ∃ x s' J rs', Tr.Ex m (k x s') r ws rs' ∧ Rdn B π w m I s J s' ∧ ∀ π', Ag s' π π' → ∀ i, n ≤ i → i < n + (p :: ps).length → ObAt π π' J w m s' i (p :: ps)[i - n]? (lk (instOb id (p :: ps) n x) i) := by
   intro hp hx3
   have hns : p.isSame = false := by
    unfold PO.real at hp
    rw [Bool.and_eq_true] at hp
    cases hq : p.isSame with
    | false => rfl
    | true => rw [hq] at hp; cases hp.2
   split at hx3
   ·rename_i o ho
    cases hx3 with
    | look hx4 =>
     dsimp only at hx4
     obtain ⟨ob, hob, hgone⟩ := mPO_some hp hx4
     rw [hob] at hx4
     obtain ⟨x, s1, J1, rs1, h1, h2, h3, h4⟩ := mPO_ok (o := o) (i := n) hx4 h hf hi
     obtain ⟨xs, s2, J2, rs2, k1, k2, k3⟩ := mOb_ok (ps := ps) h1 h2.sa h2.fz h2.inj
     refine ⟨(x, xs), s2, J2, rs2, k1, h2.trans k2, fun π' hA i hi1 hi2 => ?_⟩
     rw [instOb_real id hns]
     by_cases e : i = n
     ·subst e
      refine .inr (.inr ⟨o, ob, p, x, k2.sl _ _ (h2.sl _ _ ho), by simp, hp, hob, hgone, by rw [lk_cons]; exact if_pos rfl, fun hno => ?_, fun hc τ ht => h4 hc τ (ht.mono k2.sl)⟩)
      have hlk : lk (s2.fz ++ m) o = some ob := by rw [lk_append, hno, hob]; rfl
      have hat2 := k2.sa.res o
      rw [hlk] at hat2
      refine (h3 π' (hA.mono k2.sl) (fun p hp => hA i o (k2.sl _ _ (h2.sl _ _ ho)) p hp)).mono k2.le ?_
      -- at the earlier words the piece was as it is
      have hlk1 : lk (s1.fz ++ m) o = some ob := by rw [lk_append, k2.fl o hno, hob]; rfl
      have := h2.sa.res o
      rwa [hlk1] at this
     ·have := k3 π' hA i (by omega) (by simp at hi2; omega)
      rw [lk_cons, if_neg (show ¬ id n = i from fun e2 => e e2.symm), show i - n = (i - (n + 1)) + 1 by omega, List.getElem?_cons_succ]
      exact this
   ·cases hx3
  have rest : ∀ (hp : p.real = false) (hx3 : ∃ u : p.I, Tr.Ex m (mOb ps (n + 1) s fun xs s => k (u, xs) s) r ws rs),
    ∃ x s' J rs', Tr.Ex m (k x s') r ws rs' ∧ Rdn B π w m I s J s' ∧ ∀ π', Ag s' π π' → ∀ i, n ≤ i → i < n + (p :: ps).length → ObAt π π' J w m s' i (p :: ps)[i - n]? (lk (instOb id (p :: ps) n x) i) := by
   rintro hp ⟨u, hx3⟩
   obtain ⟨xs, s2, J2, rs2, k1, k2, k3⟩ := mOb_ok (ps := ps) hx3 h hf hi
   refine ⟨(u, xs), s2, J2, rs2, k1, k2, fun π' hA i hi1 hi2 => ?_⟩
   by_cases e : i = n
   ·subst e
    have hz : (p :: ps)[i - i]? = some p := by simp
    rw [hz]
    cases p with
    | gone => rw [instOb_real id (p := .gone) rfl]; exact .inl (by rw [lk_cons]; exact if_pos rfl)
    | same => rw [instOb_same id (p := .same) rfl]; exact .inr (.inl ⟨instOb_lt id (fun j h1 _ e => by simp only [id] at e; omega), rfl⟩)
    | _ => cases hp
   ·have := k3 π' hA i (by omega) (by simp at hi2; omega)
    have hne : lk (instOb id (p :: ps) n (u, xs)) i = lk (instOb id ps (n + 1) xs) i := by
     cases hs : p.isSame with
     | true => rw [instOb_same id hs]
     | false => rw [instOb_real id hs, lk_cons, if_neg (show ¬ id n = i from fun e2 => e e2.symm)]
    rw [hne, show i - n = (i - (n + 1)) + 1 by omega, List.getElem?_cons_succ]
    exact this
  cases p with
  | gone => simp only [mOb] at hx; exact rest rfl ⟨(), hx⟩
  | same => simp only [mOb] at hx; exact rest rfl ⟨(), hx⟩
  | blk ty ps' => exact key rfl hx
  | stb ty c => exact key rfl hx
  | row e c => exact key rfl hx
  | frz c => exact key rfl hx
end
end Go.Proofs.YtijhdekfbjafgaaGreat.AM
namespace Go.Proofs.YtijhdekfbjafgaaGreat.AM
open Go Go.RowKit Go.Proofs.YtijhdekfbjafgaaGreat.RW

section
variable {ρ : Type} {P : Program} {B : Base} {π : Pi} {w : World} {m : AMem}

/-! ### lists of pieces -/
theorem isSame_eq {p : PO} (h : p.isSame = true) : p = .same := by cases p with | same => rfl | _ => cases h
theorem instOb_get (τ : Nat → Nat) : ∀ (ps : List PO) (n : Nat) (x : ObI ps) (i : Nat), n ≤ i → i < n + ps.length → (∀ a b, n ≤ a → a < n + ps.length → n ≤ b → b < n + ps.length → τ a = τ b → a = b) →
  (ps[i - n]? = some .same ∧ lk (instOb τ ps n x) (τ i) = none ∧ lk (instOb id ps n x) i = none) ∨ ∃ (p : PO) (z : p.I), ps[i - n]? = some p ∧ lk (instOb τ ps n x) (τ i) = some (p.inst τ z) ∧ lk (instOb id ps n x) i = some (p.inst id z)
 | [], n, x, i, h1, h2, _ => by simp at h2; omega
 | p :: ps, n, x, i, h1, h2, hinj => by
  by_cases e : n = i
  ·subst e
   cases hs : p.isSame with
   | true =>
    refine .inl ⟨by rw [isSame_eq hs]; simp, ?_, ?_⟩
    ·rw [instOb_same τ hs]
     exact instOb_lt τ (fun j h3 h4 e => by
      have := hinj j n (by omega) (by simp; omega) (Nat.le_refl _) (by simp) e
      omega)
    ·rw [instOb_same id hs]
     exact instOb_lt id (fun j h3 h4 e => by simp only [id] at e; omega)
   | false =>
    refine .inr ⟨p, x.1, by simp, ?_, ?_⟩
    ·rw [instOb_real τ hs, lk_cons, if_pos rfl]
    ·rw [instOb_real id hs, lk_cons]; exact if_pos rfl
  ·have hsub : (p :: ps)[i - n]? = ps[i - (n + 1)]? := by rw [show i - n = (i - (n + 1)) + 1 by omega, List.getElem?_cons_succ]
   have hτ : lk (instOb τ (p :: ps) n x) (τ i) = lk (instOb τ ps (n + 1) x.2) (τ i) := by
    cases hs : p.isSame with
    | true => rw [instOb_same τ hs]
    | false => rw [instOb_real τ hs, lk_cons, if_neg (fun e2 => e (hinj n i (Nat.le_refl _) (by simp) h1 h2 e2))]
   have hid : lk (instOb id (p :: ps) n x) i = lk (instOb id ps (n + 1) x.2) i := by
    cases hs : p.isSame with
    | true => rw [instOb_same id hs]
    | false => rw [instOb_real id hs, lk_cons, if_neg (show ¬ id n = i from e)]
   rw [hsub, hτ, hid]
   exact instOb_get τ ps (n + 1) x.2 i (by omega) (by simp at h2; omega) (fun a b ha1 ha2 hb1 hb2 => hinj a b (by omega) (by simp; omega) (by omega) (by simp; omega))
theorem instOb_none (τ : Nat → Nat) (ps : List PO) (n : Nat) (x : ObI ps) (o : Nat) (h : ∀ i, n ≤ i → i < n + ps.length → τ i ≠ o) : lk (instOb τ ps n x) o = none := instOb_lt τ h
theorem instOb_id_none {ps : List PO} {x : ObI ps} {o : Nat} (h : ps.length ≤ o) : lk (instOb id ps 0 x) o = none :=
 instOb_none id ps 0 x o (fun i _ h2 e => by simp only [id] at e; omega)
theorem real_at {ps : List PO} (h : ps.all PO.real = true) {i : Nat} {p : PO} (hi : ps[i]? = some p) : p.real = true := by
 rw [List.all_eq_true] at h
 exact h p (List.mem_of_getElem? hi)
theorem instOb_id_some {ps : List PO} {x : ObI ps} {i : Nat} (hr : ps.all PO.real = true) (h : i < ps.length) : ∃ (p : PO) (z : p.I), ps[i]? = some p ∧ lk (instOb id ps 0 x) i = some (p.inst id z) := by
 rcases instOb_get id ps 0 x i (Nat.zero_le _) (by omega) (fun a b _ _ _ _ e => e) with ⟨h1, _⟩ | ⟨p, z, h0, h1, _⟩
 ·cases real_at hr h1
 ·exact ⟨p, z, h0, h1⟩
theorem pick_lt (τ : Nat → Nat) {nc : List Nat} : ∀ {ps : List PO} {n : Nat} {x : ObI ps} {o : Nat}, (∀ i, n ≤ i → i < n + ps.length → τ i ≠ o) → lk (instPick τ nc ps n x) o = none
 | [], _, _, _, _ => rfl
 | p :: ps, n, x, o, h => by
  have ih := pick_lt τ (nc := nc) (ps := ps) (n := n + 1) (x := x.2) (o := o) (fun i h1 h2 => h i (by omega) (by simp; omega))
  show lk (bif nc.any (Nat.beq n) then _ else _) o = none
  cases nc.any (Nat.beq n) with
  | false => exact ih
  | true =>
   show lk (_ :: _) o = none
   rw [lk_cons, if_neg (h n (Nat.le_refl _) (by simp))]
   exact ih
theorem pick_get (τ : Nat → Nat) {nc : List Nat} : ∀ (ps : List PO) (n : Nat) (x : ObI ps) (i : Nat), ps.all PO.real = true → n ≤ i → i < n + ps.length → (∀ a b, n ≤ a → a < n + ps.length → n ≤ b → b < n + ps.length → τ a = τ b → a = b) →
  lk (instPick τ nc ps n x) (τ i) = if nc.any (Nat.beq i) = true then lk (instOb τ ps n x) (τ i) else none
 | [], n, x, i, _, h1, h2, _ => by simp at h2; omega
 | p :: ps, n, x, i, hr, h1, h2, hinj => by
  rw [List.all_cons, Bool.and_eq_true] at hr
  have hs : p.isSame = false := by
   have := hr.1
   unfold PO.real at this
   cases hq : p.isSame with
   | false => rfl
   | true => rw [hq, Bool.and_eq_true] at this; cases this.2
  rw [instOb_real τ hs]
  by_cases e : n = i
  ·subst e
   have hno : lk (instPick τ nc ps (n + 1) x.2) (τ n) = none := pick_lt τ (fun j h3 h4 e => by
    have := hinj j n (by omega) (by simp; omega) (Nat.le_refl _) (by simp) e
    omega)
   rw [lk_cons, if_pos rfl]
   show lk (bif nc.any (Nat.beq n) then _ else _) (τ n) = _
   cases hq : nc.any (Nat.beq n) with
   | false => rw [if_neg (by simp)]; exact hno
   | true =>
    rw [if_pos rfl]
    show lk (_ :: _) (τ n) = _
    rw [lk_cons, if_pos rfl]
  ·have hne : ¬ τ n = τ i := fun e2 => e (hinj n i (Nat.le_refl _) (by simp) h1 h2 e2)
   rw [lk_cons, if_neg hne]
   have ih := pick_get τ (nc := nc) ps (n + 1) x.2 i hr.2 (by omega) (by simp at h2; omega) (fun a b ha1 ha2 hb1 hb2 => hinj a b (by omega) (by simp; omega) (by omega) (by simp; omega))
   rw [← ih]
   show lk (bif nc.any (Nat.beq n) then _ else _) (τ i) = _
   cases nc.any (Nat.beq n) with
   | false => rfl
   | true =>
    show lk (_ :: _) (τ i) = _
    rw [lk_cons, if_neg hne]
theorem real_ng {p : PO} (h : p.real = true) (τ : Nat → Nat) (z : p.I) : p.inst τ z ≠ .gone := by
 cases p with
 | gone => cases h
 | same => cases h
 | _ => intro e; cases e

theorem rl.app_inv {α β : Type} {R : α → β → Prop} : ∀ {l l' : List α} {r : List β}, rl R (l ++ l') r → ∃ r1 r2, r = r1 ++ r2 ∧ rl R l r1 ∧ rl R l' r2
 | [], _, r, h => ⟨[], r, rfl, trivial, h⟩
 | _ :: l, l', y :: r, h => by
  obtain ⟨r1, r2, h1, h2, h3⟩ := rl.app_inv h.2
  exact ⟨y :: r1, r2, by rw [h1]; rfl, ⟨h.1, h2⟩, h3⟩
 | _ :: _, _, [], h => h.elim
theorem rl.single {α β : Type} {R S : α → β → Prop} {a : α} {ys : List β} (h : rl R [a] ys) (k : ∀ y, R a y → S a y) : rl S [a] ys := by
 cases ys with
 | nil => exact h.elim
 | cons y ys =>
  cases ys with
  | nil => exact ⟨k y h.1, trivial⟩
  | cons _ _ => exact h.2.elim
/-- What is told of data doesn't hang on where pieces lie. -/
theorem cells_any (π2 π3 : Pi) {J : Imm} : ∀ {c : TC} {x : c.I} {ys : List Value}, rl (relC π2 J) (c.cells x) ys → rl (relC π3 J) (c.cells x) ys := by
 intro c
 induction c with
 | int k => intro x ys h; exact rl.single h (fun y h => h)
 | bool => intro x ys h; exact rl.single h (fun y h => h)
 | str => intro x ys h; exact rl.single h (fun y h => h)
 | unit => intro x ys h; cases ys with | nil => trivial | cons _ _ => exact h.elim
 | row c _ => intro x ys h; exact rl.single h (fun y h => h)
 | pair a b iha ihb =>
  intro x ys h
  obtain ⟨r1, r2, rfl, h1, h2⟩ := rl.app_inv h
  exact (iha h1).app (ihb h2)

/-! ### other numbers -/
/-- Where the pieces of the one lie by the numbers of the other. -/
def Ren (τ : Nat → Nat) (π2 π3 : Pi) : Prop := ∀ i p, π2 i = some p → π3 (τ i) = some p
section
variable {π2 π3 : Pi} {τ : Nat → Nat}
theorem ren_P (hR : Ren τ π2 π3) : ∀ {l : List (Nat × Nat)} {ys : List Value}, rl (relP π2) (l.map fun p => (id p.1, p.2)) ys → rl (relP π3) (l.map fun p => (τ p.1, p.2)) ys
 | [], [], _ => trivial
 | q :: l, y :: ys, h => by
  obtain ⟨⟨p, g, h1, h2, h3⟩, h4⟩ := h
  exact ⟨⟨p, g, hR _ _ h1, h2, h3⟩, ren_P hR h4⟩
 | [], _ :: _, h => h.elim
 | _ :: _, [], h => h.elim
theorem one_any (π2 π3 : Pi) {J : Imm} {c : TC} {x : c.I} {y : Value} (h : relC π2 J (c.one x) y) : relC π3 J (c.one x) y := by
 cases c <;> exact h
theorem ren_C (hR : Ren τ π2 π3) {J : Imm} {p : PC} {x : p.I} {y : Value} (h : relC π2 J (p.inst id x) y) : relC π3 J (p.inst τ x) y := by
 cases p with
 | h c => exact one_any π2 π3 (c := c) h
 | full c => exact h
 | sl i => obtain ⟨p, h1, h2⟩ := h; exact ⟨p, hR _ _ h1, h2⟩
 | sb i n => obtain ⟨p, g, h1, h2⟩ := h; exact ⟨p, g, hR _ _ h1, h2⟩
 | ptr i q => obtain ⟨p, g, h1, h2⟩ := h; exact ⟨p, g, hR _ _ h1, h2⟩
 | fn f a b => obtain ⟨xs, ys, h1, h2, h3⟩ := h; exact ⟨xs, ys, h1, ren_P hR h2, ren_P hR h3⟩
theorem ren_Cs (hR : Ren τ π2 π3) {J : Imm} : ∀ {ps : List PC} {x : PCsI ps} {ys : List Value}, rl (relC π2 J) (instCs id ps x) ys → rl (relC π3 J) (instCs τ ps x) ys
 | [], _, [], _ => trivial
 | p :: ps, x, y :: ys, h => ⟨ren_C hR (p := p) h.1, ren_Cs hR h.2⟩
 | [], _, _ :: _, h => h.elim
 | _ :: _, _, [], h => h.elim
theorem ren_W (hR : Ren τ π2 π3) {J : Imm} {p : PW} {x : p.I} {y : Value} (h : relW π2 J (p.inst id x) y) : relW π3 J (p.inst τ x) y := by
 cases p with
 | c p => exact ren_C hR (p := p) h
 | st c => obtain ⟨ys, h1, h2⟩ := h; exact ⟨ys, h1, cells_any π2 π3 h2⟩
 | agg l => obtain ⟨ys, h1, h2⟩ := h; exact ⟨ys, h1, ren_Cs hR h2⟩
theorem ren_Ws (hR : Ren τ π2 π3) {J : Imm} : ∀ {ps : List PW} {x : PWsI ps} {ys : List Value}, rl (relW π2 J) (instWs id ps x) ys → rl (relW π3 J) (instWs τ ps x) ys
 | [], _, [], _ => trivial
 | p :: ps, x, y :: ys, h => ⟨ren_W hR (p := p) h.1, ren_Ws hR h.2⟩
 | [], _, _ :: _, h => h.elim
 | _ :: _, _, [], h => h.elim
theorem ren_V (hR : Ren τ π2 π3) {J : Imm} {p : PV} {x : p.I} {y : Value} (h : relV π2 J (p.inst id x) y) : relV π3 J (p.inst τ x) y := by
 cases p with
 | w p => exact ren_W hR (p := p) h
 | tup l => obtain ⟨ys, h1, h2⟩ := h; exact ⟨ys, h1, ren_Ws hR h2⟩
theorem ren_Sl (hR : Ren τ π2 π3) {J : Imm} : ∀ {ps : List (Nat × PV)} {x : SlI ps} {t : Nat} {av : AV}, lk (instSl τ ps x) t = some av → ∃ av', lk (instSl id ps x) t = some av' ∧ ∀ y, relV π2 J av' y → relV π3 J av y
 | [], _, _, _, h => by cases h
 | p :: ps, x, t, av, h => by
  simp only [instSl] at h ⊢
  rw [lk_cons] at h
  split at h
  ·rename_i e
   injection h with h
   subst h
   exact ⟨_, by rw [lk_cons, if_pos e], fun y hy => ren_V hR (p := p.2) hy⟩
  ·rename_i e
   obtain ⟨av', h1, h2⟩ := ren_Sl hR h
   exact ⟨av', by rw [lk_cons, if_neg e]; exact h1, h2⟩
theorem ren_O (hR : Ren τ π2 π3) {J : Imm} {w : World} {i : Nat} {p : PO} {x : p.I} (h : atO π2 J w i (some (p.inst id x))) : atO π3 J w (τ i) (some (p.inst τ x)) ∧ ∀ k, fpO π3 (τ i) (some (p.inst τ x)) k → fpO π2 i (some (p.inst id x)) k := by
 cases p with
 | blk ty cs =>
  obtain ⟨p, g, ys, h1, h2, h3, h4⟩ := h
  refine ⟨⟨p, g, ys, hR _ _ h1, h2, ren_Cs hR h3, h4⟩, fun k ⟨p', k1, k2⟩ => ?_⟩
  rw [hR _ _ h1] at k1
  injection k1 with k1
  subst k1
  exact ⟨p, h1, k2⟩
 | stb ty c =>
  obtain ⟨p, g, ys, h1, h2, h3, h4⟩ := h
  refine ⟨⟨p, g, ys, hR _ _ h1, h2, cells_any π2 π3 h3, h4⟩, fun k ⟨p', k1, k2⟩ => ?_⟩
  rw [hR _ _ h1] at k1
  injection k1 with k1
  subst k1
  exact ⟨p, h1, k2⟩
 | row e c =>
  obtain ⟨p, cs, h1, h2⟩ := h
  refine ⟨⟨p, cs, hR _ _ h1, h2⟩, fun k ⟨p', a, k1, k2⟩ => ?_⟩
  rw [hR _ _ h1] at k1
  injection k1 with k1
  subst k1
  exact ⟨p, a, h1, k2⟩
 | frz c =>
  obtain ⟨p, h1, h2⟩ := h
  exact ⟨⟨p, hR _ _ h1, h2⟩, fun k hk => hk.elim⟩
 | gone => exact ⟨trivial, fun k hk => hk.elim⟩
 | same => exact ⟨trivial, fun k hk => hk.elim⟩
end

/-! ### a pattern, read off a state -/
def view (s : Sg) (n : Nat) (π : Pi) : Pi := fun i => if i < n then (lk s.b i).bind π else none
/-- The state as the pattern tells it. -/
structure Viewed (B : Base) (π : Pi) (w : World) (m : AMem) (I : Imm) (s0 : Sg) (p : Pat) (sl : ASl) (x : p.I) (s : Sg) (J : Imm) : Prop where
 le : I.le J
 sa : SA B J π (lk (s.fz ++ m)) w
 fz : FzOk s.fz m
 s0 : s0.le s
 inj : s.inj
 lt : ∀ i o, lk s.b i = some o → i < p.ob.length ∧ lk s.fz o = none
 slot : ∀ t av, lk (instSl id p.sl x.1) t = some av → ∃ av0, lk sl t = some av0 ∧ wkV π (view s p.ob.length π) J av0 av
 ob : ∀ i, i < p.ob.length → ObAt π (view s p.ob.length π) J w m s i p.ob[i]? (lk (instOb id p.ob 0 x.2) i)
theorem lk_mem' {l : List (Nat × Nat)} {i o : Nat} (h : lk l i = some o) : (i, o) ∈ l := by
 induction l with
 | nil => cases h
 | cons p l ih =>
  obtain ⟨j, q⟩ := p
  rw [lk_cons] at h
  split at h
  ·rename_i e
   injection h with h
   rw [← e, ← h]
   exact List.mem_cons_self
  ·exact List.mem_cons_of_mem _ (ih h)
theorem Sg.ok_spec {s : Sg} {n : Nat} (h : s.ok n = true) {i o : Nat} (hb : lk s.b i = some o) : i < n ∧ lk s.fz o = none := by
 unfold Sg.ok at h
 rw [Bool.and_eq_true, List.all_eq_true, List.all_eq_true] at h
 have hm := lk_mem' hb
 refine ⟨Nat.le_of_ble_eq_true (h.1 _ hm), any_beq ?_⟩
 rw [List.any_eq_false]
 intro q hq
 have h2 := h.2 q hq
 simp only [Bool.not_eq_true', List.any_eq_false] at h2
 intro e
 have e := Nat.eq_of_beq_eq_true e
 have := h2 _ hm
 simp only [e, Nat.beq_refl] at this
 exact this trivial
theorem pat_ok {p : Pat} {sl : ASl} {s0 : Sg} {k : p.I → Sg → Tr ρ} {r : ρ} {ws : AMem} {rs : List Nat} {I : Imm} (hx : Tr.Ex m (p.m sl s0 k) r ws rs) (h : SA B I π (lk m) w) (hf : s0.fz = []) (hi : s0.inj) :
  ∃ x s J rs', Tr.Ex m (k x s) r ws rs' ∧ Viewed B π w m I s0 p sl x s J := by
 unfold Pat.m at hx
 obtain ⟨x1, s1, J1, rs1, h1, h2, h3⟩ := mSl_ok hx (by rw [hf]; exact h) (by rw [hf]; exact FzOk.nil m) hi
 obtain ⟨x2, s2, J2, rs2, k1, k2, k3⟩ := mOb_ok h1 h2.sa h2.fz h2.inj
 generalize hok : s2.ok p.ob.length = b at k1
 cases b with
 | false => cases k1
 | true =>
  have hall := fun i o => Sg.ok_spec hok (i := i) (o := o)
  have hA : Ag s2 π (view s2 p.ob.length π) := fun i o hb q hq => by
   unfold view
   rw [if_pos (hall i o hb).1, hb]
   exact hq
  refine ⟨(x1, x2), s2, J2, rs2, k1, ⟨Imm.le_trans h2.le k2.le, k2.sa, k2.fz, Sg.le_trans h2.sl k2.sl, k2.inj, hall, fun t av ht => ?_, fun i hi => ?_⟩⟩
  ·obtain ⟨av0, q1, q2⟩ := h3 _ (hA.mono k2.sl) t av ht
   exact ⟨av0, q1, q2.mono k2.le⟩
  ·exact k3 _ hA i (Nat.zero_le _) (by omega)

/-- Which blocks the told pieces hold. -/
def fpS (π : Pi) (M : Nat → Option AObj) : Nat → Prop := fun k => ∃ i, fpO π i (M i) k
section
variable {I J : Imm} {s0 s : Sg} {p : Pat} {sl : ASl} {x : p.I}
/-- A memory that the pattern's numbers tell. -/
def Seen (π : Pi) (w : World) (m : AMem) (s : Sg) (n : Nat) (J : Imm) (M : Nat → Option AObj) : Prop :=
 ∀ i, (M i = none ∧ view s n π i = none) ∨ M i = some .gone ∨ ∃ o, lk s.b i = some o ∧ M i ≠ none ∧ (lk (s.fz ++ m) o).isSome ∧ atO (view s n π) J w i (M i) ∧ ∀ k, fpO (view s n π) i (M i) k → fpO π o (lk (s.fz ++ m) o) k
theorem Viewed.at (h : Viewed B π w m I s0 p sl x s J) {i : Nat} (hi : i < p.ob.length) : lk (instOb id p.ob 0 x.2) i = some .gone ∨ (lk (instOb id p.ob 0 x.2) i = none ∧ p.ob[i]? = some .same) ∨ ∃ o, lk s.b i = some o ∧ lk (instOb id p.ob 0 x.2) i ≠ none ∧ (lk (s.fz ++ m) o).isSome ∧ atO (view s p.ob.length π) J w i (lk (instOb id p.ob 0 x.2) i) ∧ ∀ k, fpO (view s p.ob.length π) i (lk (instOb id p.ob 0 x.2) i) k → fpO π o (lk (s.fz ++ m) o) k := by
 rcases h.ob i hi with q | q | ⟨o, ob, po, z, h1, _, _, h2, _, h3, h4, _⟩
 ·exact .inl q
 ·exact .inr (.inl q)
 have h4 := h4 (h.lt i o h1).2
 have hlk : lk (s.fz ++ m) o = some ob := by rw [lk_append, (h.lt i o h1).2, h2]; rfl
 have hat := h.sa.res o
 rw [hlk] at hat
 refine .inr (.inr ⟨o, h1, by rw [h3]; simp, by rw [hlk]; rfl, by rw [h3]; exact h4.1 J (Imm.le_refl _) hat, fun k hk => ?_⟩)
 rw [h3] at hk
 rw [hlk]
 exact h4.2 k hk hat
theorem Viewed.seen (h : Viewed B π w m I s0 p sl x s J) (hr : p.ob.all PO.real = true) : Seen π w m s p.ob.length J (lk (instOb id p.ob 0 x.2)) := by
 intro i
 by_cases hi : i < p.ob.length
 ·rcases h.at hi with q | ⟨_, q⟩ | q
  ·exact .inr (.inl q)
  ·cases real_at hr q
  ·exact .inr (.inr q)
 ·exact .inl ⟨instOb_id_none (by omega), by unfold view; rw [if_neg hi]⟩
theorem Viewed.real (h : Viewed B π w m I s0 p sl x s J) (hr : p.ob.all PO.real = true) {i : Nat} (hi : i < p.ob.length) : ∃ (o : Nat) (ob : AObj) (po : PO) (z : po.I), lk s.b i = some o ∧ p.ob[i]? = some po ∧ lk m o = some ob ∧ ob ≠ .gone ∧ lk (instOb id p.ob 0 x.2) i = some (po.inst id z) ∧ (canO po ob = true → ∀ τ, Tt s τ → po.inst τ z = ob) := by
 rcases h.ob i hi with q | ⟨_, q⟩ | ⟨o, ob, po, z, h1, h2, _, h3, h4, h5, _, h6⟩
 ·obtain ⟨po, z, h0, h1⟩ := instOb_id_some (x := x.2) hr hi
  rw [h1] at q
  injection q with q
  exact absurd q (real_ng (real_at hr h0) id z)
 ·cases real_at hr q
 ·exact ⟨o, ob, po, z, h1, h2, h3, h4, h5, h6⟩
theorem Viewed.sa_of (h : Viewed B π w m I s0 p sl x s J) {M : Nat → Option AObj} (hM : Seen π w m s p.ob.length J M) : SA ⟨w, fpS (view s p.ob.length π) M, J⟩ J (view s p.ob.length π) M w ∧ SA B J (view s p.ob.length π) M w := by
 have hfp : ∀ i k, fpO (view s p.ob.length π) i (M i) k → ∃ o, lk s.b i = some o ∧ fpO π o (lk (s.fz ++ m) o) k := fun i k hk => by
  rcases hM i with ⟨q, _⟩ | q | ⟨o, h1, _, _, _, h4⟩
  ·rw [q] at hk; exact hk.elim
  ·rw [q] at hk; exact hk.elim
  ·exact ⟨o, h1, h4 k hk⟩
 have dom : ∀ o, M o = none → view s p.ob.length π o = none := fun i hi => by
  rcases hM i with ⟨_, q⟩ | q | ⟨o, _, q, _⟩
  ·exact q
  ·rw [hi] at q; cases q
  ·exact absurd hi q
 have res : ∀ i, atO (view s p.ob.length π) J w i (M i) := fun i => by
  rcases hM i with ⟨q, _⟩ | q | ⟨o, _, _, _, q, _⟩
  ·rw [q]; trivial
  ·rw [q]; trivial
  ·exact q
 have dis : ∀ i i', i ≠ i' → ∀ k, fpO (view s p.ob.length π) i (M i) k → ¬ fpO (view s p.ob.length π) i' (M i') k := fun i i' hne k hk hk' => by
  obtain ⟨o, h1, h4⟩ := hfp i k hk
  obtain ⟨o', h1', h4'⟩ := hfp i' k hk'
  exact h.sa.dis o o' (fun e => hne (h.inj i i' o h1 (e ▸ h1'))) k h4 h4'
 have imX : ∀ a v, J a = some v → ∀ i, ¬ fpO (view s p.ob.length π) i (M i) a.block := fun a v ha i hk => by
  obtain ⟨o, _, h4⟩ := hfp i _ hk
  exact h.sa.imX a v ha o h4
 exact ⟨⟨Evo.refl _ _, dom, res, fun i k hk => by obtain ⟨o, _, h4⟩ := hfp i k hk; exact ⟨(h.sa.own o k h4).1, .inr ⟨i, hk⟩⟩, dis, h.sa.im, imX, Imm.le_refl _, fun _ _ h => .inl h⟩,
  ⟨h.sa.evo, dom, res, fun i k hk => by obtain ⟨o, _, h4⟩ := hfp i k hk; exact h.sa.own o k h4, dis, h.sa.im, imX, h.sa.le, h.sa.inew⟩⟩
theorem Viewed.start (h : Viewed B π w m I s0 p sl x s J) (hr : p.ob.all PO.real = true) : SA ⟨w, fpS (view s p.ob.length π) (lk (instOb id p.ob 0 x.2)), J⟩ J (view s p.ob.length π) (lk (instOb id p.ob 0 x.2)) w := (h.sa_of (h.seen hr)).1

def tau (s : Sg) (n base : Nat) (i : Nat) : Nat := bif Nat.blt i n then (lk s.b i).getD 0 else base + (i - n)
theorem tau_old {n base i o : Nat} (hi : i < n) (h : lk s.b i = some o) : tau s n base i = o := by
 unfold tau
 rw [show Nat.blt i n = true from Nat.ble_eq_true_of_le hi, h]
 rfl
theorem tau_new {n base i : Nat} (hi : n ≤ i) : tau s n base i = base + (i - n) := by
 unfold tau
 rw [show Nat.blt i n = false by
  cases e : Nat.blt i n with
  | false => rfl
  | true => have := Nat.le_of_ble_eq_true e; omega]
 rfl
/-- Behind a call, or a piece of code whose contract is known: the caller's state. -/
theorem Viewed.back (h : Viewed B π w m I s0 p sl x s J) {q : Pat} {z : q.I} {base : Nat} {nc : List Nat} (hnew : ∀ j, p.ob.length + j < q.ob.length → lk m (base + j) = none) (hlen : p.ob.length ≤ q.ob.length) (hr : p.ob.all PO.real = true) (hsm : ∀ i, q.ob[i]? = some .same → i < p.ob.length ∧ ∃ o ob po, lk s.b i = some o ∧ p.ob[i]? = some po ∧ lk m o = some ob ∧ (canO po ob = true ∨ nc.any (Nat.beq i) = true)) {π2 : Pi} {J2 : Imm} {w2 : World}
  (hπ : (view s p.ob.length π).le π2) (hJ : J.le J2) (h2 : SA ⟨w, fpS (view s p.ob.length π) (lk (instOb id p.ob 0 x.2)), J⟩ J2 π2 (lk (instOb id q.ob 0 z.2 ++ instOb id p.ob 0 x.2)) w2) :
  ∃ π3, π.le π3 ∧ Ren (tau s p.ob.length base) π2 π3 ∧ SA B J2 π3 (lk (instOb (tau s p.ob.length base) q.ob 0 z.2 ++ (instPick (tau s p.ob.length base) nc p.ob 0 x.2 ++ s.fz) ++ m)) w2 := by
 have hold : ∀ i, i < p.ob.length → ∃ o, lk s.b i = some o ∧ tau s p.ob.length base i = o ∧ lk (s.fz ++ m) o ≠ none := fun i hi => by
  obtain ⟨o, ob, po, z, h1, _, h3, _⟩ := h.real hr hi
  exact ⟨o, h1, tau_old hi h1, fun e => by rw [lk_append, (h.lt i o h1).2, h3] at e; cases e⟩
 have hTt : Tt s (tau s p.ob.length base) := fun i o hb => tau_old (h.lt i o hb).1 hb
 have hnew' : ∀ i, p.ob.length ≤ i → i < q.ob.length → lk (s.fz ++ m) (tau s p.ob.length base i) = none := fun i h1 h2 => by
  rw [tau_new h1]
  have hm := hnew (i - p.ob.length) (by omega)
  rw [lk_append, hm]
  cases hq : lk s.fz (base + (i - p.ob.length)) with
  | none => rfl
  | some ob =>
   obtain ⟨_, _, _, _, h5⟩ := h.fz _ ob hq
   rw [hm] at h5
   cases h5
 have hinj : ∀ a b, 0 ≤ a → a < 0 + q.ob.length → 0 ≤ b → b < 0 + q.ob.length → tau s p.ob.length base a = tau s p.ob.length base b → a = b := by
  intro a b _ ha _ hb e
  by_cases h3 : a < p.ob.length
  ·obtain ⟨o, k1, k2, k3⟩ := hold a h3
   by_cases h4 : b < p.ob.length
   ·obtain ⟨o', k1', k2', _⟩ := hold b h4
    exact h.inj a b o k1 (by rw [k1', ← k2', ← e, k2])
   ·exact absurd (hnew' b (by omega) (by omega)) (by rw [← e, k2]; exact k3)
  ·by_cases h4 : b < p.ob.length
   ·obtain ⟨o', k1', k2', k3'⟩ := hold b h4
    exact absurd (hnew' a (by omega) (by omega)) (by rw [e, k2']; exact k3')
   ·rw [tau_new (by omega), tau_new (by omega)] at e
    omega
 generalize hτ : tau s p.ob.length base = τ at *
 let T : Nat → Prop := fun o => ∃ i, i < q.ob.length ∧ τ i = o
 have hview : ∀ i o, i < p.ob.length → lk s.b i = some o → view s p.ob.length π i = π o := fun i o hi ho => by unfold view; rw [if_pos hi, ho]; rfl
 classical
 let π3 : Pi := fun o => if hT : ∃ j, p.ob.length + j < q.ob.length ∧ o = base + j then π2 (p.ob.length + hT.choose) else π o
 have h3new : ∀ i, p.ob.length ≤ i → i < q.ob.length → π3 (τ i) = π2 i := fun i h1 h2' => by
  have hτi : τ i = base + (i - p.ob.length) := by rw [← hτ]; exact tau_new h1
  have hT : ∃ j, p.ob.length + j < q.ob.length ∧ τ i = base + j := ⟨i - p.ob.length, by omega, hτi⟩
  show (if hT : ∃ j, p.ob.length + j < q.ob.length ∧ τ i = base + j then π2 (p.ob.length + hT.choose) else π (τ i)) = _
  rw [dif_pos hT]
  have := hT.choose_spec.2
  congr 1
  omega
 have h3old : ∀ o, (¬ ∃ j, p.ob.length + j < q.ob.length ∧ o = base + j) → π3 o = π o := fun o ho => dif_neg ho
 have hbase : ∀ o, lk (s.fz ++ m) o ≠ none → ¬ ∃ j, p.ob.length + j < q.ob.length ∧ o = base + j := by
  rintro o ho ⟨j, h1, rfl⟩
  have := hnew' (p.ob.length + j) (by omega) h1
  rw [← hτ, tau_new (by omega), show base + (p.ob.length + j - p.ob.length) = base + j by omega] at this
  exact ho this
 have hle : π.le π3 := fun o pl ho => by
  rw [h3old o (hbase o (fun e => by rw [h.sa.dom o e] at ho; cases ho))]
  exact ho
 have hRen : Ren τ π2 π3 := fun i pl hi => by
  by_cases h3 : i < p.ob.length
  ·obtain ⟨o, k1, k2, k3⟩ := hold i h3
   rw [k2, h3old o (hbase o k3)]
   -- the old piece lies where it lay
   cases hv : π o with
   | some pl' =>
    have := hπ i pl' (by rw [hview i o h3 k1]; exact hv)
    rw [hi] at this
    exact this.symm
   | none =>
    exfalso
    obtain ⟨o', ob, _, _, q1, _, q2, q5, _⟩ := h.real hr h3
    rw [k1] at q1
    injection q1 with q1
    subst q1
    have hlk : lk (s.fz ++ m) o = some ob := by rw [lk_append, (h.lt i o k1).2, q2]; rfl
    have hat := h.sa.res o
    rw [hlk] at hat
    cases ob with
    | gone => exact q5 rfl
    | blk ty cs => obtain ⟨p, g, ys, e, _⟩ := hat; rw [hv] at e; cases e
    | row e c l => obtain ⟨p, cs, e, _⟩ := hat; rw [hv] at e; cases e
    | frz c l => obtain ⟨p, e, _⟩ := hat; rw [hv] at e; cases e
  ·by_cases h4 : i < q.ob.length
   ·rw [h3new i (by omega) h4]; exact hi
   ·rw [h2.dom i (by rw [lk_append, instOb_id_none (by omega), instOb_id_none (by omega)]; rfl)] at hi; cases hi
 have hget : ∀ i, i < q.ob.length → ∃ (po : PO) (zz : po.I), lk (instOb τ q.ob 0 z.2 ++ (instPick τ nc p.ob 0 x.2 ++ s.fz) ++ m) (τ i) = some (po.inst τ zz) ∧ lk (instOb id q.ob 0 z.2 ++ instOb id p.ob 0 x.2) i = some (po.inst id zz) := fun i hi => by
  rcases instOb_get τ q.ob 0 z.2 i (Nat.zero_le _) (by omega) hinj with ⟨k0, k1, k2⟩ | ⟨po, zz, _, k1, k2⟩
  ·obtain ⟨hip, o, ob, po, j1, j2, j3, j4⟩ := hsm i k0
   obtain ⟨o', ob', po', zz, l1, l2, l3, _, l4, l5⟩ := h.real hr hip
   rw [j1] at l1
   injection l1 with l1
   subst l1
   rw [j2] at l2
   injection l2 with l2
   subst l2
   rw [j3] at l3
   injection l3 with l3
   subst l3
   have hτi : τ i = o := by rw [← hτ]; exact tau_old hip j1
   have hinjp : ∀ a b, 0 ≤ a → a < 0 + p.ob.length → 0 ≤ b → b < 0 + p.ob.length → τ a = τ b → a = b := fun a b h1 h2 h3 h4 => hinj a b h1 (by omega) h3 (by omega)
   have hbig : lk (instOb τ q.ob 0 z.2 ++ (instPick τ nc p.ob 0 x.2 ++ s.fz) ++ m) (τ i) = (if nc.any (Nat.beq i) = true then lk (instOb τ p.ob 0 x.2) (τ i) else none).or (lk (s.fz ++ m) (τ i)) := by
    rw [List.append_assoc, lk_append, k1, List.append_assoc]
    show lk (instPick τ nc p.ob 0 x.2 ++ (s.fz ++ m)) (τ i) = _
    rw [lk_append, pick_get τ p.ob 0 x.2 i hr (Nat.zero_le _) (by omega) hinjp]
   have hsm2 : lk (instOb id q.ob 0 z.2 ++ instOb id p.ob 0 x.2) i = lk (instOb id p.ob 0 x.2) i := by rw [lk_append, k2]; rfl
   rw [hbig, hsm2]
   by_cases hnc : nc.any (Nat.beq i) = true
   ·rcases instOb_get τ p.ob 0 x.2 i (Nat.zero_le _) (by omega) hinjp with ⟨e, _⟩ | ⟨po2, z2, _, e1, e2⟩
    ·cases real_at hr e
    ·exact ⟨po2, z2, by rw [if_pos hnc, e1]; rfl, e2⟩
   ·refine ⟨po, zz, ?_, l4⟩
    rw [if_neg hnc, hτi]
    show lk (s.fz ++ m) o = _
    rw [lk_append, (h.lt i o j1).2, j3, l5 (j4.resolve_right hnc) τ (hτ ▸ hTt)]
    rfl
  ·exact ⟨po, zz, by rw [List.append_assoc, lk_append, k1]; rfl, by rw [lk_append, k2]; rfl⟩
 have hout : ∀ o, ¬ T o → lk (instOb τ q.ob 0 z.2 ++ (instPick τ nc p.ob 0 x.2 ++ s.fz) ++ m) o = lk (s.fz ++ m) o := fun o ho => by
  rw [List.append_assoc, lk_append, instOb_none τ q.ob 0 z.2 o (fun i _ hi e => ho ⟨i, by omega, e⟩), List.append_assoc]
  show lk (instPick τ nc p.ob 0 x.2 ++ (s.fz ++ m)) o = _
  rw [lk_append, pick_lt τ (fun i _ hi e => ho ⟨i, by omega, e⟩)]
  rfl
 have hatO : ∀ i, i < q.ob.length → atO π3 J2 w2 (τ i) (lk (instOb τ q.ob 0 z.2 ++ (instPick τ nc p.ob 0 x.2 ++ s.fz) ++ m) (τ i)) ∧ ∀ k, fpO π3 (τ i) (lk (instOb τ q.ob 0 z.2 ++ (instPick τ nc p.ob 0 x.2 ++ s.fz) ++ m) (τ i)) k → fpO π2 i (lk (instOb id q.ob 0 z.2 ++ instOb id p.ob 0 x.2) i) k := fun i hi => by
  obtain ⟨po, zz, k1, k2⟩ := hget i hi
  have := h2.res i
  rw [k2] at this
  rw [k1, k2]
  exact ren_O hRen this
 have hS : ∀ k, fpS (view s p.ob.length π) (lk (instOb id p.ob 0 x.2)) k → ∃ o, T o ∧ fpO π o (lk (s.fz ++ m) o) k := by
  rintro k ⟨i, hk⟩
  have hi : i < p.ob.length := by
   by_cases hi : i < p.ob.length
   ·exact hi
   ·rw [instOb_id_none (by omega)] at hk; exact hk.elim
  rcases h.seen hr i with ⟨q, _⟩ | q | ⟨o, k1, _, _, _, k4⟩
  ·rw [q] at hk; exact hk.elim
  ·rw [q] at hk; exact hk.elim
  obtain ⟨o', k1', k2', _⟩ := hold i hi
  rw [k1] at k1'
  injection k1' with k1'
  subst k1'
  exact ⟨o, ⟨i, by omega, k2'⟩, k4 k hk⟩
 refine ⟨π3, hle, hRen, h.sa.step T hle hJ h2.evo.os h2.evo.tape h2.evo.output h2.evo.size (fun k hk hno => h2.evo.blk k hk (fun hSk => ?_)) hout (fun o ho hn => ?_) ?_ ?_ ?_ ?_ h2.im (fun a v ha => ?_) ?_⟩
 ·obtain ⟨o, hT, hf⟩ := hS k hSk
  exact hno o hT hf
 ·rw [h3old o (fun ⟨j, h5, h6⟩ => ho ⟨p.ob.length + j, h5, by rw [← hτ, tau_new (by omega), h6]; congr 1; omega⟩)]
  exact h.sa.dom o hn
 ·rintro o ⟨i, hi, rfl⟩ hn
  obtain ⟨po, zz, k1, _⟩ := hget i hi
  rw [k1] at hn
  cases hn
 ·rintro o ⟨i, hi, rfl⟩
  exact (hatO i hi).1
 ·rintro o ⟨i, hi, rfl⟩ k hk
  have := h2.own i k ((hatO i hi).2 k hk)
  refine ⟨this.1, ?_⟩
  rcases this.2 with h5 | h5
  ·exact .inr h5
  ·exact .inl (hS k h5)
 ·rintro o o' ⟨i, hi, rfl⟩ ⟨i', hi', rfl⟩ hne k hk hk'
  exact h2.dis i i' (fun e => hne (by rw [e])) k ((hatO i hi).2 k hk) ((hatO i' hi').2 k hk')
 ·rcases h2.inew a v ha with h5 | h5 | h5
  ·exact .inl h5
  ·exact .inr (.inr h5)
  ·exact .inr (.inl (hS _ h5))
 ·rintro a v ha o ⟨i, hi, rfl⟩ hk
  exact h2.imX a v ha i ((hatO i hi).2 _ hk)
end
end
end Go.Proofs.YtijhdekfbjafgaaGreat.AM
namespace Go.Proofs.YtijhdekfbjafgaaGreat.AM
open Go Go.RowKit Go.Proofs.YtijhdekfbjafgaaGreat.RW

/-- Which way out, with which data. -/
def outD : (os : List OutD) → OutI os → Option (Σ d : OutD, d.R)
 | [], _ => none
 | [d], y => some ⟨d, y⟩
 | d :: _ :: _, .inl y => some ⟨d, y⟩
 | _ :: q :: r, .inr y => outD (q :: r) y

/-- A function does what its contract tells. -/
def FunOK (P : Program) (f : FuncId) (d : FragD) : Prop :=
 ∀ x y q z, d.g x = some y → outD d.outs y = some ⟨q, z⟩ → ∀ (I : Imm) (π : Pi) (w : World) (vs : List Value), (∀ fn, P.funcs[f]? = some fn → vs.length ≤ fn.ntmps) → vs.length = d.pin.sl.length →
  (∀ t av, lk (instSl id d.pin.sl x.1) t = some av → ∃ v, vs[t]? = some v ∧ relV π I av v) →
  SA ⟨w, fpS π (lk (instOb id d.pin.ob 0 x.2)), I⟩ I π (lk (instOb id d.pin.ob 0 x.2)) w →
  Calls P f vs.toArray w fun e w' => ∃ v, e = .returned v ∧ ∃ π' J, π.le π' ∧ I.le J ∧ SA ⟨w, fpS π (lk (instOb id d.pin.ob 0 x.2)), I⟩ J π' (lk (instOb id q.p.ob 0 (q.of z).2 ++ instOb id d.pin.ob 0 x.2)) w' ∧ ∀ av, lk (instSl id q.p.sl (q.of z).1) 0 = some av → relV π' J av v

section
variable {ρ : Type} {P : Program} {B : Base} {I : Imm} {π : Pi} {w : World} {m : AMem}

theorem newTr_ok {t : Tr ρ} {r : ρ} {ws : AMem} : ∀ {n b : Nat} {rs : List Nat}, Tr.Ex m (newTr n b t) r ws rs → (∀ j, j < n → lk m (b + j) = none) ∧ ∃ rs', Tr.Ex m t r ws rs'
 | 0, b, rs, h => ⟨fun j hj => by omega, rs, h⟩
 | n + 1, b, rs, h => by
  simp only [newTr] at h
  cases h with
  | look h =>
   dsimp only at h
   split at h
   ·rename_i ho
    obtain ⟨h1, h2⟩ := newTr_ok h
    refine ⟨fun j hj => ?_, h2⟩
    cases j with
    | zero => exact ho
    | succ j => rw [show b + (j + 1) = b + 1 + j by omega]; exact h1 j (by omega)
   ·cases h
theorem outsN_ge : ∀ (os : List OutD) (n : Nat), n ≤ outsN os n ∧ ∀ d ∈ os, d.p.ob.length ≤ outsN os n
 | [], n => ⟨Nat.le_refl _, fun _ h => by cases h⟩
 | d :: r, n => by
  obtain ⟨h1, h2⟩ := outsN_ge r (max d.p.ob.length n)
  refine ⟨Nat.le_trans (Nat.le_max_right _ _) h1, fun q hq => ?_⟩
  rcases List.mem_cons.1 hq with rfl | hq
  ·exact Nat.le_trans (Nat.le_max_left _ _) h1
  ·exact h2 q hq
theorem outD_mem : ∀ {os : List OutD} {y : OutI os} {q : OutD} {z : q.R}, outD os y = some ⟨q, z⟩ → q ∈ os
 | [], _, _, _, h => by cases h
 | [d], y, q, z, h => by
  simp only [outD, Option.some.injEq] at h
  cases h
  exact List.mem_cons_self
 | d :: q' :: r, .inl y, q, z, h => by
  simp only [outD, Option.some.injEq] at h
  cases h
  exact List.mem_cons_self
 | d :: q' :: r, .inr y, q, z, h => List.mem_cons_of_mem _ (outD_mem (os := q' :: r) h)
theorem outTr_ok {fz : AMem} {τ : Nat → Nat} : ∀ {os : List OutD} {y : OutI os} {r : Nat × ASl} {ws : AMem} {rs : List Nat}, Tr.Ex m (outTr fz τ os y) r ws rs →
  ∃ q z, outD os y = some ⟨q, z⟩ ∧ r = (q.k, instSl τ q.p.sl (q.of z).1) ∧ ws = instOb τ q.p.ob 0 (q.of z).2 ++ fz
 | [], _, _, _, _, h => by cases h
 | [d], y, r, ws, rs, h => by
  simp only [outTr, OutD.tr] at h
  cases h
  exact ⟨d, y, rfl, rfl, rfl⟩
 | d :: q :: os, y, r, ws, rs, h => by
  simp only [outTr] at h
  cases h with
  | inl y h =>
   simp only [OutD.tr] at h
   cases h
   exact ⟨d, y, rfl, rfl, rfl⟩
  | inr y h =>
   obtain ⟨q', z, h1, h2⟩ := outTr_ok h
   exact ⟨q', z, h1, h2⟩
theorem canTr_ok {obs : List PO} {b : List (Nat × Nat)} {t : List Nat → Tr ρ} {r : ρ} {ws : AMem} : ∀ {l nc : List Nat} {rs : List Nat}, Tr.Ex m (canTr obs b t l nc) r ws rs → ∃ nc', (∀ i ∈ nc, i ∈ nc') ∧ (∀ i ∈ l, ∃ o ob po, lk b i = some o ∧ obs[i]? = some po ∧ lk m o = some ob ∧ (canO po ob = true ∨ i ∈ nc')) ∧ ∃ rs', Tr.Ex m (t nc') r ws rs'
 | [], nc, rs, h => ⟨nc, fun _ h => h, fun _ h => (by cases h), rs, h⟩
 | i :: l, nc, rs, h => by
  unfold canTr at h
  split at h
  ·rename_i po o h1 h2
   cases h with
   | look h =>
    dsimp only at h
    split at h
    ·rename_i ob ho
     cases hc : canO po ob with
     | false =>
      rw [hc] at h
      obtain ⟨nc', k0, k1, k2⟩ := canTr_ok h
      exact ⟨nc', fun j hj => k0 j (List.mem_cons_of_mem _ hj), List.forall_mem_cons.2 ⟨⟨o, ob, po, h2, h1, ho, .inr (k0 i List.mem_cons_self)⟩, k1⟩, k2⟩
     | true =>
      rw [hc] at h
      obtain ⟨nc', k0, k1, k2⟩ := canTr_ok h
      exact ⟨nc', k0, List.forall_mem_cons.2 ⟨⟨o, ob, po, h2, h1, ho, .inl hc⟩, k1⟩, k2⟩
    ·cases h
  ·cases h
theorem frTr_ok {d : FragD} {sl : ASl} {base : Nat} {r : Nat × ASl} {ws : AMem} {rs : List Nat} (hx : Tr.Ex m (frTr d sl base) r ws rs) (h : SA B I π (lk m) w) :
  ∃ x s J y q z nc, d.g x = some y ∧ outD d.outs y = some ⟨q, z⟩ ∧ Viewed B π w m I ⟨[], []⟩ d.pin sl x s J ∧ (∀ j, d.pin.ob.length + j < q.p.ob.length → lk m (base + j) = none) ∧ (d.pin.ob.length ≤ q.p.ob.length ∧ d.pin.ob.all PO.real = true ∧ ∀ i, q.p.ob[i]? = some .same → i < d.pin.ob.length ∧ ∃ o ob po, lk s.b i = some o ∧ d.pin.ob[i]? = some po ∧ lk m o = some ob ∧ (canO po ob = true ∨ nc.any (Nat.beq i) = true)) ∧
   r = (q.k, instSl (tau s d.pin.ob.length base) q.p.sl (q.of z).1) ∧ ws = instOb (tau s d.pin.ob.length base) q.p.ob 0 (q.of z).2 ++ (instPick (tau s d.pin.ob.length base) nc d.pin.ob 0 x.2 ++ s.fz) := by
 unfold frTr at hx
 obtain ⟨x, s, J, rs1, h1, h2⟩ := pat_ok hx h rfl (fun i j o h => by cases h)
 obtain ⟨h3, rs2, h4⟩ := newTr_ok h1
 obtain ⟨nc, _, hcan, rs3, h4⟩ := canTr_ok h4
 generalize hok : (outsOk d.pin.ob.length d.outs && d.pin.ob.all PO.real) = b at h4
 cases b with
 | false => cases h4
 | true =>
  simp only [cond_true] at h4
  rw [Bool.and_eq_true] at hok
  obtain ⟨hok, hliv⟩ := hok
  cases h4 with
  | opt y hy h4 =>
   obtain ⟨q, z, k1, k2, k3⟩ := outTr_ok h4
   have hm := outD_mem k1
   have hle : d.pin.ob.length ≤ q.p.ob.length := by
    unfold outsOk at hok
    rw [List.all_eq_true] at hok
    have := hok q hm
    rw [Bool.and_eq_true] at this
    exact Nat.le_of_ble_eq_true this.1
   have hsm : ∀ i, q.p.ob[i]? = some .same → i < d.pin.ob.length ∧ ∃ o ob po, lk s.b i = some o ∧ d.pin.ob[i]? = some po ∧ lk m o = some ob ∧ (canO po ob = true ∨ nc.any (Nat.beq i) = true) := fun i hi => by
    have hlt : i < d.pin.ob.length := by
     refine Nat.lt_of_not_le fun hge => ?_
     unfold outsOk at hok
     rw [List.all_eq_true] at hok
     have := hok q hm
     rw [Bool.and_eq_true, List.all_eq_true] at this
     have h5 : (PO.same) ∈ q.p.ob.drop d.pin.ob.length := by
      refine List.mem_of_getElem? (i := i - d.pin.ob.length) ?_
      rw [List.getElem?_drop, show d.pin.ob.length + (i - d.pin.ob.length) = i by omega]
      exact hi
     have := this.2 _ h5
     cases this
    suffices hmem : i ∈ sames d.pin.ob.length d.outs by
     obtain ⟨o, ob, po, l1, l2, l3, l4⟩ := hcan i hmem
     exact ⟨hlt, o, ob, po, l1, l2, l3, l4.imp id (fun hm => List.any_eq_true.2 ⟨i, hm, Nat.beq_refl i⟩)⟩
    unfold sames
    rw [List.mem_filter]
    refine ⟨List.mem_range.2 hlt, ?_⟩
    rw [List.any_eq_true]
    exact ⟨q, hm, by rw [hi]; rfl⟩
   have hN := (outsN_ge d.outs 0).2 q hm
   exact ⟨x, s, J, y, q, z, nc, hy, k1, h2, fun j hj => h3 j (by omega), ⟨hle, hliv, hsm⟩, k2, k3⟩
theorem trBind_ok : ∀ {t : Tr (Nat × ASl)} {v : AV} {ws : AMem} {rs : List Nat}, Tr.Ex m (trBind t) v ws rs → ∃ r, Tr.Ex m t r ws rs ∧ lk r.2 0 = some v := by
 intro t
 induction t with
 | ret r ws0 =>
  intro v ws rs h
  simp only [trBind] at h
  split at h
  ·rename_i a ha
   cases h
   exact ⟨r, .ret _ _, ha⟩
  ·cases h
 | look o k ih =>
  intro v ws rs h
  simp only [trBind] at h
  cases h with
  | look h => obtain ⟨r, h1, h2⟩ := ih _ h; exact ⟨r, .look h1, h2⟩
 | chk b t ih =>
  intro v ws rs h
  simp only [trBind] at h
  cases h with
  | chk h => obtain ⟨r, h1, h2⟩ := ih h; exact ⟨r, .chk h1, h2⟩
 | ite b t e iht ihe =>
  intro v ws rs h
  simp only [trBind] at h
  cases h with
  | iteT h => obtain ⟨r, h1, h2⟩ := iht h; exact ⟨r, .iteT h1, h2⟩
  | iteF h => obtain ⟨r, h1, h2⟩ := ihe h; exact ⟨r, .iteF h1, h2⟩
 | opt α x k ih =>
  intro v ws rs h
  simp only [trBind] at h
  cases h with
  | opt y hy h => obtain ⟨r, h1, h2⟩ := ih _ h; exact ⟨r, .opt y hy h1, h2⟩
 | sum α β x k l ihk ihl =>
  intro v ws rs h
  simp only [trBind] at h
  cases h with
  | inl y h => obtain ⟨r, h1, h2⟩ := ihk _ h; exact ⟨r, .inl y h1, h2⟩
  | inr y h => obtain ⟨r, h1, h2⟩ := ihl _ h; exact ⟨r, .inr y h1, h2⟩
 | fail => intro v ws rs h; simp only [trBind] at h; cases h

/-- A call of a function whose contract is known. -/
theorem call_ok {f : Nat} {d : FragD} (hf : FunOK P f d) {l : ASl} {nb : Nat} {v : AV} {ws : AMem} {rs : List Nat} (h : SA B I π (lk m) w) {vs : List Value} (hlen : ∀ fn, P.funcs[f]? = some fn → vs.length ≤ fn.ntmps) (hls : vs.length = d.pin.sl.length) (hvs : ∀ t av, lk l t = some av → ∃ u, vs[t]? = some u ∧ relV π I av u)
  (hx : Tr.Ex m (trBind (frTr d l nb)) v ws rs) : Calls P f vs.toArray w fun e w' => ∃ y, e = .returned y ∧ Post B I π v (lk (ws ++ m)) y w' := by
 obtain ⟨r, h1, h2⟩ := trBind_ok hx
 obtain ⟨x, s, J, y, q, z, nc, hg, ho, hv, hnew, hle, rfl, rfl⟩ := frTr_ok h1 h
 refine (hf x y q z hg ho J (view s d.pin.ob.length π) w vs hlen hls (fun t av ht => ?_) (hv.start hle.2.1)).mono ?_
 ·obtain ⟨av0, k1, k2⟩ := hv.slot t av ht
  obtain ⟨u, k3, k4⟩ := hvs t av0 k1
  exact ⟨u, k3, k2 J (Imm.le_refl _) u (k4.ext (Pi.le_refl _) hv.le)⟩
 ·rintro e w' ⟨u, rfl, π', J', k1, k2, k3, k4⟩
  obtain ⟨π3, q1, q2, q3⟩ := hv.back hnew hle.1 hle.2.1 hle.2.2 k1 k2 k3
  obtain ⟨av', q4, q5⟩ := ren_Sl (J := J') q2 h2
  exact ⟨u, rfl, π3, J', q1, Imm.le_trans hv.le k2, q3, q5 u (k4 av' q4)⟩
theorem fitObs_ok {obs : List PO} {k : Bool → Tr ρ} {r : ρ} {ws : AMem} : ∀ {n : Nat} {l : List (Nat × Nat)} {rs : List Nat}, Tr.Ex m (fitObs obs k n l) r ws rs → ∃ b rs', Tr.Ex m (k b) r ws rs'
 | 0, _, rs, h => by unfold fitObs at h; exact ⟨_, _, h⟩
 | n + 1, [], rs, h => by unfold fitObs at h; exact ⟨_, _, h⟩
 | n + 1, (i, o) :: l, rs, h => by
  unfold fitObs at h
  split at h
  ·exact ⟨_, _, h⟩
  ·cases h with
   | look h =>
    dsimp only at h
    cases hb : fitO _ (lk m o) with
    | true => rw [hb] at h; exact fitObs_ok h
    | false => rw [hb] at h; exact ⟨_, _, h⟩
theorem callTr_ok {f : Nat} {ds : List FragD} (hf : ∀ d ∈ ds, FunOK P f d) {l : ASl} {nb : Nat} {v : AV} {ws : AMem} {rs : List Nat} (h : SA B I π (lk m) w) {vs : List Value} (hlen : ∀ fn, P.funcs[f]? = some fn → vs.length ≤ fn.ntmps) (hll : l.length = vs.length) (hvs : ∀ t av, lk l t = some av → ∃ u, vs[t]? = some u ∧ relV π I av u)
  (hx : Tr.Ex m (callTr l nb ds) v ws rs) : Calls P f vs.toArray w fun e w' => ∃ y, e = .returned y ∧ Post B I π v (lk (ws ++ m)) y w' := by
 induction ds generalizing rs with
 | nil => simp only [callTr] at hx; cases hx
 | cons d r ih =>
  cases r with
  | nil =>
   simp only [callTr] at hx
   cases hb : Nat.beq l.length d.pin.sl.length with
   | false => rw [hb] at hx; cases hx
   | true =>
    rw [hb] at hx
    exact call_ok (hf d List.mem_cons_self) h hlen (hll.symm.trans (Nat.eq_of_beq_eq_true hb)) hvs hx
  | cons q r =>
   simp only [callTr] at hx
   cases hb : fits d l with
   | true =>
    rw [hb] at hx
    obtain ⟨b, rs', hx⟩ := fitObs_ok hx
    cases hb2 : (b && Nat.beq l.length d.pin.sl.length) with
    | true =>
     rw [hb2] at hx
     rw [Bool.and_eq_true] at hb2
     exact call_ok (hf d List.mem_cons_self) h hlen (hll.symm.trans (Nat.eq_of_beq_eq_true hb2.2)) hvs hx
    | false =>
     rw [hb2] at hx
     exact ih (fun d hd => hf d (List.mem_cons_of_mem _ hd)) hx
   | false => rw [hb] at hx; exact ih (fun d hd => hf d (List.mem_cons_of_mem _ hd)) hx
theorem fnsOf_ok {fns : List (Nat × FragD)} {f : Nat} (hf : ∀ g d, (g, d) ∈ fns → FunOK P g d) : ∀ d ∈ fnsOf fns f, FunOK P f d := by
 intro d hd
 unfold fnsOf at hd
 obtain ⟨p, hp, h⟩ := List.mem_filterMap.1 hd
 cases hb : Nat.beq p.1 f with
 | false => rw [hb] at h; cases h
 | true =>
  rw [hb] at h
  injection h with h
  subst h
  have := Nat.eq_of_beq_eq_true hb
  subst this
  exact hf p.1 p.2 hp
theorem argSl_ok : ∀ {L : List (Option AV)} {vs : List Value} {i : Nat} {l : ASl}, argSl L i = some l → rl (fun a v => ∃ av, a = some av ∧ relV π I av v) L vs → ∀ t av, lk l t = some av → i ≤ t ∧ ∃ v, vs[t - i]? = some v ∧ relV π I av v
 | [], vs, i, l, h, _, t, av, ht => by
  simp only [argSl, Option.some.injEq] at h
  subst h
  cases ht
 | none :: L, vs, i, l, h, _, _, _, _ => by simp [argSl] at h
 | some a :: L, [], i, l, h, hr, _, _, _ => hr.elim
 | some a :: L, v :: vs, i, l, h, hr, t, av, ht => by
  simp only [argSl] at h
  split at h
  ·rename_i l' hl
   injection h with h
   subst h
   rw [lk_cons] at ht
   split at ht
   ·rename_i e
    subst e
    injection ht with ht
    subst ht
    obtain ⟨⟨av', e1, e2⟩, _⟩ := hr
    injection e1 with e1
    subst e1
    exact ⟨Nat.le_refl _, v, by simp, e2⟩
   ·obtain ⟨h1, v', h2, h3⟩ := argSl_ok hl hr.2 t av ht
    refine ⟨by omega, v', ?_, h3⟩
    rw [show t - i = (t - (i + 1)) + 1 by omega]
    simpa using h2
  ·cases h
theorem argSl_len : ∀ {L : List (Option AV)} {i : Nat} {l : ASl}, argSl L i = some l → l.length = L.length
 | [], i, l, h => by
  simp only [argSl, Option.some.injEq] at h
  subst h
  rfl
 | none :: L, i, l, h => by simp [argSl] at h
 | some a :: L, i, l, h => by
  simp only [argSl] at h
  split at h
  ·rename_i l' hl
   injection h with h
   subst h
   rw [List.length_cons, List.length_cons, argSl_len hl]
  ·cases h
theorem rl_len {α β : Type} {R : α → β → Prop} : ∀ {l : List α} {r : List β}, rl R l r → l.length = r.length
 | [], [], _ => rfl
 | _ :: _, _ :: _, h => by rw [List.length_cons, List.length_cons, rl_len h.2]
 | [], _ :: _, h => h.elim
 | _ :: _, [], h => h.elim
theorem capA_ok : ∀ {l : List (Nat × Nat)} {ys : List Value}, rl (relP π) l ys → rl (fun a v => ∃ av, a = some av ∧ relV π I av v) (capA l) ys
 | [], [], _ => trivial
 | q :: l, y :: ys, h => ⟨⟨_, rfl, h.1⟩, capA_ok h.2⟩
 | [], _ :: _, h => h.elim
 | _ :: _, [], h => h.elim
theorem enter_len {g n : Nat} (h : enterOk P g n = true) : ∀ fn, P.funcs[g]? = some fn → n ≤ fn.ntmps := by
 intro fn hfn
 unfold enterOk at h
 rw [hfn] at h
 simp only [Bool.and_eq_true] at h
 exact Nat.le_of_ble_eq_true h.2
theorem enter_ok {g n : Nat} (h : enterOk P g n = true) (args : Array Value) (w : World) : (callFunc g args).run P w = .ok (.enter g args) w := by
 unfold enterOk at h
 split at h
 ·rename_i fn hfn
  rw [Bool.and_eq_true, Bool.and_eq_true] at h
  obtain ⟨⟨h1, h2⟩, _⟩ := h
  simp [callFunc, hfn] at h1 h2 ⊢
  simp [h1]
  intro e
  rw [e] at h2
  cases h2
 ·cases h
theorem argSl_ok' {L : List (Option AV)} {i : Nat} {l : ASl} (h : argSl L i = some l) : ∀ a ∈ L, a ≠ none := by
 induction L generalizing i l with
 | nil => intro a ha; cases ha
 | cons b L ih =>
  cases b with
  | none => simp [argSl] at h
  | some b =>
   simp only [argSl] at h
   split at h
   ·rename_i l' hl
    intro a ha
    rcases List.mem_cons.1 ha with rfl | ha
    ·simp
    ·exact ih hl a ha
   ·cases h
theorem sl_rel {sl : Operand → Option AV} {σ : Operand → Value} {xs : List Operand} (hsl : ∀ x ∈ xs, ∀ av, sl x = some av → relV π I av (σ x)) (hn : ∀ x ∈ xs, sl x ≠ none) : rl (fun a v => ∃ av, a = some av ∧ relV π I av v) (xs.map sl) (xs.map σ) := by
 induction xs with
 | nil => trivial
 | cons x xs ih =>
  refine ⟨?_, ih (fun y hy => hsl y (List.mem_cons_of_mem _ hy)) (fun y hy => hn y (List.mem_cons_of_mem _ hy))⟩
  obtain ⟨av, hav⟩ := Option.ne_none_iff_exists'.1 (hn x List.mem_cons_self)
  exact ⟨av, hav, hsl x List.mem_cons_self av hav⟩
theorem ofAC_some {o : Option AV} {a : AC} (h : ofAC o = some a) : o = some (ac a) := by
 unfold ofAC at h
 split at h
 ·injection h with h
  subst h
  rfl
 ·cases h
theorem intA_some {o : Option AV} {i : Int} (h : intA o = some i) : ∃ k, o = some (ac (.v (.int k i))) := by
 unfold intA at h
 split at h
 ·injection h with h
  subst h
  exact ⟨_, rfl⟩
 ·cases h
theorem ptrs_ok {l : List Operand} {sl : Operand → Option AV} {σ : Operand → Value} (hsl : ∀ x ∈ l, ∀ av, sl x = some av → relV π I av (σ x)) : ∀ {r : List (Nat × Nat)}, ptrs (l.map sl) = some r → rl (relP π) r (l.map σ) := by
 induction l with
 | nil =>
  intro r h
  simp only [List.map_nil, ptrs, Option.some.injEq] at h
  subst h
  trivial
 | cons x l ih =>
  intro r h
  simp only [List.map_cons] at h
  unfold ptrs at h
  split at h
  ·rename_i heq; cases heq
  ·rename_i o q r' heq
   injection heq with h1 h2
   subst h2
   split at h
   ·rename_i l' hl
    injection h with h
    subst h
    exact ⟨hsl x List.mem_cons_self _ h1, ih (fun y hy => hsl y (List.mem_cons_of_mem _ hy)) hl⟩
   ·cases h
  ·cases h
theorem parts_ok {sl : Operand → Option AV} {σ : Operand → Value} : ∀ {ps : List (Nat × Operand)} {cs cs' : List AC} {place : Nat → Option (Nat × Nat)}, (∀ p ∈ ps, ∀ av, sl p.2 = some av → relV π I av (σ p.2)) → fillA place cs (ps.map fun p => (p.1, sl p.2)) = some cs' →
  rl (fun p q => p.1 = q.1 ∧ ∃ av, p.2 = some av ∧ relV π I av q.2) (ps.map fun p => (p.1, sl p.2)) (ps.map fun p => (p.1, σ p.2))
 | [], _, _, _, _, _ => trivial
 | p :: ps, cs, cs', place, hsl, h => by
  simp only [List.map_cons, fillA] at h
  split at h
  ·rename_i off n v hp hv
   split at h
   ·cases hb : Nat.beq _ _ with
    | false => rw [hb] at h; cases h
    | true =>
     rw [hb] at h
     simp only [cond_true] at h
     split at h
     ·exact ⟨⟨rfl, v, hv, hsl p List.mem_cons_self v hv⟩, parts_ok (fun q hq => hsl q (List.mem_cons_of_mem _ hq)) h⟩
     ·cases h
   ·cases h
  ·cases h
end
end Go.Proofs.YtijhdekfbjafgaaGreat.AM
namespace Go.Proofs.YtijhdekfbjafgaaGreat.AM
open Go Go.RowKit Go.Proofs.YtijhdekfbjafgaaGreat.RW

section
variable {P : Program} {B : Base} {I : Imm} {π : Pi} {w : World} {m : AMem}

theorem Does.pure {y : Value} {N : Value → World → Prop} (hN : N y w) : Does P (pure (.value y)) w N := .inl ⟨y, w, .inl rfl, hN⟩
theorem nilTr_ok {ρ : Type} (h : SA B I π (lk m) w) {t : TypeId} {v : AV} {y : Value} (hv : relV π I v y) {nb : Nat} {k : AV → AMem → Tr ρ} {r : ρ} {ws : AMem} {rs : List Nat} (hx : Tr.Ex m (nilTr P t v nb k) r ws rs) :
  ∃ v' w0 π' rs', Tr.Ex m (k v' w0) r ws rs' ∧ π.le π' ∧ SA B I π' (lk (w0 ++ m)) w ∧ relV π' I v' y ∧ ∀ o, o ≠ nb → lk w0 o = none := by
 have same : Tr.Ex m (k v []) r ws rs → ∃ v' w0 π' rs', Tr.Ex m (k v' w0) r ws rs' ∧ π.le π' ∧ SA B I π' (lk (w0 ++ m)) w ∧ relV π' I v' y ∧ ∀ o, o ≠ nb → lk w0 o = none := fun hx => ⟨v, [], π, rs, hx, Pi.le_refl _, h, hv, fun _ _ => rfl⟩
 unfold nilTr at hx
 split at hx
 ·split at hx
  ·rename_i e hu
   split at hx
   ·rename_i c hc
    obtain ⟨hnb, rs', hx'⟩ := freshTr_inv hx
    obtain ⟨rfl, _⟩ := hv
    obtain ⟨p, h1, h2, h3⟩ := h.row (c := c) (l := []) hnb (World.ownsRow_nil w 0 e c.sz) rfl (grownBy_refl w none) (fun k hk => by cases hk)
    refine ⟨_, _, _, rs', hx', updP_le (h.dom nb hnb) p, ?_, ⟨p, updP_self _ _ _, h1⟩, fun o ho => ?_⟩
    ·show SA B I _ (lk ((nb, .row e c []) :: m)) w
     rw [lk_upd]
     exact h3
    ·rw [lk_cons, if_neg (fun e => ho e.symm)]
     rfl
   ·exact same hx
  ·exact same hx
 ·exact same hx
theorem boxTr_ok (h : SA B I π (lk m) w) {e : TypeId} {v : AV} {u : Value} (hv : relV π I v u) {nb : Nat} {r : AV} {ws : AMem} {rs : List Nat} (hx : Tr.Ex m (boxTr P e v nb) r ws rs) :
  ∃ w', (newVar e u).run P w = .ok ⟨w.heap.size, 0, none⟩ w' ∧ Post B I π r (lk (ws ++ m)) (.pointer (some ⟨w.heap.size, 0, none⟩)) w' := by
 unfold boxTr at hx
 obtain ⟨v', w0, π', rs', h1, h2, h3, h4, h5⟩ := nilTr_ok h hv hx
 split at h1
 ·rename_i cs hc
  obtain ⟨hnb, rs2, h6⟩ := freshTr_inv h1
  cases h6
  have hnb' : lk (w0 ++ m) nb = none := by rw [lk_append, h5 nb (by omega), hnb]; rfl
  obtain ⟨w', k1, π2, I2, k2, k3, k4, k5⟩ := new_ok (P := P) h3 hnb' e (relV.cells hc h4)
  exact ⟨w', by simpa [newVar] using k1, π2, I2, Pi.le_trans h2 k2, k3, k4, k5⟩
 ·cases h1
theorem aop_ok {fns : List (Nat × FragD)} (hfns : ∀ g d, (g, d) ∈ fns → FunOK P g d) (h : SA B I π (lk m) w) {sl : Operand → Option AV} {σ : Operand → Value} {o : Oper} (hsl : ∀ x ∈ o.op.operands, ∀ av, sl x = some av → relV π I av (σ x))
  {nb : Nat} {v : AV} {ws : AMem} {rs : List Nat} (hx : Tr.Ex m (aop P fns sl o nb) v ws rs) : Does P (execOp σ o) w (Post B I π v (lk (ws ++ m))) := by
 have hac : ∀ x ∈ o.op.operands, ∀ a, ofAC (sl x) = some a → relC π I a (σ x) := fun x hx a ha => hsl x hx _ (ofAC_some ha)
 have hint : ∀ x ∈ o.op.operands, ∀ i, intA (sl x) = some i → isInt i (σ x) := fun x hx i hi => by
  obtain ⟨k, hk⟩ := intA_some hi
  obtain ⟨h1, _⟩ := hsl x hx _ hk
  exact ⟨k, h1⟩
 have mv2 : ∀ x ∈ o.op.operands, execOp σ o = pure (.value (σ x)) → Tr.Ex m (match sl x with | some v => nilTr P o.type v nb .ret | none => .fail) v ws rs → Does P (execOp σ o) w (Post B I π v (lk (ws ++ m))) := fun x hm he hx => by
  split at hx
  ·rename_i av hav
   obtain ⟨v', w0, π', rs', h1, h2, h3, h4, _⟩ := nilTr_ok h (hsl x hm _ hav) hx
   cases h1
   rw [he]
   exact Does.pure ⟨π', I, h2, Imm.le_refl _, h3, h4⟩
  ·cases hx
 have mv : ∀ x ∈ o.op.operands, execOp σ o = pure (.value (σ x)) → Tr.Ex m (Tr.ofO (sl x)) v ws rs → Does P (execOp σ o) w (Post B I π v (lk (ws ++ m))) := fun x hm he hx => by
  unfold Tr.ofO at hx
  split at hx
  ·rename_i av hav
   cases hx
   rw [he]
   exact Does.pure (Post.here h (hsl x hm _ hav))
  ·cases hx
 have scal : Tr.Ex m (scalA P sl o) v ws rs → Does P (execOp σ o) w (Post B I π v (lk (ws ++ m))) := fun hx => scalA_ok h hsl hx
 unfold aop at hx
 split at hx
 ·-- move
  rename_i x ho
  exact mv2 x (by rw [ho]; simp [Op.operands]) (by unfold execOp; rw [ho]) hx
 ·rename_i x ho
  exact mv2 x (by rw [ho]; simp [Op.operands]) (by unfold execOp; rw [ho]) hx
 ·-- pick
  rename_i c a b ho
  split at hx
  ·rename_i t ht
   have hc := hac c (by rw [ho]; simp [Op.operands]) _ ht
   have hex : execOp σ o = pure (.value (if t = true then σ a else σ b)) := by
    have hc : σ c = .bool t := hc.1
    unfold execOp
    rw [ho]
    simp only [hc]
    rfl
   cases hx with
   | iteT hx => exact mv a (by rw [ho]; simp [Op.operands]) (by rw [hex]; rfl) hx
   | iteF hx => exact mv b (by rw [ho]; simp [Op.operands]) (by rw [hex]; rfl) hx
  ·cases hx
 ·-- alloc
  rename_i e ho
  have hex : execOp σ o = toNext (Instr.alloc e true (.tuple #[])) := by unfold execOp; rw [ho]; rfl
  have fin : ∀ (cs : List AC) (av : AV), zeroT P e = some cs → (∀ z : Value, cs = z.cells.toList.map AC.v → z.cells.toList.all (·.oneCell') = true → ∃ u : Value, u.cells = z.cells ∧ relV π I av u) → Tr.Ex m (boxTr P e av nb) v ws rs → Does P (execOp σ o) w (Post B I π v (lk (ws ++ m))) := by
   intro cs av hz hu hx
   obtain ⟨i, z, hi, hz1, hcs, hall⟩ := zeroT_spec hz
   obtain ⟨u, hu1, hu2⟩ := hu z hcs hall
   obtain ⟨w', h1, h2⟩ := boxTr_ok h hu2 hx
   rw [hex]
   refine Does.val (y := .pointer (some ⟨w.heap.size, 0, none⟩)) (w' := w') ?_ h2
   have h1' : (newVar e z).run P w = .ok ⟨w.heap.size, 0, none⟩ w' := by
    unfold newVar at h1 ⊢
    rw [← hu1]
    exact h1
   simp [Instr.alloc, zeroValue, typeInfo, hi, hz1, h1']
  split at hx
  ·rename_i a hz
   refine fin [a] _ hz (fun z hcs hall => ?_) hx
   cases hl : z.cells.toList with
   | nil => rw [hl] at hcs; cases hcs
   | cons x xs =>
    cases xs with
    | cons _ _ => rw [hl] at hcs; simp at hcs
    | nil =>
     rw [hl] at hcs hall
     simp only [List.map_cons, List.map_nil, List.cons.injEq, and_true] at hcs
     have hone : x.oneCell' = true := by simpa using hall
     refine ⟨x, ?_, ?_⟩
     ·rw [cells_one hone, ← Array.toList_inj, hl]
     ·rw [hcs]; exact ⟨rfl, hone⟩
  ·rename_i cs _ hz
   refine fin cs _ hz (fun z hcs hall => ?_) hx
   exact ⟨.agg z.cells, rfl, z.cells.toList, by simp, by rw [hcs]; exact rl_v hall⟩
  ·cases hx
 ·-- box
  rename_i e x ho
  split at hx
  ·rename_i av hav
   obtain ⟨w', h1, h2⟩ := boxTr_ok h (hsl x (by rw [ho]; simp [Op.operands]) _ hav) hx
   have hex : execOp σ o = toNext (Instr.box e (σ x)) := by unfold execOp; rw [ho]; rfl
   rw [hex]
   refine Does.val (y := .pointer (some ⟨w.heap.size, 0, none⟩)) (w' := w') ?_ h2
   simp [Instr.box, h1]
  ·cases hx
 ·-- load
  rename_i t x ho
  split at hx
  ·rename_i a ha
   obtain ⟨rfl, y, h1, h2⟩ := ldA_ok h (hac x (by rw [ho]; simp [Op.operands]) _ ha) hx
   have hex : execOp σ o = toNext (Instr.loadAt t (σ x)) := by unfold execOp; rw [ho]; rfl
   rw [hex]
   exact Does.val h1 (Post.here h h2)
  ·cases hx
 ·-- store
  rename_i t x u ho
  split at hx
  ·rename_i a av ha hav
   obtain ⟨rfl, w', J, h1, h2, h3⟩ := stA_ok h (hac x (by rw [ho]; simp [Op.operands]) _ ha) (hsl u (by rw [ho]; simp [Op.operands]) _ hav) hx
   have hex : execOp σ o = (Instr.storeAt t (σ x) (σ u)).bind fun _ => .pure .skip := by unfold execOp; rw [ho]; rfl
   rw [hex]
   exact Does.unit h1 ⟨π, J, Pi.le_refl _, h2, h3, [], rfl, trivial⟩
  ·cases hx
 ·-- fieldAddr
  rename_i s x f ho
  split at hx
  ·rename_i a ha
   obtain ⟨rfl, y, h1, h2⟩ := fldA_ok (w := w) (hac x (by rw [ho]; simp [Op.operands]) _ ha) hx
   have hex : execOp σ o = toNext (Instr.fieldAt s (σ x) f) := by unfold execOp; rw [ho]; rfl
   rw [hex]
   exact Does.val h1 (Post.here h h2)
  ·cases hx
 ·-- indexAddr
  rename_i t x i ho
  split at hx
  ·rename_i a n ha hi
   obtain ⟨k, hk⟩ := hint i (by rw [ho]; simp [Op.operands]) _ hi
   obtain ⟨rfl, y, h1, h2⟩ := idxA_ok (k := k) h (hac x (by rw [ho]; simp [Op.operands]) _ ha) hx
   have hex : execOp σ o = toNext (Instr.indexAt t (σ x) (σ i)) := by unfold execOp; rw [ho]; rfl
   rw [hex, hk]
   exact Does.val h1 (Post.here h h2)
  ·cases hx
 ·-- field
  rename_i t x f ho
  split at hx
  ·rename_i fs cs hu hcs
   split at hx
   ·rename_i fd hfd
    split at hx
    ·rename_i y hp
     cases hx
     obtain ⟨ys, h1, h2⟩ := hsl x (by rw [ho]; simp [Op.operands]) _ hcs
     have hex : execOp σ o = toNext (Instr.field t (σ x) f) := by unfold execOp; rw [ho]; rfl
     have key : ∃ y', (part fd.type ys.toArray fd.offset).run P w = .ok y' w ∧ relW π I y y' := by
      unfold partA at hp
      split at hp
      ·rename_i n hag hn
       cases hb : Nat.ble (fd.offset + n) cs.length with
       | false => rw [hb] at hp; cases hp
       | true =>
        rw [hb] at hp
        injection hp with hp
        subst hp
        obtain ⟨dd, hud, hd⟩ := aggT_true hag
        obtain ⟨i, hi, hs⟩ := Option.map_eq_some_iff.1 (szT_info hn)
        have hisagg : (isAgg fd.type).run P w = .ok true w := by
         unfold isAgg
         rw [Sem.run_bind, run_underlying hud w]
         cases dd <;> simp_all
        refine ⟨.agg ((ys.drop fd.offset).take n).toArray, ?_, _, rfl, (h2.drop _).take _⟩
        simp [part, hisagg, sizeOf, typeInfo, hi, hs]
      ·rename_i hf _ hag
       split at hp
       ·rename_i a hc
        injection hp with hp
        subst hp
        obtain ⟨y', hy, hry⟩ := h2.get hc
        refine ⟨y', ?_, hry⟩
        simp [part, aggT_false hag, hy]
       ·cases hp
      ·cases hp
     obtain ⟨y', h3, h4⟩ := key
     rw [hex]
     refine Does.val (y := y') (w' := w) ?_ (Post.here h h4)
     rw [h1]
     simp [Instr.field, run_underlying hu, hfd, asAgg, h3]
    ·cases hx
   ·cases hx
  ·cases hx
 ·-- index
  rename_i t x i ho
  split at hx
  ·rename_i s n hu hs hi
   obtain ⟨k, hk⟩ := hint i (by rw [ho]; simp [Op.operands]) _ hi
   have hs := (hac x (by rw [ho]; simp [Op.operands]) _ hs).1
   generalize hb : inb n s.size = b at hx
   cases hx with
   | chk hx =>
   cases hx
   obtain ⟨h0, h1⟩ := inb_spec hb
   have hex : execOp σ o = toNext (Instr.index t (σ x) (σ i)) := by unfold execOp; rw [ho]; rfl
   rw [hex, hk, hs]
   refine Does.val (y := .int .u8 (sb s n)) (w' := w) ?_ (Post.here h ⟨rfl, rfl⟩)
   have h2 : n.toNat < s.size := by omega
   have h3 : s[n.toNat]? = some s[n.toNat] := getElem?_pos s n.toNat h2
   simp [Instr.index, asIntOf, run_underlying hu, h0, h3, sb]
  ·cases hx
 ·-- extract
  rename_i x i ho
  split at hx
  ·rename_i l hl
   split at hx
   ·rename_i y hy
    cases hx
    obtain ⟨ys, h1, h2⟩ := hsl x (by rw [ho]; simp [Op.operands]) _ hl
    obtain ⟨y', h3, h4⟩ := h2.get hy
    have hex : execOp σ o = toNext (Instr.extract (σ x) i) := by unfold execOp; rw [ho]; rfl
    rw [hex]
    refine Does.val (y := y') (w' := w) ?_ (Post.here h h4)
    rw [h1]
    simp [Instr.extract, h3]
   ·cases hx
  ·cases hx
 ·-- nilCheck
  rename_i x ho
  have hm : x ∈ o.op.operands := by rw [ho]; simp [Op.operands]
  split at hx
  ·rename_i q off ha
   cases hx
   obtain ⟨p, g, h1, h2, h3⟩ := hac x hm _ ha
   have hex : execOp σ o = pure (.value (σ x)) := by unfold execOp; rw [ho]; simp only [h3]
   rw [hex]
   exact Does.pure (Post.here h (hac x hm _ ha))
  ·rename_i c z off ha
   cases hx
   obtain ⟨g, q, cs, h3, _⟩ := hac x hm _ ha
   have hex : execOp σ o = pure (.value (σ x)) := by unfold execOp; rw [ho]; simp only [h3]
   rw [hex]
   exact Does.pure (Post.here h (hac x hm _ ha))
  ·rename_i q z i off ha
   cases hx
   obtain ⟨p, g, h1, h2, _, h3⟩ := hac x hm _ ha
   have hex : execOp σ o = pure (.value (σ x)) := by unfold execOp; rw [ho]; simp only [h3]
   rw [hex]
   exact Does.pure (Post.here h (hac x hm _ ha))
  ·rename_i f a b ha
   split at hx
   ·rename_i g
    cases hx
    obtain ⟨xs, ys, h3, _⟩ := hac x hm _ ha
    have hex : execOp σ o = pure (.value (σ x)) := by unfold execOp; rw [ho]; simp only [h3]
    rw [hex]
    exact Does.pure (Post.here h (hac x hm _ ha))
   ·cases hx
  ·exact scal hx
 ·-- build
  rename_i t ps ho
  have hmem : ∀ p ∈ ps.toList, p.2 ∈ o.op.operands := fun p hp => by rw [ho]; simp only [Op.operands, List.mem_toArray, List.mem_map]; exact ⟨p, hp, rfl⟩
  have hpr : rl (fun p q => p.1 = q.1 ∧ ∃ av, p.2 = some av ∧ relV π I av q.2) (ps.toList.map fun p => (p.1, sl p.2)) (ps.toList.map fun p => (p.1, σ p.2)) := by
   have hx2 := hx
   unfold buildA at hx2
   split at hx2
   ·split at hx2
    ·rename_i cs hf
     exact parts_ok (fun p hp => hsl _ (hmem p hp)) hf
    ·cases hx2
   ·cases hx2
  obtain ⟨rfl, y, h1, h2⟩ := buildA_ok (w := w) (vs := ps.map fun (i, x) => (i, σ x)) (by simpa using hpr) hx
  have hex : execOp σ o = toNext (Instr.build t (ps.map fun (i, x) => (i, σ x))) := by unfold execOp; rw [ho]; rfl
  rw [hex]
  exact Does.val h1 (Post.here h h2)
 ·-- buildSlice
  rename_i t n ps ho
  have hmem : ∀ p ∈ ps.toList, p.2 ∈ o.op.operands := fun p hp => by rw [ho]; simp only [Op.operands, List.mem_toArray, List.mem_map]; exact ⟨p, hp, rfl⟩
  have hpr : rl (fun p q => p.1 = q.1 ∧ ∃ av, p.2 = some av ∧ relV π I av q.2) (ps.toList.map fun p => (p.1, sl p.2)) (ps.toList.map fun p => (p.1, σ p.2)) := by
   have hx2 := hx
   unfold bslA at hx2
   split at hx2
   ·split at hx2
    ·split at hx2
     ·rename_i cs hf
      exact parts_ok (fun p hp => hsl _ (hmem p hp)) hf
     ·cases hx2
    ·split at hx2
     ·rename_i cs hf
      exact parts_ok (fun p hp => hsl _ (hmem p hp)) hf
     ·cases hx2
    ·cases hx2
   ·cases hx2
  obtain ⟨y, w', h1, h2⟩ := bslA_ok (P := P) h (vs := ps.map fun (i, x) => (i, σ x)) (by simpa using hpr) hx
  have hex : execOp σ o = toNext (Instr.buildSlice t n (ps.map fun (i, x) => (i, σ x))) := by unfold execOp; rw [ho]; rfl
  rw [hex]
  exact Does.val h1 h2
 ·-- makeSlice
  rename_i t l c ho
  split at hx
  ·rename_i l' c' hl hc
   obtain ⟨kl, h1⟩ := hint l (by rw [ho]; simp [Op.operands]) _ hl
   obtain ⟨kc, h2⟩ := hint c (by rw [ho]; simp [Op.operands]) _ hc
   obtain ⟨y, w', h3, h4⟩ := mkA_ok (P := P) (kl := kl) (kc := kc) h hx
   have hex : execOp σ o = toNext (Instr.makeSlice t (σ l) (σ c)) := by unfold execOp; rw [ho]; rfl
   rw [hex, h1, h2]
   exact Does.val h3 h4
  ·cases hx
 ·-- makeFunc
  rename_i fn a b ho
  split at hx
  ·rename_i a' b' ha hb
   cases hx
   have h1 := ptrs_ok (σ := σ) (fun x hx => hsl x (by rw [ho]; simp only [Op.operands, Array.mem_append]; exact .inl (by simpa using hx))) ha
   have h2 := ptrs_ok (σ := σ) (fun x hx => hsl x (by rw [ho]; simp only [Op.operands, Array.mem_append]; exact .inr (by simpa using hx))) hb
   have hex : execOp σ o = toNext (Instr.makeFunc fn (a.map σ) (b.map σ)) := by unfold execOp; rw [ho]; rfl
   rw [hex]
   refine Does.val (y := .func fn (a.map σ) (b.map σ)) (w' := w) rfl (Post.here h ⟨_, _, ?_, h1, h2⟩)
   simp only [Value.func.injEq, true_and]
   constructor <;> (apply Array.ext'; simp)
  ·cases hx
 ·-- slice
  rename_i t x lo hi mx ho
  split at hx
  ·rename_i a ha
   split at hx
   ·rename_i lo' hi' mx' hlo hhi hmx
    have num : ∀ (y : Option Operand) r, (∀ z, y = some z → z ∈ o.op.operands) → numA sl y = some r → optInt r (y.map σ) := by
     intro y r hm hr
     cases y with
     | none =>
      simp only [numA, Option.some.injEq] at hr
      subst hr
      trivial
     | some z =>
      simp only [numA] at hr
      split at hr
      ·rename_i i hi
       injection hr with hr
       subst hr
       exact hint z (hm z rfl) i hi
      ·cases hr
    obtain ⟨y, J, h1, h2, h3, h4⟩ := slcA_ok h (hac x (by rw [ho]; simp [Op.operands]) _ ha) (num lo lo' (fun z hz => by rw [ho]; simp [Op.operands, hz]) hlo) (num hi hi' (fun z hz => by rw [ho]; simp [Op.operands, hz]) hhi) (num mx mx' (fun z hz => by rw [ho]; simp [Op.operands, hz]) hmx) hx
    have hex : execOp σ o = toNext (Instr.sliceAt t (σ x) (lo.map σ) (hi.map σ) (mx.map σ)) := by unfold execOp; rw [ho]; rfl
    rw [hex]
    exact Does.val h1 ⟨π, J, Pi.le_refl _, h2, h3, h4⟩
   ·cases hx
  ·cases hx
 ·-- binOp
  rename_i op t x y t2 ho
  have hmx : x ∈ o.op.operands := by rw [ho]; simp [Op.operands]
  have hmy : y ∈ o.op.operands := by rw [ho]; simp [Op.operands]
  split at hx
  ·rename_i k a k' b hxa hyb
   have h1 := (hac x hmx _ hxa).1
   have h2 := (hac y hmy _ hyb).1
   generalize hk : (k == k') = kb at hx
   cases kb with
   | false => cases hx
   | true =>
   simp only [cond_true] at hx
   have hk : k = k' := by simpa using hk
   subst hk
   generalize hb : (!decide (b = 0)) = nb2 at hx
   cases hx with
   | chk hx =>
   cases hx
   have hb : b ≠ 0 := by simpa using hb
   refine .inl ⟨_, w, .inl ?_, Post.here h ⟨rfl, rfl⟩⟩
   unfold execOp
   rw [ho]
   simp [h1, h2, eqGuard, binOp, Op.intDiv, hb]
  ·rename_i k a k' b hxa hyb
   have h1 := (hac x hmx _ hxa).1
   have h2 := (hac y hmy _ hyb).1
   generalize hk : (k == k') = kb at hx
   cases kb with
   | false => cases hx
   | true =>
   simp only [cond_true] at hx
   have hk : k = k' := by simpa using hk
   subst hk
   generalize hb : (!decide (b = 0)) = nb2 at hx
   cases hx with
   | chk hx =>
   cases hx
   have hb : b ≠ 0 := by simpa using hb
   refine .inl ⟨_, w, .inl ?_, Post.here h ⟨rfl, rfl⟩⟩
   unfold execOp
   rw [ho]
   simp [h1, h2, eqGuard, binOp, Op.intDiv, hb]
  ·rename_i k a k' b hxa hyb
   have h1 := (hac x hmx _ hxa).1
   have h2 := (hac y hmy _ hyb).1
   generalize hb : decide (0 ≤ b) = nb2 at hx
   cases hx with
   | chk hx =>
   cases hx
   have hb : ¬ b < 0 := by have := of_decide_eq_true hb; omega
   refine .inl ⟨_, w, .inl ?_, Post.here h ⟨rfl, rfl⟩⟩
   unfold execOp
   rw [ho]
   simp [h1, h2, eqGuard, binOp, Op.shift, hb]
  ·rename_i k a k' b hxa hyb
   have h1 := (hac x hmx _ hxa).1
   have h2 := (hac y hmy _ hyb).1
   generalize hb : decide (0 ≤ b) = nb2 at hx
   cases hx with
   | chk hx =>
   cases hx
   have hb : ¬ b < 0 := by have := of_decide_eq_true hb; omega
   refine .inl ⟨_, w, .inl ?_, Post.here h ⟨rfl, rfl⟩⟩
   unfold execOp
   rw [ho]
   simp [h1, h2, eqGuard, binOp, Op.shift, hb]
  ·exact scal hx
 ·-- convert
  rename_i src dst x ho
  exact convA_ok h ho (hsl x (by rw [ho]; simp [Op.operands])) scal hx
 ·-- call
  rename_i c ho
  unfold callA at hx
  have hmem : ∀ x ∈ c.args.toList, x ∈ o.op.operands := fun x hx => by
   rw [ho]
   simp only [Op.operands, Call.operands, Array.mem_append]
   exact .inr (by simpa using hx)
  split at hx
  ·rename_i x t hcal hargs htys
   split at hx
   ·rename_i a ha
    obtain ⟨rfl, y, h1, h2⟩ := lenA_ok (ty := o.type) h (hac x (hmem x (by rw [hargs]; simp)) _ ha) hx
    refine .inl ⟨y, w, .inl ?_, Post.here h h2⟩
    have e1 : c.args = #[x] := by rw [← Array.toList_inj, hargs]
    have e2 : c.argTypes = #[t] := by rw [← Array.toList_inj, htys]
    unfold execOp
    rw [ho]
    simp [resolve, hcal, e1, e2, invoke, builtin, h1]
   ·cases hx
  ·rename_i d s t t' hcal hargs htys
   split at hx
   ·rename_i a b ha hb
    cases hq : Nat.beq t t' with
    | false => rw [hq] at hx; cases hx
    | true =>
    rw [hq] at hx
    have hq := Nat.eq_of_beq_eq_true hq
    subst hq
    simp only [cond_true] at hx
    obtain ⟨y, w', h1, h2⟩ := appA_ok (ty := o.type) h (hac d (hmem d (by rw [hargs]; simp)) _ ha) (hac s (hmem s (by rw [hargs]; simp)) _ hb) hx
    refine .inl ⟨y, w', .inl ?_, h2⟩
    have e1 : c.args = #[d, s] := by rw [← Array.toList_inj, hargs]
    have e2 : c.argTypes = #[t, t] := by rw [← Array.toList_inj, htys]
    unfold execOp
    rw [ho]
    simp [resolve, hcal, e1, e2, invoke, builtin, h1]
   ·cases hx
  ·rename_i f hcal
   split at hx
   ·rename_i g a b hf
    split at hx
    ·rename_i l hl
     cases he : enterOk P g (a.length + c.args.toList.length + b.length) with
     | false => rw [he] at hx; cases hx
     | true =>
     rw [he] at hx
     simp only [cond_true] at hx
     have hfm : f ∈ o.op.operands := by rw [ho]; simp [Op.operands, Call.operands, hcal]
     obtain ⟨xs, ys, h1, h2, h3⟩ := hac f hfm _ hf
     have hns := argSl_ok' hl
     have hrel : rl (fun a v => ∃ av, a = some av ∧ relV π I av v) (capA a ++ c.args.toList.map sl ++ capA b) (xs ++ c.args.toList.map σ ++ ys) := by
      refine ((capA_ok h2).app (sl_rel (fun x hx => hsl x (hmem x hx)) (fun x hx => hns _ ?_))).app (capA_ok h3)
      exact List.mem_append_left _ (List.mem_append_right _ (List.mem_map.2 ⟨x, hx, rfl⟩))
     refine .inr ⟨g, (xs ++ c.args.toList.map σ ++ ys).toArray, ?_, callTr_ok (fnsOf_ok hfns) h (fun fn hfn => ?_) ((argSl_len hl).trans (rl_len hrel)) (fun t av ht => ?_) hx⟩
     ·unfold execOp
      rw [ho]
      simp only [resolve, hcal, h1, Deferred.ofValue]
      show ((Pure.pure _ : Sem Deferred) >>= fun d => invoke d.target d.args).run P w = _
      simp only [Sem.run_bind, Sem.run_pure, Result.andThen_ok, invoke]
      rw [enter_ok he]
      congr 2
      apply Array.ext'
      simp
     ·have := enter_len he fn hfn
      rw [List.length_append, List.length_append, List.length_map, ← h2.len, ← h3.len]
      exact this
     ·obtain ⟨_, v', k1, k2⟩ := argSl_ok hl hrel t av ht
      exact ⟨v', k1, k2⟩
    ·cases hx
   ·cases hx
  ·exact scal hx
 ·exact scal hx
end
end Go.Proofs.YtijhdekfbjafgaaGreat.AM
