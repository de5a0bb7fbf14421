/- A walk's own words, third part: how values read (Ty), rows that are read (Rd), rows of the call's own (row); the operations on them. -/
import Derived.Test.YtieakigoinebdaaRWC
import Derived.Laws.OwnMore
import Derived.Laws.MakeOwn
import Derived.Maps.AppendAt
namespace Go.Proofs.Ytieakigoinebdaa.RW
open Go Go.RowKit

structure Ty (α : Type) where
  sz : Nat
  K : Imm → α → List Value → Prop
  len : ∀ {I x cs}, K I x cs → cs.length = sz
  one : ∀ {I x cs}, K I x cs → ∀ u ∈ cs, u.oneCell' = true
  ext : ∀ {I J : Imm} {x cs}, I.le J → K I x cs → K J x cs

/-- A row that is read: its cells never turn. -/
def Rd {α : Type} (d : Ty α) (I : Imm) (A : Option Addr) (xs : List α) : Prop :=
  xs.length ≤ 9223372036854775807 ∧ (xs ≠ [] → ∃ g o, A = some ⟨g, o, none⟩ ∧ ∀ j x, xs[j]? = some x → ∃ c, d.K I x c ∧ ∀ i u, c[i]? = some u → I ⟨g, o + j * d.sz + i, none⟩ = some u)

theorem Rd.ext {α : Type} {d : Ty α} {I J : Imm} {A : Option Addr} {xs : List α} (hIJ : I.le J) (h : Rd d I A xs) : Rd d J A xs :=
  ⟨h.1, fun hn => by
    obtain ⟨g, o, e, hc⟩ := h.2 hn
    refine ⟨g, o, e, fun j x hj => ?_⟩
    obtain ⟨c, hk, hcell⟩ := hc j x hj
    exact ⟨c, d.ext hIJ hk, fun i u hu => hIJ _ _ (hcell i u hu)⟩⟩
theorem Rd.nil {α : Type} (d : Ty α) (I : Imm) (A : Option Addr) : Rd d I A [] := ⟨Nat.zero_le _, fun h => absurd rfl h⟩
theorem Rd.get {α : Type} {d : Ty α} {I : Imm} {A : Option Addr} {xs : List α} (h : Rd d I A xs) (z : α) (i : Int) (h0 : 0 ≤ i) (h1 : i < (xs.length : Int)) :
    ∃ g o c, A = some ⟨g, o, none⟩ ∧ d.K I (xs.getD i.toNat z) c ∧ ∀ j u, c[j]? = some u → I ⟨g, o + i.toNat * d.sz + j, none⟩ = some u := by
  have hl : i.toNat < xs.length := by omega
  obtain ⟨g, o, e, hc⟩ := h.2 (by rintro rfl; simp at hl)
  obtain ⟨c, hk, hcell⟩ := hc i.toNat _ (List.getElem?_eq_getElem hl)
  refine ⟨g, o, c, e, ?_, hcell⟩
  rw [List.getD_eq_getElem?_getD, List.getElem?_eq_getElem hl]
  exact hk
theorem Rd.drop {α : Type} {d : Ty α} {I : Imm} {g o : Nat} {xs : List α} (h : Rd d I (some ⟨g, o, none⟩) xs) (n : Nat) : Rd d I (some ⟨g, o + n * d.sz, none⟩) (xs.drop n) := by
  refine ⟨Nat.le_trans (by simp) h.1, fun hn => ⟨g, o + n * d.sz, rfl, fun j x hj => ?_⟩⟩
  obtain ⟨g', o', e, hc⟩ := h.2 (by rintro rfl; simp at hn)
  injection e with e
  injection e with e1 e2
  subst e1; subst e2
  rw [List.getElem?_drop] at hj
  obtain ⟨c, hk, hcell⟩ := hc _ x hj
  refine ⟨c, hk, fun i u hu => ?_⟩
  have := hcell i u hu
  rw [Nat.add_mul, ← Nat.add_assoc] at this
  exact this
theorem Rd.take {α : Type} {d : Ty α} {I : Imm} {A : Option Addr} {xs : List α} (h : Rd d I A xs) (n : Nat) : Rd d I A (xs.take n) := by
  refine ⟨Nat.le_trans (by simp; omega) h.1, fun hn => ?_⟩
  obtain ⟨g, o, e, hc⟩ := h.2 (by rintro rfl; simp at hn)
  refine ⟨g, o, e, fun j x hj => hc j x ?_⟩
  rw [List.getElem?_take] at hj
  split at hj
  · exact hj
  · cases hj

namespace Ty
def scalar {α : Type} (enc : α → Value) (h1 : ∀ x, (enc x).oneCell' = true) : Ty α where
  sz := 1
  K := fun _ x cs => cs = [enc x]
  len := fun h => by rw [h]; rfl
  one := fun h u hu => by
    rw [h] at hu
    rw [List.mem_singleton.1 hu]
    exact h1 _
  ext := fun _ h => h
def int (k : IntKind) : Ty Int := scalar (Value.int k) (fun _ => rfl)
def bool : Ty Bool := scalar Value.bool (fun _ => rfl)
def string : Ty ByteArray := scalar Value.string (fun _ => rfl)
def slice {α : Type} (d : Ty α) : Ty (List α) where
  sz := 1
  K := fun I xs cs => ∃ A c, cs = [.slice A xs.length c] ∧ xs.length ≤ c ∧ Rd d I A xs
  len := by
    rintro I x cs ⟨A, c, rfl, _⟩
    rfl
  one := by
    rintro I x cs ⟨A, c, rfl, _⟩ u hu
    rw [List.mem_singleton.1 hu]
    rfl
  ext := by
    rintro I J x cs hIJ ⟨A, c, rfl, hl, hr⟩
    exact ⟨A, c, rfl, hl, hr.ext hIJ⟩
def pair {α β : Type} (a : Ty α) (b : Ty β) : Ty (α × β) where
  sz := a.sz + b.sz
  K := fun I x cs => ∃ c0 c1, cs = c0 ++ c1 ∧ a.K I x.1 c0 ∧ b.K I x.2 c1
  len := by
    rintro I x cs ⟨c0, c1, rfl, h0, h1⟩
    rw [List.length_append, a.len h0, b.len h1]
  one := by
    rintro I x cs ⟨c0, c1, rfl, h0, h1⟩ u hu
    rcases List.mem_append.1 hu with hu | hu
    · exact a.one h0 u hu
    · exact b.one h1 u hu
  ext := by
    rintro I J x cs hIJ ⟨c0, c1, rfl, h0, h1⟩
    exact ⟨c0, c1, rfl, a.ext hIJ h0, b.ext hIJ h1⟩
def iso {α β : Type} (d : Ty α) (f : β → α) : Ty β where
  sz := d.sz
  K := fun I x cs => d.K I (f x) cs
  len := d.len
  one := d.one
  ext := d.ext
/-- An array of n elements in line. -/
def arr {α : Type} (d : Ty α) : Nat → Ty (List α)
  | 0 =>
    { sz := 0
      K := fun _ xs cs => xs = [] ∧ cs = []
      len := by
        rintro I x cs ⟨_, rfl⟩
        rfl
      one := by
        rintro I x cs ⟨_, rfl⟩ u hu
        cases hu
      ext := fun _ h => h }
  | n + 1 =>
    { sz := d.sz + (arr d n).sz
      K := fun I xs cs => ∃ x r c0 c1, xs = x :: r ∧ cs = c0 ++ c1 ∧ d.K I x c0 ∧ (arr d n).K I r c1
      len := by
        rintro I x cs ⟨y, r, c0, c1, rfl, rfl, h0, h1⟩
        rw [List.length_append, d.len h0, (arr d n).len h1]
      one := by
        rintro I x cs ⟨y, r, c0, c1, rfl, rfl, h0, h1⟩ u hu
        rcases List.mem_append.1 hu with hu | hu
        · exact d.one h0 u hu
        · exact (arr d n).one h1 u hu
      ext := by
        rintro I J x cs hIJ ⟨y, r, c0, c1, rfl, rfl, h0, h1⟩
        exact ⟨y, r, c0, c1, rfl, rfl, d.ext hIJ h0, (arr d n).ext hIJ h1⟩ }
end Ty

/-! ### rows of the call's own -/
def Reps {α : Type} (d : Ty α) (I : Imm) : List α → List Value → Prop
  | [], cs => cs = []
  | x :: xs, cs => ∃ c0 c1, cs = c0 ++ c1 ∧ d.K I x c0 ∧ Reps d I xs c1
theorem Reps.len {α : Type} {d : Ty α} {I : Imm} : ∀ {xs : List α} {cs : List Value}, Reps d I xs cs → cs.length = xs.length * d.sz
  | [], cs, h => by rw [h]; simp
  | x :: xs, cs, h => by
    obtain ⟨c0, c1, rfl, h0, h1⟩ := h
    rw [List.length_append, d.len h0, Reps.len h1, List.length_cons, Nat.succ_mul, Nat.add_comm]
theorem Reps.one {α : Type} {d : Ty α} {I : Imm} : ∀ {xs : List α} {cs : List Value}, Reps d I xs cs → ∀ u ∈ cs, u.oneCell' = true
  | [], cs, h => by rw [h]; intro u hu; cases hu
  | x :: xs, cs, h => by
    obtain ⟨c0, c1, rfl, h0, h1⟩ := h
    intro u hu
    rcases List.mem_append.1 hu with hu | hu
    · exact d.one h0 u hu
    · exact Reps.one h1 u hu
theorem Reps.ext {α : Type} {d : Ty α} {I J : Imm} (hIJ : I.le J) : ∀ {xs : List α} {cs : List Value}, Reps d I xs cs → Reps d J xs cs
  | [], cs, h => h
  | x :: xs, cs, h => by
    obtain ⟨c0, c1, rfl, h0, h1⟩ := h
    exact ⟨c0, c1, rfl, d.ext hIJ h0, Reps.ext hIJ h1⟩
theorem Reps.append {α : Type} {d : Ty α} {I : Imm} : ∀ {xs ys : List α} {cs ds : List Value}, Reps d I xs cs → Reps d I ys ds → Reps d I (xs ++ ys) (cs ++ ds)
  | [], ys, cs, ds, h, k => by rw [h]; exact k
  | x :: xs, ys, cs, ds, h, k => by
    obtain ⟨c0, c1, rfl, h0, h1⟩ := h
    exact ⟨c0, c1 ++ ds, by rw [List.append_assoc], h0, Reps.append h1 k⟩
theorem Reps.single {α : Type} {d : Ty α} {I : Imm} {x : α} {cs : List Value} (h : d.K I x cs) : Reps d I [x] cs := ⟨cs, [], by simp, h, rfl⟩
theorem Reps.get {α : Type} {d : Ty α} {I : Imm} : ∀ {xs : List α} {cs : List Value}, Reps d I xs cs → ∀ j x, xs[j]? = some x → ∃ c, d.K I x c ∧ ∀ i u, c[i]? = some u → cs[j * d.sz + i]? = some u
  | [], cs, h => by intro j x hj; cases hj
  | y :: xs, cs, h => by
    obtain ⟨c0, c1, rfl, h0, h1⟩ := h
    intro j x hj
    cases j with
    | zero =>
      injection hj with hj
      subst hj
      refine ⟨c0, h0, fun i u hu => ?_⟩
      have hi := (List.getElem?_eq_some_iff.1 hu).1
      rw [Nat.zero_mul, Nat.zero_add, List.getElem?_append_left hi]
      exact hu
    | succ j =>
      obtain ⟨c, hk, hc⟩ := Reps.get h1 j x hj
      refine ⟨c, hk, fun i u hu => ?_⟩
      rw [List.getElem?_append_right (by rw [d.len h0, Nat.succ_mul]; omega), d.len h0]
      have := hc i u hu
      rwa [show (j + 1) * d.sz + i - d.sz = j * d.sz + i from by rw [Nat.succ_mul]; omega]
theorem Reps.set {α : Type} {d : Ty α} {I : Imm} : ∀ {xs : List α} {cs : List Value}, Reps d I xs cs → ∀ (j : Nat) (x : α) (c : List Value), j < xs.length → d.K I x c → Reps d I (xs.set j x) (cs.take (j * d.sz) ++ c ++ cs.drop (j * d.sz + d.sz))
  | [], cs, h => by intro j x c hj; simp at hj
  | y :: xs, cs, h => by
    obtain ⟨c0, c1, rfl, h0, h1⟩ := h
    intro j x c hj hk
    cases j with
    | zero =>
      refine ⟨c, c1, ?_, hk, h1⟩
      rw [Nat.zero_mul, Nat.zero_add, List.take_zero, List.nil_append, List.drop_append_of_le_length (by rw [d.len h0]; exact Nat.le_refl _), List.drop_of_length_le (by rw [d.len h0]; exact Nat.le_refl _), List.nil_append]
    | succ j =>
      refine ⟨c0, c1.take (j * d.sz) ++ c ++ c1.drop (j * d.sz + d.sz), ?_, h0, Reps.set h1 j x c (by simpa using hj) hk⟩
      have e1 : (j + 1) * d.sz = c0.length + j * d.sz := by rw [d.len h0, Nat.succ_mul, Nat.add_comm]
      rw [e1, List.take_append, List.take_of_length_le (l := c0) (by omega), show c0.length + j * d.sz - c0.length = j * d.sz from by omega, List.drop_append, List.drop_of_length_le (l := c0) (by omega), show c0.length + j * d.sz + d.sz - c0.length = j * d.sz + d.sz from by omega, List.nil_append]
      simp only [List.append_assoc]

/-- A row of elements of type e that the call owns: its value is '.slice A xs.length c'. -/
def row {α : Type} (d : Ty α) (e : TypeId) (A : Option Addr) (c : Nat) (xs : List α) : Res where
  fp := fun k => ∃ a : Addr, A = some a ∧ a.block = k
  P := fun I w => ∃ cs, w.ownsRow 0 e d.sz (.slice A xs.length c) xs.length cs ∧ Reps d I xs cs
  stable := by
    rintro I w w' hk ⟨cs, ho, hr⟩
    refine ⟨cs, ⟨ho.1, ?_⟩, hr⟩
    rcases ho.2 with h | ⟨g, cap, cur, e1, hb, hg, r⟩
    · exact .inl h
    · refine .inr ⟨g, cap, cur, e1, hb, ?_, r⟩
      injection e1 with e1
      rw [hk g ⟨_, e1, rfl⟩]
      exact hg
  ext := by
    rintro I J w hIJ ⟨cs, ho, hr⟩
    exact ⟨cs, ho, hr.ext hIJ⟩

theorem row_nil {α : Type} (d : Ty α) (e : TypeId) (I : Imm) (w : World) : (row d e none 0 ([] : List α)).P I w := ⟨[], World.ownsRow_nil w 0 e d.sz, rfl⟩
theorem row_le {α : Type} {d : Ty α} {e : TypeId} {A : Option Addr} {c : Nat} {xs : List α} {I : Imm} {w : World} (h : (row d e A c xs).P I w) : xs.length ≤ c := by
  obtain ⟨cs, ho, _⟩ := h
  rcases ho.2 with ⟨e1, hn⟩ | ⟨g, cap, cur, e1, _, _, hc, _⟩
  · rw [hn]; exact Nat.zero_le _
  · injection e1 with _ _ e3
    rw [e3]; exact hc

end Go.Proofs.Ytieakigoinebdaa.RW
