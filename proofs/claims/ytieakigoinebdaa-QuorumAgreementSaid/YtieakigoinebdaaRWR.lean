/- A walk's own words, thirteenth part: what the arguments of a law read as. -/
import Derived.Test.YtieakigoinebdaaRWP
import Derived.ChangeArms
import Derived.DataReads
import Derived.OpenShut
namespace Go.Proofs.Ytieakigoinebdaa.RW
open Go Go.RowKit

/-- The whole memory, as cells that never turn. -/
def wImm (W : World) : Imm := look W
theorem wImm_at (W : World) : (wImm W).at_ W := fun _ _ h => h
/-- What reads as a datum of type t is told by d, with p. -/
def Opens (P : Program) {α : Type} (d : Ty α) (t : TypeId) (p : α → Prop) : Prop :=
  ∀ {H : Type} {enc : TypeId × Value → H} (W : World) (base : Nat) (sp : Nat → Bool) (held : Bool) (fuel : Nat) (cs : List Value) (x : DataW H × List MemPlace), DataW.trod enc P W base sp held fuel t cs = some x → ∃ a, d.K (wImm W) a cs ∧ p a

section
variable {P : Program} {α β : Type} {d : Ty α} {t e : TypeId} {p : α → Prop}
theorem opens_int {k : IntKind} (ht : P.underlying t = some (.int k)) : Opens P (Ty.int k) t (fun n => (Lit.int k n).wf = true) := by
  intro H enc W base sp held fuel cs x h
  obtain ⟨n, rfl, _, hw⟩ := DataW.trod_int ht h
  exact ⟨n, rfl, hw⟩
theorem opens_bool (ht : P.underlying t = some .bool) : Opens P Ty.bool t (fun _ => True) := by
  intro H enc W base sp held fuel cs x h
  obtain ⟨b, rfl, _⟩ := DataW.trod_bool ht h
  exact ⟨b, rfl, trivial⟩
theorem opens_string (ht : P.underlying t = some .string) : Opens P Ty.string t (fun s => s.size ≤ maxLen) := by
  intro H enc W base sp held fuel cs x h
  obtain ⟨s, rfl, _, hs⟩ := DataW.trod_string ht h
  exact ⟨s, rfl, hs⟩
theorem add_add {a : Addr} (h : a.spot = none) (n m : Nat) : (a.add n).add m = ⟨a.block, a.off + n + m, none⟩ := by
  obtain ⟨b, o, s⟩ := a
  obtain rfl : s = none := h
  unfold Addr.add
  split <;> split <;> simp_all
theorem opens_slice (ho : Opens P d e p) (ht : P.underlying t = some (.slice e)) (hsz : P.cellsOf e = d.sz) (hpos : 0 < d.sz) : Opens P (Ty.slice d) t (fun l => ∀ x ∈ l, p x) := by
  intro H enc W base sp held fuel cs x h
  rcases DataW.trod_slice ht h with ⟨rfl, _⟩ | ⟨a, len, cap, elems, rest, n, _, rfl, _, hb, hl, hm, hlen, hel, _, _⟩
  · exact ⟨[], ⟨none, 0, rfl, Nat.le_refl _, Rd.nil _ _ _⟩, fun x hx => by cases hx⟩
  · have hsp0 : 0 < len → a.spot = none := by
      intro hi
      have h1 := hel 0 hi
      rw [List.getElem?_eq_getElem (by rw [hlen]; exact hi), Option.bind_eq_some_iff] at h1
      obtain ⟨c, hc, hy⟩ := h1
      obtain ⟨_, hcl, hcell⟩ := World.cells?_some hc
      have h2 := hcell 0 (by rw [hsz]; exact hpos)
      have hlt : 0 < c.length := by rw [hcl, hsz]; exact hpos
      rw [List.getElem?_eq_getElem hlt, show (a.add (0 * P.cellsOf e)).add 0 = a from by simp [Addr.add]] at h2
      cases hsp : a.spot with
      | none => rfl
      | some s =>
        exfalso
        unfold World.cell? at h2
        split at h2
        · rw [hsp] at h2; simp at h2
        · cases h2
    have each : ∀ i, i < len → ∃ v c, d.K (wImm W) v c ∧ p v ∧ a.spot = none ∧ ∀ q u, c[q]? = some u → wImm W ⟨a.block, a.off + i * d.sz + q, none⟩ = some u := by
      intro i hi
      have h1 := hel i hi
      rw [List.getElem?_eq_getElem (by rw [hlen]; exact hi), Option.bind_eq_some_iff] at h1
      obtain ⟨c, hc, hy⟩ := h1
      obtain ⟨v, hk, hp⟩ := ho W base sp held n c _ hy
      obtain ⟨_, hcl, hcell⟩ := World.cells?_some hc
      have hspot := hsp0 (by omega)
      refine ⟨v, c, hk, hp, hspot, fun q u hu => ?_⟩
      have hql : q < c.length := (List.getElem?_eq_some_iff.1 hu).1
      have h2 := hcell q (by rw [← hcl]; exact hql)
      rw [add_add hspot, hsz, hu] at h2
      exact h2
    have build : ∀ n, n ≤ len → ∃ l : List α, l.length = n ∧ (∀ x ∈ l, p x) ∧ ∀ (j : Nat) (v : α), l[j]? = some v → ∃ c, d.K (wImm W) v c ∧ a.spot = none ∧ ∀ q u, c[q]? = some u → wImm W ⟨a.block, a.off + j * d.sz + q, none⟩ = some u := by
      intro n
      induction n with
      | zero => intro _; exact ⟨[], rfl, (fun x hx => by cases hx), fun j v hj => by cases hj⟩
      | succ n ih =>
        intro hn
        obtain ⟨l, hl1, hl2, hl3⟩ := ih (by omega)
        obtain ⟨v, c, hk, hp, hs, hc⟩ := each n (by omega)
        refine ⟨l ++ [v], by simp [hl1], fun x hx => ?_, fun j w hj => ?_⟩
        · rcases List.mem_append.1 hx with hx | hx
          · exact hl2 x hx
          · rw [List.mem_singleton.1 hx]; exact hp
        · rcases Nat.lt_or_ge j l.length with hlt | hge
          · rw [List.getElem?_append_left hlt] at hj
            exact hl3 j w hj
          · rw [List.getElem?_append_right hge] at hj
            have hj0 : j - l.length = 0 := by
              rcases Nat.eq_zero_or_pos (j - l.length) with h0 | h0
              · exact h0
              · rw [List.getElem?_eq_none (by simp; omega)] at hj; cases hj
            rw [hj0] at hj
            simp only [List.getElem?_cons_zero, Option.some.injEq] at hj
            subst hj
            obtain rfl : j = n := by omega
            exact ⟨c, hk, hs, hc⟩
    obtain ⟨l, hl1, hl2, hl3⟩ := build len (Nat.le_refl _)
    refine ⟨l, ⟨some a, cap, by rw [hl1], by omega, ⟨by unfold maxLen at hm; omega, fun hne => ?_⟩⟩, hl2⟩
    have h0 : 0 < l.length := List.length_pos_iff.2 hne
    obtain ⟨_, _, hs, _⟩ := hl3 0 _ (List.getElem?_eq_getElem h0)
    refine ⟨a.block, a.off, by obtain ⟨b, o, s⟩ := a; simp_all, fun j v hj => ?_⟩
    obtain ⟨c, hk, _, hc⟩ := hl3 j v hj
    exact ⟨c, hk, hc⟩

/-- The fields of a struct, from cell 'off' on. -/
def offs : Nat → List (TypeId × Nat) → List (TypeId × Nat × Nat)
  | _, [] => []
  | o, (t, n) :: r => (t, o, n) :: offs (o + n) r
def total : List (TypeId × Nat) → Nat
  | [] => 0
  | (_, n) :: r => n + total r
def OpensF (P : Program) {α : Type} (d : Ty α) (fl : List (TypeId × Nat)) (p : α → Prop) : Prop :=
  ∀ {H : Type} {enc : TypeId × Value → H} (W : World) (base : Nat) (sp : Nat → Bool) (held : Bool) (fuel off : Nat) (cs : List Value),
    (∀ q ∈ offs off fl, ∃ x, DataW.trod enc P W base sp held fuel q.1 ((cs.drop q.2.1).take q.2.2) = some x) → cs.length = off + total fl → ∃ a, d.K (wImm W) a (cs.drop off) ∧ p a
theorem opensF_one (ho : Opens P d t p) (n : Nat) : OpensF P d [(t, n)] p := by
  intro H enc W base sp held fuel off cs h hl
  obtain ⟨x, hx⟩ := h _ List.mem_cons_self
  simp only [total, Nat.add_zero] at hl
  have e : (cs.drop off).take n = cs.drop off := List.take_of_length_le (by rw [List.length_drop]; omega)
  simp only at hx
  rw [e] at hx
  exact ho W base sp held fuel _ x hx
theorem opensF_cons {d2 : Ty β} {fl : List (TypeId × Nat)} {q : β → Prop} (n : Nat) (ho : Opens P d t p) (hr : OpensF P d2 fl q) : OpensF P (Ty.pair d d2) ((t, n) :: fl) (fun x => p x.1 ∧ q x.2) := by
  intro H enc W base sp held fuel off cs h hl
  simp only [total] at hl
  obtain ⟨x, hx⟩ := h _ List.mem_cons_self
  obtain ⟨a, hk, hp⟩ := ho W base sp held fuel _ x hx
  obtain ⟨b, hk2, hp2⟩ := hr (enc := enc) W base sp held fuel (off + n) cs (fun q hq => h q (List.mem_cons_of_mem _ hq)) (by omega)
  refine ⟨(a, b), ⟨_, _, ?_, hk, hk2⟩, hp, hp2⟩
  simp only
  rw [← List.drop_drop, List.take_append_drop]
theorem opens_struct {fl : List (TypeId × Nat)} (ho : OpensF P d fl p) (ht : P.underlying t = some (.struct (P.fieldsOf t))) (hf : (P.fieldsOf t).toList.map (fun f => (f.type, f.offset, P.cellsOf f.type)) = offs 0 fl) (hc : P.cellsOf t = total fl)
    (f : β → α) (g : α → β) (hg : ∀ y, f (g y) = y) : Opens P (Ty.iso d f) t (fun x => p (f x)) := by
  intro H enc W base sp held fuel cs x h
  obtain ⟨xs, n, _, _, hcl, hxl, hx⟩ := DataW.trod_struct ht h
  have hseg : ∀ q ∈ offs 0 fl, ∃ x, DataW.trod enc P W base sp held n q.1 ((cs.drop q.2.1).take q.2.2) = some x := by
    intro q hq
    rw [← hf] at hq
    obtain ⟨f, hfm, rfl⟩ := List.mem_map.1 hq
    obtain ⟨i, hi, hif⟩ := List.getElem_of_mem hfm
    have h1 := hx i f (by rw [← Array.getElem?_toList, List.getElem?_eq_getElem hi, hif])
    have h2 : i < xs.length := by rw [hxl]; simpa using hi
    rw [List.getElem?_eq_getElem h2] at h1
    exact ⟨_, h1⟩
  obtain ⟨a, hk, hp⟩ := ho W base sp held n 0 cs hseg (by rw [hcl, hc, Nat.zero_add])
  refine ⟨g a, ?_, by show p (f (g a)); rw [hg]; exact hp⟩
  show d.K (wImm W) (f (g a)) cs
  rw [hg]
  exact hk
theorem opens_array {n : Nat} {fl : List (TypeId × Nat)} (ho : OpensF P d fl p) (ht : P.underlying t = some (.array n e)) (hf : (List.range n).map (fun i => (e, i * P.cellsOf e, P.cellsOf e)) = offs 0 fl) (hc : P.cellsOf t = total fl)
    (f : β → α) (g : α → β) (hg : ∀ y, f (g y) = y) : Opens P (Ty.iso d f) t (fun x => p (f x)) := by
  intro H enc W base sp held fuel cs x h
  obtain ⟨xs, m, _, _, hcl, hxl, hx⟩ := DataW.trod_array ht h
  have hseg : ∀ q ∈ offs 0 fl, ∃ x, DataW.trod enc P W base sp held m q.1 ((cs.drop q.2.1).take q.2.2) = some x := by
    intro q hq
    rw [← hf] at hq
    obtain ⟨i, hi, rfl⟩ := List.mem_map.1 hq
    have hi' := List.mem_range.1 hi
    have h1 := hx i hi'
    rw [List.getElem?_eq_getElem (show i < xs.length by omega)] at h1
    exact ⟨_, h1⟩
  obtain ⟨a, hk, hp⟩ := ho W base sp held m 0 cs hseg (by rw [hcl, hc, Nat.zero_add])
  refine ⟨g a, ?_, by show p (f (g a)); rw [hg]; exact hp⟩
  show d.K (wImm W) (f (g a)) cs
  rw [hg]
  exact hk
end
end Go.Proofs.Ytieakigoinebdaa.RW
