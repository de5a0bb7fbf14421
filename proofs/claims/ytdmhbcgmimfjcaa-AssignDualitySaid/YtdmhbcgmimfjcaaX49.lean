/- Words of the walk, the functions' walks and plain laws, joined; no conditions beyond those that the theorems name. -/
import Derived.Test.YtdmhbcgmimfjcaaX42
import Derived.ChangeArms
import Derived.DataReads
import Derived.OpenShut
import Derived.Test.YtdmhbcgmimfjcaaX47
import Derived.Test.YtdmhbcgmimfjcaaX48
namespace Go.Proofs.Ytdmhbcgmimfjcaa.RW
open Go Go.RowKit

/-- The whole memory, as cells that never turn. -/
def wImm (W : World) : Imm := look W
theorem wImm_at (W : World) : (wImm W).at_ W := fun _ _ h => h
/-- What reads as a datum of type t is told by d, with p. -/
def Opens (P : Program) {α : Type} (d : Ty α) (t : TypeId) (p : α → Prop) : Prop :=
 ∀ {H : Type} {enc : TypeId × Value → H} (W : World) (base : Nat) (sp : Nat → Bool) (held : Bool) (fuel : Nat) (cs : List Value) (x : DataW H × List MemPlace), DataW.trod enc P W base sp held fuel t cs = some x → ∃ a, d.K (wImm W) a cs ∧ p a

section
variable {P : Program} {α β : Type} {d : Ty α} {t e : TypeId} {p : α → Prop}
theorem opens_int {k : IntKind} (ht : P.underlying t = some (.int k)) : Opens P (Ty.int k) t (fun n => (Lit.int k n).wf = true) := by
 intro H enc W base sp held fuel cs x h
 obtain ⟨n, rfl, _, hw⟩ := DataW.trod_int ht h
 exact ⟨n, rfl, hw⟩
theorem opens_bool (ht : P.underlying t = some .bool) : Opens P Ty.bool t (fun _ => True) := by
 intro H enc W base sp held fuel cs x h
 obtain ⟨b, rfl, _⟩ := DataW.trod_bool ht h
 exact ⟨b, rfl, trivial⟩
theorem opens_string (ht : P.underlying t = some .string) : Opens P Ty.string t (fun s => s.size ≤ maxLen) := by
 intro H enc W base sp held fuel cs x h
 obtain ⟨s, rfl, _, hs⟩ := DataW.trod_string ht h
 exact ⟨s, rfl, hs⟩
theorem add_add {a : Addr} (h : a.spot = none) (n m : Nat) : (a.add n).add m = ⟨a.block, a.off + n + m, none⟩ := by
 obtain ⟨b, o, s⟩ := a
 obtain rfl : s = none := h
 unfold Addr.add
 split <;> split <;> simp_all
theorem opens_slice (ho : Opens P d e p) (ht : P.underlying t = some (.slice e)) (hsz : P.cellsOf e = d.sz) (hpos : 0 < d.sz) : Opens P (Ty.slice d) t (fun l => ∀ x ∈ l, p x) := by
 intro H enc W base sp held fuel cs x h
 rcases DataW.trod_slice ht h with ⟨rfl, _⟩ | ⟨a, len, cap, elems, rest, n, _, rfl, _, hb, hl, hm, hlen, hel, _, _⟩
 ·exact ⟨[], ⟨none, 0, rfl, Nat.le_refl _, Rd.nil _ _ _⟩, fun x hx => by cases hx⟩
 ·have hsp0 : 0 < len → a.spot = none := by
   intro hi
   have h1 := hel 0 hi
   rw [List.getElem?_eq_getElem (by rw [hlen]; exact hi), Option.bind_eq_some_iff] at h1
   obtain ⟨c, hc, hy⟩ := h1
   obtain ⟨_, hcl, hcell⟩ := World.cells?_some hc
   have h2 := hcell 0 (by rw [hsz]; exact hpos)
   have hlt : 0 < c.length := by rw [hcl, hsz]; exact hpos
   rw [List.getElem?_eq_getElem hlt, show (a.add (0 * P.cellsOf e)).add 0 = a from by simp [Addr.add]] at h2
   cases hsp : a.spot with
   | none => rfl
   | some s =>
    exfalso
    unfold World.cell? at h2
    split at h2
    ·rw [hsp] at h2; simp at h2
    ·cases h2
  have each : ∀ i, i < len → ∃ v c, d.K (wImm W) v c ∧ p v ∧ a.spot = none ∧ ∀ q u, c[q]? = some u → wImm W ⟨a.block, a.off + i * d.sz + q, none⟩ = some u := by
   intro i hi
   have h1 := hel i hi
   rw [List.getElem?_eq_getElem (by rw [hlen]; exact hi), Option.bind_eq_some_iff] at h1
   obtain ⟨c, hc, hy⟩ := h1
   obtain ⟨v, hk, hp⟩ := ho W base sp held n c _ hy
   obtain ⟨_, hcl, hcell⟩ := World.cells?_some hc
   have hspot := hsp0 (by omega)
   refine ⟨v, c, hk, hp, hspot, fun q u hu => ?_⟩
   have hql : q < c.length := (List.getElem?_eq_some_iff.1 hu).1
   have h2 := hcell q (by rw [← hcl]; exact hql)
   rw [add_add hspot, hsz, hu] at h2
   exact h2
  have build : ∀ n, n ≤ len → ∃ l : List α, l.length = n ∧ (∀ x ∈ l, p x) ∧ ∀ (j : Nat) (v : α), l[j]? = some v → ∃ c, d.K (wImm W) v c ∧ a.spot = none ∧ ∀ q u, c[q]? = some u → wImm W ⟨a.block, a.off + j * d.sz + q, none⟩ = some u := by
   intro n
   induction n with
   | zero => intro _; exact ⟨[], rfl, (fun x hx => by cases hx), fun j v hj => by cases hj⟩
   | succ n ih =>
    intro hn
    obtain ⟨l, hl1, hl2, hl3⟩ := ih (by omega)
    obtain ⟨v, c, hk, hp, hs, hc⟩ := each n (by omega)
    refine ⟨l ++ [v], by simp [hl1], fun x hx => ?_, fun j w hj => ?_⟩
    ·rcases List.mem_append.1 hx with hx | hx
     ·exact hl2 x hx
     ·rw [List.mem_singleton.1 hx]; exact hp
    ·rcases Nat.lt_or_ge j l.length with hlt | hge
     ·rw [List.getElem?_append_left hlt] at hj
      exact hl3 j w hj
     ·rw [List.getElem?_append_right hge] at hj
      have hj0 : j - l.length = 0 := by
       rcases Nat.eq_zero_or_pos (j - l.length) with h0 | h0
       ·exact h0
       ·rw [List.getElem?_eq_none (by simp; omega)] at hj; cases hj
      rw [hj0] at hj
      simp only [List.getElem?_cons_zero, Option.some.injEq] at hj
      subst hj
      obtain rfl : j = n := by omega
      exact ⟨c, hk, hs, hc⟩
  obtain ⟨l, hl1, hl2, hl3⟩ := build len (Nat.le_refl _)
  refine ⟨l, ⟨some a, cap, by rw [hl1], by omega, ⟨by unfold maxLen at hm; omega, fun hne => ?_⟩⟩, hl2⟩
  have h0 : 0 < l.length := List.length_pos_iff.2 hne
  obtain ⟨_, _, hs, _⟩ := hl3 0 _ (List.getElem?_eq_getElem h0)
  refine ⟨a.block, a.off, by obtain ⟨b, o, s⟩ := a; simp_all, fun j v hj => ?_⟩
  obtain ⟨c, hk, _, hc⟩ := hl3 j v hj
  exact ⟨c, hk, hc⟩

/-- The fields of a struct, from cell 'off' on. -/
def offs : Nat → List (TypeId × Nat) → List (TypeId × Nat × Nat)
 | _, [] => []
 | o, (t, n) :: r => (t, o, n) :: offs (o + n) r
def total : List (TypeId × Nat) → Nat
 | [] => 0
 | (_, n) :: r => n + total r
def OpensF (P : Program) {α : Type} (d : Ty α) (fl : List (TypeId × Nat)) (p : α → Prop) : Prop :=
 ∀ {H : Type} {enc : TypeId × Value → H} (W : World) (base : Nat) (sp : Nat → Bool) (held : Bool) (fuel off : Nat) (cs : List Value),
  (∀ q ∈ offs off fl, ∃ x, DataW.trod enc P W base sp held fuel q.1 ((cs.drop q.2.1).take q.2.2) = some x) → cs.length = off + total fl → ∃ a, d.K (wImm W) a (cs.drop off) ∧ p a
theorem opensF_one (ho : Opens P d t p) (n : Nat) : OpensF P d [(t, n)] p := by
 intro H enc W base sp held fuel off cs h hl
 obtain ⟨x, hx⟩ := h _ List.mem_cons_self
 simp only [total, Nat.add_zero] at hl
 have e : (cs.drop off).take n = cs.drop off := List.take_of_length_le (by rw [List.length_drop]; omega)
 simp only at hx
 rw [e] at hx
 exact ho W base sp held fuel _ x hx
theorem opensF_cons {d2 : Ty β} {fl : List (TypeId × Nat)} {q : β → Prop} (n : Nat) (ho : Opens P d t p) (hr : OpensF P d2 fl q) : OpensF P (Ty.pair d d2) ((t, n) :: fl) (fun x => p x.1 ∧ q x.2) := by
 intro H enc W base sp held fuel off cs h hl
 simp only [total] at hl
 obtain ⟨x, hx⟩ := h _ List.mem_cons_self
 obtain ⟨a, hk, hp⟩ := ho W base sp held fuel _ x hx
 obtain ⟨b, hk2, hp2⟩ := hr (enc := enc) W base sp held fuel (off + n) cs (fun q hq => h q (List.mem_cons_of_mem _ hq)) (by omega)
 refine ⟨(a, b), ⟨_, _, ?_, hk, hk2⟩, hp, hp2⟩
 simp only
 rw [← List.drop_drop, List.take_append_drop]
theorem opens_struct {fl : List (TypeId × Nat)} (ho : OpensF P d fl p) (ht : P.underlying t = some (.struct (P.fieldsOf t))) (hf : (P.fieldsOf t).toList.map (fun f => (f.type, f.offset, P.cellsOf f.type)) = offs 0 fl) (hc : P.cellsOf t = total fl)
  (f : β → α) (g : α → β) (hg : ∀ y, f (g y) = y) : Opens P (Ty.iso d f) t (fun x => p (f x)) := by
 intro H enc W base sp held fuel cs x h
 obtain ⟨xs, n, _, _, hcl, hxl, hx⟩ := DataW.trod_struct ht h
 have hseg : ∀ q ∈ offs 0 fl, ∃ x, DataW.trod enc P W base sp held n q.1 ((cs.drop q.2.1).take q.2.2) = some x := by
  intro q hq
  rw [← hf] at hq
  obtain ⟨f, hfm, rfl⟩ := List.mem_map.1 hq
  obtain ⟨i, hi, hif⟩ := List.getElem_of_mem hfm
  have h1 := hx i f (by rw [← Array.getElem?_toList, List.getElem?_eq_getElem hi, hif])
  have h2 : i < xs.length := by rw [hxl]; simpa using hi
  rw [List.getElem?_eq_getElem h2] at h1
  exact ⟨_, h1⟩
 obtain ⟨a, hk, hp⟩ := ho W base sp held n 0 cs hseg (by rw [hcl, hc, Nat.zero_add])
 refine ⟨g a, ?_, by show p (f (g a)); rw [hg]; exact hp⟩
 show d.K (wImm W) (f (g a)) cs
 rw [hg]
 exact hk
theorem opens_array {n : Nat} {fl : List (TypeId × Nat)} (ho : OpensF P d fl p) (ht : P.underlying t = some (.array n e)) (hf : (List.range n).map (fun i => (e, i * P.cellsOf e, P.cellsOf e)) = offs 0 fl) (hc : P.cellsOf t = total fl)
  (f : β → α) (g : α → β) (hg : ∀ y, f (g y) = y) : Opens P (Ty.iso d f) t (fun x => p (f x)) := by
 intro H enc W base sp held fuel cs x h
 obtain ⟨xs, m, _, _, hcl, hxl, hx⟩ := DataW.trod_array ht h
 have hseg : ∀ q ∈ offs 0 fl, ∃ x, DataW.trod enc P W base sp held m q.1 ((cs.drop q.2.1).take q.2.2) = some x := by
  intro q hq
  rw [← hf] at hq
  obtain ⟨i, hi, rfl⟩ := List.mem_map.1 hq
  have hi' := List.mem_range.1 hi
  have h1 := hx i hi'
  rw [List.getElem?_eq_getElem (show i < xs.length by omega)] at h1
  exact ⟨_, h1⟩
 obtain ⟨a, hk, hp⟩ := ho W base sp held m 0 cs hseg (by rw [hcl, hc, Nat.zero_add])
 refine ⟨g a, ?_, by show p (f (g a)); rw [hg]; exact hp⟩
 show d.K (wImm W) (f (g a)) cs
 rw [hg]
 exact hk
end
end Go.Proofs.Ytdmhbcgmimfjcaa.RW
namespace Go.Proofs.Ytdmhbcgmimfjcaa
open Go Go.Proofs.Ytdmhbcgmimfjcaa.RW
set_option linter.unusedVariables false
set_option maxRecDepth 100000
set_option maxHeartbeats 8000000

-- p58: no reading of the kind array
def p26 (x : S26) : Prop := (fun l => ∀ x ∈ l, (fun n => (Lit.int .i64 n).wf = true) x) x.f0 ∧ (fun l => ∀ x ∈ l, (fun n => (Lit.int .i64 n).wf = true) x) x.f1
theorem o26 : Opens Try.prog t26 26 p26 :=
 opens_struct (fl := [(24, 1), (24, 1)]) (opensF_cons 1 (opens_slice (e := 2) (opens_int (by kernel_rfl)) (by kernel_rfl) (by kernel_rfl) (Nat.le_of_ble_eq_true (by kernel_rfl))) (opensF_one (opens_slice (e := 2) (opens_int (by kernel_rfl)) (by kernel_rfl) (by kernel_rfl) (Nat.le_of_ble_eq_true (by kernel_rfl))) 1)) (by kernel_rfl) (by kernel_rfl) (by kernel_rfl) (fun (x : S26) => (x.f0, x.f1)) (fun y => ⟨y.1, y.2⟩) (fun _ => rfl)
def p39 (x : S39) : Prop := (fun n => (Lit.int .i32 n).wf = true) x.f0 ∧ (fun n => (Lit.int .i32 n).wf = true) x.f1
theorem o39 : Opens Try.prog t39 39 p39 :=
 opens_array (n := 2) (e := 21) (fl := [(21, 1), (21, 1)]) (opensF_cons 1 (opens_int (by kernel_rfl)) (opensF_one (opens_int (by kernel_rfl)) 1)) (by kernel_rfl) (by kernel_rfl) (by kernel_rfl) (fun (x : S39) => (x.f0, x.f1)) (fun y => ⟨y.1, y.2⟩) (fun _ => rfl)

end Go.Proofs.Ytdmhbcgmimfjcaa
namespace Go.Proofs.Ytdmhbcgmimfjcaa
open Go Go.Proofs.Ytdmhbcgmimfjcaa.RW hun
set_option linter.unusedVariables false
set_option maxRecDepth 100000
set_option maxHeartbeats 4000000
namespace dual
section
variable {w : List (List Int)} {m : Nat} {l : List Int} {d : S26}
theorem loopU (V : Int) (hV : 0 ≤ V ∧ V ≤ 12884901888) (hl : d.f0.length ≤ 12) (hb : ∀ i, i < d.f0.length → 0 ≤ g d.f0 i ∧ g d.f0 i ≤ V) : ∀ (q k n : Nat) (x : Int), q + n = d.f0.length → q < k → x = sm (g d.f0) n → armillarylaw22_AssignDuality.l4 (l, d) k x (n : Int) = some (.inl (sm (g d.f0) d.f0.length)) := by
  intro q
  induction q with
  | zero =>
    intro k n x hq hk hx
    obtain ⟨k, rfl⟩ : ∃ m, k = m + 1 := ⟨k - 1, by omega⟩
    have : n = d.f0.length := by omega
    simp only [armillarylaw22_AssignDuality.l4]
    rw [if_neg (by omega), hx, this]
  | succ q ih =>
    intro k n x hq hk hx
    obtain ⟨k, rfl⟩ : ∃ m, k = m + 1 := ⟨k - 1, by omega⟩
    have hn : n < d.f0.length := by omega
    have h1 := hb n hn
    have h1' : 0 ≤ d.f0.getD n 0 ∧ d.f0.getD n 0 ≤ V := h1
    have h2 := sm_bounds (f := g d.f0) (B := V) n (fun j hj => hb j (by omega))
    have h3 : (n : Int) * V ≤ 12 * V := Int.mul_le_mul_of_nonneg_right (by omega) hV.1
    simp only [armillarylaw22_AssignDuality.l4, tn]
    rw [if_pos (by omega), if_pos (by omega), if_pos (by omega), if_neg (by omega), if_pos (by omega), if_pos (by omega), Option.bind_some, if_neg (fun h => by have := of_decide_eq_true h; omega), if_pos (by omega), if_pos (by omega), Wn (by omega)]
    rw [show W .i64 (x + d.f0.getD n 0) = x + g d.f0 n from W64 (by show _ ≤ x + g d.f0 n; omega) (by show x + g d.f0 n ≤ _; omega)]
    exact ih k (n + 1) _ (by omega) (by omega) (by rw [hx]; rfl)
theorem loopV (V S : Int) (hV : 0 ≤ V ∧ V ≤ 12884901888) (hS : 0 ≤ S ∧ S ≤ 12884901888) (hl : d.f1.length ≤ 12) (hb : ∀ i, i < d.f1.length → 0 ≤ g d.f1 i ∧ g d.f1 i ≤ V) : ∀ (q k n : Nat) (x : Int), q + n = d.f1.length → q < k → x = S + sm (g d.f1) n → armillarylaw22_AssignDuality.l3 (l, d) k x (n : Int) = some (.inl (S + sm (g d.f1) d.f1.length)) := by
  intro q
  induction q with
  | zero =>
    intro k n x hq hk hx
    obtain ⟨k, rfl⟩ : ∃ m, k = m + 1 := ⟨k - 1, by omega⟩
    have : n = d.f1.length := by omega
    simp only [armillarylaw22_AssignDuality.l3]
    rw [if_neg (by omega), hx, this]
  | succ q ih =>
    intro k n x hq hk hx
    obtain ⟨k, rfl⟩ : ∃ m, k = m + 1 := ⟨k - 1, by omega⟩
    have hn : n < d.f1.length := by omega
    have h1 := hb n hn
    have h1' : 0 ≤ d.f1.getD n 0 ∧ d.f1.getD n 0 ≤ V := h1
    have h2 := sm_bounds (f := g d.f1) (B := V) n (fun j hj => hb j (by omega))
    have h3 : (n : Int) * V ≤ 12 * V := Int.mul_le_mul_of_nonneg_right (by omega) hV.1
    simp only [armillarylaw22_AssignDuality.l3, tn]
    rw [if_pos (by omega), if_pos (by omega), if_pos (by omega), if_neg (by omega), if_pos (by omega), if_pos (by omega), Option.bind_some, if_neg (fun h => by have := of_decide_eq_true h; omega), if_pos (by omega), if_pos (by omega), Wn (by omega)]
    rw [show W .i64 (x + d.f1.getD n 0) = x + g d.f1 n from W64 (by show _ ≤ x + g d.f1 n; omega) (by show x + g d.f1 n ≤ _; omega)]
    exact ih k (n + 1) _ (by omega) (by omega) (by rw [hx]; show _ = S + (sm (g d.f1) n + g d.f1 n); omega)
theorem loopR (h : Vw w m) (vd : VD w m l d) (hub : ∀ i, i < w.length → g d.f0 i ≤ 12884901888) (hvb : ∀ j, j < m → g d.f1 j ≤ 12884901888) {i : Nat} (hi : i < w.length) : ∀ (q k n : Nat), q + n = m → q < k → armillarylaw22_AssignDuality.l2 w (l, d) (i : Int) k (n : Int) = some (.inl ()) := by
  have hrl := h.rl i hi
  have hm := h.mr
  have hul := vd.ul
  have hvl := vd.vl
  have hn12 := h.nr
  intro q
  induction q with
  | zero =>
    intro k n hq hk
    obtain ⟨k, rfl⟩ : ∃ m, k = m + 1 := ⟨k - 1, by omega⟩
    simp only [armillarylaw22_AssignDuality.l2, tn]
    rw [if_pos (by omega), if_pos (by omega), if_neg (by show ¬ (n : Int) < ((row w i).length : Int); omega)]
  | succ q ih =>
    intro k n hq hk
    obtain ⟨k, rfl⟩ : ∃ m, k = m + 1 := ⟨k - 1, by omega⟩
    have hn : n < m := by omega
    have h1 := hub i hi
    have h2 := hvb n hn
    have h3 := vd.up i hi
    have h4 := vd.vp n hn
    have h5 := vd.feas i n hi hn
    simp only [armillarylaw22_AssignDuality.l2, tn]
    rw [if_pos (by omega), if_pos (by omega), if_pos (by show (n : Int) < ((row w i).length : Int); omega), if_pos (by omega), if_pos (by omega), if_pos (by omega), if_pos (by omega), if_pos (by omega), if_pos (by omega), if_pos (by omega), if_pos (by show (n : Int) < ((row w i).length : Int); omega), Wn (by omega)]
    rw [show W .i64 (d.f0.getD i 0 + d.f1.getD n 0) = g d.f0 i + g d.f1 n from W64 (by show _ ≤ g d.f0 i + g d.f1 n; omega) (by show g d.f0 i + g d.f1 n ≤ _; omega)]
    rw [if_neg (by show ¬ g d.f0 i + g d.f1 n < we w i n; omega)]
    exact ih k (n + 1) (by omega) (by omega)
theorem loopA (h : Vw w m) (vd : VD w m l d) (hub : ∀ i, i < w.length → g d.f0 i ≤ 12884901888) (hvb : ∀ j, j < m → g d.f1 j ≤ 12884901888) : ∀ (q k n : Nat), q + n = w.length → q + 20 < k → armillarylaw22_AssignDuality.l1 w (l, d) k (n : Int) = some (.inl ()) := by
  have hn12 := h.nr
  have hm := h.mr
  intro q
  induction q with
  | zero =>
    intro k n hq hk
    obtain ⟨k, rfl⟩ : ∃ m, k = m + 1 := ⟨k - 1, by omega⟩
    simp only [armillarylaw22_AssignDuality.l1]
    rw [if_neg (by omega)]
  | succ q ih =>
    intro k n hq hk
    obtain ⟨k, rfl⟩ : ∃ m, k = m + 1 := ⟨k - 1, by omega⟩
    simp only [armillarylaw22_AssignDuality.l1]
    rw [if_pos (by omega), show armillarylaw22_AssignDuality.l2 w (l, d) (n : Int) k 0 = _ from loopR h vd hub hvb (by omega) m k 0 (by omega) (by omega)]
    simp only [Option.bind_some, armillarylaw22_AssignDuality.k4]
    rw [Wn (by omega)]
    exact ih k (n + 1) (by omega) (by omega)
end
end dual
theorem armillarylaw22_AssignDuality_holds (a0 : List (List Int)) (hp0 : ∀ x ∈ a0, (fun l => ∀ y ∈ l, (fun n => (Lit.int .i64 n).wf = true) y) x) (hl : a0.length ≤ 9223372036854775807) : ∃ k, armillarylaw22_AssignDuality.f k a0 = some true := by
  refine ⟨a0.length + 2000, ?_⟩
  obtain ⟨w, m, e1, h, _, _⟩ := made a0 12 12 (by omega) (by omega) hl (k := a0.length + 2000) (by omega)
  obtain ⟨l, d, V, e2, s⟩ := solve h (k := a0.length + 2000) (by omega)
  have vd := s.vd h
  have e3 := value_ok h vd.va (k := a0.length + 2000) (by omega)
  have e4 := (verify h l d (k := a0.length + 2000) (by omega)).1 vd
  have hn := h.nr
  have hm := h.mr
  have hV := s.vb
  have hU := dual.loopU (l := l) (d := d) V hV (by rw [s.ul]; omega) (fun i hi => s.up i (by rw [← s.ul]; exact hi)) d.f0.length (a0.length + 2000) 0 0 (by omega) (by rw [s.ul]; omega) rfl
  rw [s.ul] at hU
  have hs0 : 0 ≤ sm (g d.f0) w.length := sm_mono (f := g d.f0) w.length 0 (by omega) (fun j _ hj => (s.up j hj).1)
  have hs1 : 0 ≤ sm (g d.f1) m := sm_mono (f := g d.f1) m 0 (by omega) (fun j _ hj => (s.vp j hj).1)
  have hsum := s.sum
  have hVl := dual.loopV (l := l) (d := d) V (sm (g d.f0) w.length) hV (by omega) (by rw [s.vl]; omega) (fun i hi => s.vp i (by rw [← s.vl]; exact hi)) d.f1.length (a0.length + 2000) 0 (sm (g d.f0) w.length) (by omega) (by rw [s.vl]; omega) (by simp [sm])
  rw [s.vl] at hVl
  have hA := dual.loopA h vd (fun i hi => by have := s.up i hi; omega) (fun j hj => by have := s.vp j hj; omega) w.length (a0.length + 2000) 0 (by omega) (by omega)
  unfold armillarylaw22_AssignDuality.f
  rw [show armillarylaw22_sanity.f (a0.length + 2000) = some true from sane (a0.length + 1940), Option.bind_some]
  rw [show armillaryref22_Made.f (a0.length + 2000) a0 12 12 = some w from e1, Option.bind_some, e2, Option.bind_some, e3, Option.bind_some, if_pos rfl, if_neg (by rw [s.ul]; simp), columnsR h, Option.bind_some, Option.bind_some]
  have : ((d.f1.length : Int) != (m : Int)) = false := by rw [s.vl]; simp
  rw [this]
  simp only [armillarylaw22_AssignDuality.k9]
  rw [if_neg (by decide), show armillarylaw22_AssignDuality.l4 (l, d) (a0.length + 2000) 0 0 = _ from hU, Option.bind_some]
  simp only [armillarylaw22_AssignDuality.k7]
  rw [show armillarylaw22_AssignDuality.l3 (l, d) (a0.length + 2000) (sm (g d.f0) w.length) 0 = _ from hVl, Option.bind_some]
  simp only [armillarylaw22_AssignDuality.k5]
  rw [show armillarylaw22_AssignDuality.l1 w (l, d) (a0.length + 2000) 0 = _ from hA, Option.bind_some]
  simp only [armillarylaw22_AssignDuality.k2]
  rw [if_pos (by rw [hsum, s.val]), e4, Option.bind_some, if_pos rfl]
  rfl
end Go.Proofs.Ytdmhbcgmimfjcaa
