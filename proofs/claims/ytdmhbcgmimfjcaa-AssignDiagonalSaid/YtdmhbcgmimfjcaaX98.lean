/- Words of the walk, the functions' walks and plain laws, joined; no conditions beyond those that the theorems name. -/
import Derived.Test.YtdmhbcgmimfjcaaX92
import Derived.ChangeArms
import Derived.DataReads
import Derived.OpenShut
import Derived.Test.YtdmhbcgmimfjcaaX96
import Derived.Test.YtdmhbcgmimfjcaaX97
namespace Go.Proofs.Ytdmhbcgmimfjcaa.RW
open Go Go.RowKit

/-- The whole memory, as cells that never turn. -/
def wImm (W : World) : Imm := look W
theorem wImm_at (W : World) : (wImm W).at_ W := fun _ _ h => h
/-- What reads as a datum of type t is told by d, with p. -/
def Opens (P : Program) {α : Type} (d : Ty α) (t : TypeId) (p : α → Prop) : Prop :=
 ∀ {H : Type} {enc : TypeId × Value → H} (W : World) (base : Nat) (sp : Nat → Bool) (held : Bool) (fuel : Nat) (cs : List Value) (x : DataW H × List MemPlace), DataW.trod enc P W base sp held fuel t cs = some x → ∃ a, d.K (wImm W) a cs ∧ p a

section
variable {P : Program} {α β : Type} {d : Ty α} {t e : TypeId} {p : α → Prop}
theorem opens_int {k : IntKind} (ht : P.underlying t = some (.int k)) : Opens P (Ty.int k) t (fun n => (Lit.int k n).wf = true) := by
 intro H enc W base sp held fuel cs x h
 obtain ⟨n, rfl, _, hw⟩ := DataW.trod_int ht h
 exact ⟨n, rfl, hw⟩
theorem opens_bool (ht : P.underlying t = some .bool) : Opens P Ty.bool t (fun _ => True) := by
 intro H enc W base sp held fuel cs x h
 obtain ⟨b, rfl, _⟩ := DataW.trod_bool ht h
 exact ⟨b, rfl, trivial⟩
theorem opens_string (ht : P.underlying t = some .string) : Opens P Ty.string t (fun s => s.size ≤ maxLen) := by
 intro H enc W base sp held fuel cs x h
 obtain ⟨s, rfl, _, hs⟩ := DataW.trod_string ht h
 exact ⟨s, rfl, hs⟩
theorem add_add {a : Addr} (h : a.spot = none) (n m : Nat) : (a.add n).add m = ⟨a.block, a.off + n + m, none⟩ := by
 obtain ⟨b, o, s⟩ := a
 obtain rfl : s = none := h
 unfold Addr.add
 split <;> split <;> simp_all
theorem opens_slice (ho : Opens P d e p) (ht : P.underlying t = some (.slice e)) (hsz : P.cellsOf e = d.sz) (hpos : 0 < d.sz) : Opens P (Ty.slice d) t (fun l => ∀ x ∈ l, p x) := by
 intro H enc W base sp held fuel cs x h
 rcases DataW.trod_slice ht h with ⟨rfl, _⟩ | ⟨a, len, cap, elems, rest, n, _, rfl, _, hb, hl, hm, hlen, hel, _, _⟩
 ·exact ⟨[], ⟨none, 0, rfl, Nat.le_refl _, Rd.nil _ _ _⟩, fun x hx => by cases hx⟩
 ·have hsp0 : 0 < len → a.spot = none := by
   intro hi
   have h1 := hel 0 hi
   rw [List.getElem?_eq_getElem (by rw [hlen]; exact hi), Option.bind_eq_some_iff] at h1
   obtain ⟨c, hc, hy⟩ := h1
   obtain ⟨_, hcl, hcell⟩ := World.cells?_some hc
   have h2 := hcell 0 (by rw [hsz]; exact hpos)
   have hlt : 0 < c.length := by rw [hcl, hsz]; exact hpos
   rw [List.getElem?_eq_getElem hlt, show (a.add (0 * P.cellsOf e)).add 0 = a from by simp [Addr.add]] at h2
   cases hsp : a.spot with
   | none => rfl
   | some s =>
    exfalso
    unfold World.cell? at h2
    split at h2
    ·rw [hsp] at h2; simp at h2
    ·cases h2
  have each : ∀ i, i < len → ∃ v c, d.K (wImm W) v c ∧ p v ∧ a.spot = none ∧ ∀ q u, c[q]? = some u → wImm W ⟨a.block, a.off + i * d.sz + q, none⟩ = some u := by
   intro i hi
   have h1 := hel i hi
   rw [List.getElem?_eq_getElem (by rw [hlen]; exact hi), Option.bind_eq_some_iff] at h1
   obtain ⟨c, hc, hy⟩ := h1
   obtain ⟨v, hk, hp⟩ := ho W base sp held n c _ hy
   obtain ⟨_, hcl, hcell⟩ := World.cells?_some hc
   have hspot := hsp0 (by omega)
   refine ⟨v, c, hk, hp, hspot, fun q u hu => ?_⟩
   have hql : q < c.length := (List.getElem?_eq_some_iff.1 hu).1
   have h2 := hcell q (by rw [← hcl]; exact hql)
   rw [add_add hspot, hsz, hu] at h2
   exact h2
  have build : ∀ n, n ≤ len → ∃ l : List α, l.length = n ∧ (∀ x ∈ l, p x) ∧ ∀ (j : Nat) (v : α), l[j]? = some v → ∃ c, d.K (wImm W) v c ∧ a.spot = none ∧ ∀ q u, c[q]? = some u → wImm W ⟨a.block, a.off + j * d.sz + q, none⟩ = some u := by
   intro n
   induction n with
   | zero => intro _; exact ⟨[], rfl, (fun x hx => by cases hx), fun j v hj => by cases hj⟩
   | succ n ih =>
    intro hn
    obtain ⟨l, hl1, hl2, hl3⟩ := ih (by omega)
    obtain ⟨v, c, hk, hp, hs, hc⟩ := each n (by omega)
    refine ⟨l ++ [v], by simp [hl1], fun x hx => ?_, fun j w hj => ?_⟩
    ·rcases List.mem_append.1 hx with hx | hx
     ·exact hl2 x hx
     ·rw [List.mem_singleton.1 hx]; exact hp
    ·rcases Nat.lt_or_ge j l.length with hlt | hge
     ·rw [List.getElem?_append_left hlt] at hj
      exact hl3 j w hj
     ·rw [List.getElem?_append_right hge] at hj
      have hj0 : j - l.length = 0 := by
       rcases Nat.eq_zero_or_pos (j - l.length) with h0 | h0
       ·exact h0
       ·rw [List.getElem?_eq_none (by simp; omega)] at hj; cases hj
      rw [hj0] at hj
      simp only [List.getElem?_cons_zero, Option.some.injEq] at hj
      subst hj
      obtain rfl : j = n := by omega
      exact ⟨c, hk, hs, hc⟩
  obtain ⟨l, hl1, hl2, hl3⟩ := build len (Nat.le_refl _)
  refine ⟨l, ⟨some a, cap, by rw [hl1], by omega, ⟨by unfold maxLen at hm; omega, fun hne => ?_⟩⟩, hl2⟩
  have h0 : 0 < l.length := List.length_pos_iff.2 hne
  obtain ⟨_, _, hs, _⟩ := hl3 0 _ (List.getElem?_eq_getElem h0)
  refine ⟨a.block, a.off, by obtain ⟨b, o, s⟩ := a; simp_all, fun j v hj => ?_⟩
  obtain ⟨c, hk, _, hc⟩ := hl3 j v hj
  exact ⟨c, hk, hc⟩

/-- The fields of a struct, from cell 'off' on. -/
def offs : Nat → List (TypeId × Nat) → List (TypeId × Nat × Nat)
 | _, [] => []
 | o, (t, n) :: r => (t, o, n) :: offs (o + n) r
def total : List (TypeId × Nat) → Nat
 | [] => 0
 | (_, n) :: r => n + total r
def OpensF (P : Program) {α : Type} (d : Ty α) (fl : List (TypeId × Nat)) (p : α → Prop) : Prop :=
 ∀ {H : Type} {enc : TypeId × Value → H} (W : World) (base : Nat) (sp : Nat → Bool) (held : Bool) (fuel off : Nat) (cs : List Value),
  (∀ q ∈ offs off fl, ∃ x, DataW.trod enc P W base sp held fuel q.1 ((cs.drop q.2.1).take q.2.2) = some x) → cs.length = off + total fl → ∃ a, d.K (wImm W) a (cs.drop off) ∧ p a
theorem opensF_one (ho : Opens P d t p) (n : Nat) : OpensF P d [(t, n)] p := by
 intro H enc W base sp held fuel off cs h hl
 obtain ⟨x, hx⟩ := h _ List.mem_cons_self
 simp only [total, Nat.add_zero] at hl
 have e : (cs.drop off).take n = cs.drop off := List.take_of_length_le (by rw [List.length_drop]; omega)
 simp only at hx
 rw [e] at hx
 exact ho W base sp held fuel _ x hx
theorem opensF_cons {d2 : Ty β} {fl : List (TypeId × Nat)} {q : β → Prop} (n : Nat) (ho : Opens P d t p) (hr : OpensF P d2 fl q) : OpensF P (Ty.pair d d2) ((t, n) :: fl) (fun x => p x.1 ∧ q x.2) := by
 intro H enc W base sp held fuel off cs h hl
 simp only [total] at hl
 obtain ⟨x, hx⟩ := h _ List.mem_cons_self
 obtain ⟨a, hk, hp⟩ := ho W base sp held fuel _ x hx
 obtain ⟨b, hk2, hp2⟩ := hr (enc := enc) W base sp held fuel (off + n) cs (fun q hq => h q (List.mem_cons_of_mem _ hq)) (by omega)
 refine ⟨(a, b), ⟨_, _, ?_, hk, hk2⟩, hp, hp2⟩
 simp only
 rw [← List.drop_drop, List.take_append_drop]
theorem opens_struct {fl : List (TypeId × Nat)} (ho : OpensF P d fl p) (ht : P.underlying t = some (.struct (P.fieldsOf t))) (hf : (P.fieldsOf t).toList.map (fun f => (f.type, f.offset, P.cellsOf f.type)) = offs 0 fl) (hc : P.cellsOf t = total fl)
  (f : β → α) (g : α → β) (hg : ∀ y, f (g y) = y) : Opens P (Ty.iso d f) t (fun x => p (f x)) := by
 intro H enc W base sp held fuel cs x h
 obtain ⟨xs, n, _, _, hcl, hxl, hx⟩ := DataW.trod_struct ht h
 have hseg : ∀ q ∈ offs 0 fl, ∃ x, DataW.trod enc P W base sp held n q.1 ((cs.drop q.2.1).take q.2.2) = some x := by
  intro q hq
  rw [← hf] at hq
  obtain ⟨f, hfm, rfl⟩ := List.mem_map.1 hq
  obtain ⟨i, hi, hif⟩ := List.getElem_of_mem hfm
  have h1 := hx i f (by rw [← Array.getElem?_toList, List.getElem?_eq_getElem hi, hif])
  have h2 : i < xs.length := by rw [hxl]; simpa using hi
  rw [List.getElem?_eq_getElem h2] at h1
  exact ⟨_, h1⟩
 obtain ⟨a, hk, hp⟩ := ho W base sp held n 0 cs hseg (by rw [hcl, hc, Nat.zero_add])
 refine ⟨g a, ?_, by show p (f (g a)); rw [hg]; exact hp⟩
 show d.K (wImm W) (f (g a)) cs
 rw [hg]
 exact hk
theorem opens_array {n : Nat} {fl : List (TypeId × Nat)} (ho : OpensF P d fl p) (ht : P.underlying t = some (.array n e)) (hf : (List.range n).map (fun i => (e, i * P.cellsOf e, P.cellsOf e)) = offs 0 fl) (hc : P.cellsOf t = total fl)
  (f : β → α) (g : α → β) (hg : ∀ y, f (g y) = y) : Opens P (Ty.iso d f) t (fun x => p (f x)) := by
 intro H enc W base sp held fuel cs x h
 obtain ⟨xs, m, _, _, hcl, hxl, hx⟩ := DataW.trod_array ht h
 have hseg : ∀ q ∈ offs 0 fl, ∃ x, DataW.trod enc P W base sp held m q.1 ((cs.drop q.2.1).take q.2.2) = some x := by
  intro q hq
  rw [← hf] at hq
  obtain ⟨i, hi, rfl⟩ := List.mem_map.1 hq
  have hi' := List.mem_range.1 hi
  have h1 := hx i hi'
  rw [List.getElem?_eq_getElem (show i < xs.length by omega)] at h1
  exact ⟨_, h1⟩
 obtain ⟨a, hk, hp⟩ := ho W base sp held m 0 cs hseg (by rw [hcl, hc, Nat.zero_add])
 refine ⟨g a, ?_, by show p (f (g a)); rw [hg]; exact hp⟩
 show d.K (wImm W) (f (g a)) cs
 rw [hg]
 exact hk
end
end Go.Proofs.Ytdmhbcgmimfjcaa.RW
namespace Go.Proofs.Ytdmhbcgmimfjcaa
open Go Go.Proofs.Ytdmhbcgmimfjcaa.RW
set_option linter.unusedVariables false
set_option maxRecDepth 100000
set_option maxHeartbeats 8000000

-- p58: no reading of the kind array
def p26 (x : S26) : Prop := (fun l => ∀ x ∈ l, (fun n => (Lit.int .i64 n).wf = true) x) x.f0 ∧ (fun l => ∀ x ∈ l, (fun n => (Lit.int .i64 n).wf = true) x) x.f1
theorem o26 : Opens Try.prog t26 26 p26 :=
 opens_struct (fl := [(24, 1), (24, 1)]) (opensF_cons 1 (opens_slice (e := 2) (opens_int (by kernel_rfl)) (by kernel_rfl) (by kernel_rfl) (Nat.le_of_ble_eq_true (by kernel_rfl))) (opensF_one (opens_slice (e := 2) (opens_int (by kernel_rfl)) (by kernel_rfl) (by kernel_rfl) (Nat.le_of_ble_eq_true (by kernel_rfl))) 1)) (by kernel_rfl) (by kernel_rfl) (by kernel_rfl) (fun (x : S26) => (x.f0, x.f1)) (fun y => ⟨y.1, y.2⟩) (fun _ => rfl)
def p39 (x : S39) : Prop := (fun n => (Lit.int .i32 n).wf = true) x.f0 ∧ (fun n => (Lit.int .i32 n).wf = true) x.f1
theorem o39 : Opens Try.prog t39 39 p39 :=
 opens_array (n := 2) (e := 21) (fl := [(21, 1), (21, 1)]) (opensF_cons 1 (opens_int (by kernel_rfl)) (opensF_one (opens_int (by kernel_rfl)) 1)) (by kernel_rfl) (by kernel_rfl) (by kernel_rfl) (fun (x : S39) => (x.f0, x.f1)) (fun y => ⟨y.1, y.2⟩) (fun _ => rfl)

end Go.Proofs.Ytdmhbcgmimfjcaa
namespace Go.Proofs.Ytdmhbcgmimfjcaa
open Go Go.Proofs.Ytdmhbcgmimfjcaa.RW hun
set_option linter.unusedVariables false
set_option maxRecDepth 100000
set_option maxHeartbeats 4000000
namespace diag
section
variable {w : List (List Int)} {m n : Nat} {a1 : Int}
/-- the drawn matrix with one great weight in each row -/
def D (w : List (List Int)) (n s : Nat) (i j : Nat) : Int := if j = (i + s) % n then 536870912 + (we w i j).tmod 536870912 else (we w i j).tmod 536870912
theorem low (h : Vw w m) {i j : Nat} (hi : i < w.length) (hj : j < m) : 0 ≤ (we w i j).tmod 536870912 ∧ (we w i j).tmod 536870912 < 536870912 :=
  ⟨Int.tmod_nonneg _ (h.eb i j hi hj).1, Int.tmod_lt_of_pos _ (by omega)⟩
theorem D_b (h : Vw w m) {s i j : Nat} (hi : i < w.length) (hj : j < m) : 0 ≤ D w n s i j ∧ D w n s i j ≤ 1073741824 := by
  have := low h hi hj
  unfold D
  split <;> omega
theorem at_ (ha : 0 ≤ a1 ∧ a1 ≤ 255) (hn : 0 < n ∧ n ≤ 12) {i : Nat} (hi : i < n) : (W .i64 ((i : Int) + W .i64 a1)).tmod (n : Int) = (((i + a1.toNat) % n : Nat) : Int) := by
  obtain ⟨s, rfl⟩ : ∃ s : Nat, a1 = (s : Int) := ⟨a1.toNat, by omega⟩
  rw [W64 (x := (s : Int)) (by omega) (by omega), W64 (by omega) (by omega), tn]
  rw [Int.tmod_eq_emod_of_nonneg (by omega)]
  rfl
theorem drow (h : Vw w m) (hn : iMin (w.length : Int) (m : Int) = (n : Int)) (h1 : n ≤ w.length) (h2 : n ≤ m) {i : Nat} (hi : i < n) : ∀ (d k j : Nat) (x : List Int), d + j = n → d < k → x.length = n → (∀ c, c < j → g x c = (we w i c).tmod 536870912) → ∃ x', armillarylaw22_AssignDiagonal.l2 w (m : Int) (i : Int) k x (j : Int) = some x' ∧ x'.length = n ∧ ∀ c, c < n → g x' c = (we w i c).tmod 536870912 := by
  have hm := h.mr
  have hrl := h.rl i (by omega)
  intro d
  induction d with
  | zero =>
    intro k j x hd hk hx hg
    obtain ⟨k, rfl⟩ : ∃ m, k = m + 1 := ⟨k - 1, by omega⟩
    obtain rfl : j = n := by omega
    refine ⟨x, ?_, hx, hg⟩
    simp only [armillarylaw22_AssignDiagonal.l2]
    rw [hn, if_neg (by omega)]
  | succ d ih =>
    intro k j x hd hk hx hg
    obtain ⟨k, rfl⟩ : ∃ m, k = m + 1 := ⟨k - 1, by omega⟩
    have hl : ((w.getD i []).length : Int) = (m : Int) := by show ((row w i).length : Int) = _; omega
    simp only [armillarylaw22_AssignDiagonal.l2, tn, hl]
    rw [hn, if_pos (by omega), if_pos (by omega), if_pos (by omega), if_pos (by omega), if_pos (by omega), if_pos (by omega), if_pos (by omega), Wn (by omega)]
    refine ih k (j + 1) _ (by omega) (by omega) (by rw [List.length_set]; exact hx) (fun c hc => ?_)
    rw [gset (by omega)]
    by_cases e : c = j
    · subst e; rw [if_pos rfl]
    · rw [if_neg e]; exact hg c (by omega)
theorem drows (h : Vw w m) (ha : 0 ≤ a1 ∧ a1 ≤ 255) (hn : iMin (w.length : Int) (m : Int) = (n : Int)) (h1 : n ≤ w.length) (h2 : n ≤ m) : ∀ (d k i : Nat) (p : List (List Int)) (q : List Int), d + i = n → d + 30 ≤ k → Mat i n (D w n a1.toNat) p → q.length = i → (∀ c, c < i → g q c = (((c + a1.toNat) % n : Nat) : Int)) → ∃ p' q', armillarylaw22_AssignDiagonal.l1 a1 w (m : Int) k p q (i : Int) = some (p', q') ∧ Mat n n (D w n a1.toNat) p' ∧ q'.length = n ∧ ∀ c, c < n → g q' c = (((c + a1.toNat) % n : Nat) : Int) := by
  have hm := h.mr
  intro d
  induction d with
  | zero =>
    intro k i p q hd hk hp hq hg
    obtain ⟨k, rfl⟩ : ∃ m, k = m + 1 := ⟨k - 1, by omega⟩
    obtain rfl : i = n := by omega
    refine ⟨p, q, ?_, hp, hq, hg⟩
    simp only [armillarylaw22_AssignDiagonal.l1]
    rw [hn, if_neg (by omega)]
  | succ d ih =>
    intro k i p q hd hk hp hq hg
    obtain ⟨k, rfl⟩ : ∃ m, k = m + 1 := ⟨k - 1, by omega⟩
    have hi : i < n := by omega
    have hrl := h.rl i (by omega)
    have hl : ((w.getD i []).length : Int) = (m : Int) := by show ((row w i).length : Int) = _; omega
    obtain ⟨x, e, hx, gx⟩ := drow h hn h1 h2 hi n k 0 (List.replicate n 0) (by omega) (by omega) (by simp) (fun c hc => by omega)
    have len1 : ∀ {α : Type} (u : α), [u].length = 1 := fun _ => rfl
    have hpl := hp.len
    have hmod : (i + a1.toNat) % n < n := Nat.mod_lt _ (by omega)
    have hz : ∀ c, (w.getD i []).getD c 0 = we w i c := fun _ => rfl
    have hlow := low h (i := i) (j := (i + a1.toNat) % n) (by omega) (by omega)
    simp only [armillarylaw22_AssignDiagonal.l1]
    rw [hn, if_pos (by omega), if_pos (by omega), if_pos (by omega), tn, show armillarylaw22_AssignDiagonal.l2 w (m : Int) (i : Int) k (List.replicate n 0) 0 = some x from e, Option.bind_some]
    simp only [armillarylaw22_AssignDiagonal.k4, len1, tn, hl, hz]
    rw [hn, at_ ha ⟨by omega, by omega⟩ hi]
    simp only [tn]
    rw [if_neg (by omega), if_pos (by omega), if_pos (by omega), if_pos (by omega), if_pos (by omega), if_pos (by omega), if_pos (by omega), if_pos (by omega), if_pos (by omega), Option.bind_some, Wn (by omega), W64 (by omega) (by omega)]
    refine ih k (i + 1) _ _ (by omega) (by omega) (hp.app (by rw [List.length_set]; exact hx) (fun c hc => ?_)) (by simp [hq]) (fun c hc => ?_)
    · rw [gset (by omega)]
      unfold D
      by_cases e3 : c = (i + a1.toNat) % n
      · rw [if_pos e3, if_pos e3, e3]
      · rw [if_neg e3, if_neg e3]; exact gx c hc
    · rw [gapp, hq]
      by_cases e3 : c = i
      · subst e3; rw [if_neg (by omega), if_pos rfl]
      · rw [if_pos (by omega)]; exact hg c (by omega)
end
end diag
theorem armillarylaw22_AssignDiagonal_holds (a0 : List (List Int)) (a1 : Int) (hp0 : ∀ x ∈ a0, (fun l => ∀ y ∈ l, (fun n => (Lit.int .i64 n).wf = true) y) x) (hl : a0.length ≤ 9223372036854775807) (hp1 : (Lit.int .u8 a1).wf = true) : ∃ k, armillarylaw22_AssignDiagonal.f k a0 a1 = some true := by
  have ha : 0 ≤ a1 ∧ a1 ≤ 255 := by simpa [Lit.wf, IntKind.min, IntKind.max, IntKind.signed, IntKind.bits] using hp1
  refine ⟨a0.length + 2000, ?_⟩
  obtain ⟨w, m, e1, h, _, _⟩ := made a0 12 12 (by omega) (by omega) hl (k := a0.length + 2000) (by omega)
  have hwn := h.nr
  have hm := h.mr
  obtain ⟨n, hn, h1, h2⟩ : ∃ n : Nat, iMin (w.length : Int) (m : Int) = (n : Int) ∧ n ≤ w.length ∧ n ≤ m := by
    have e : ∀ a c : Int, iMin a c = if c < a then c else a := fun _ _ => rfl
    rw [e]
    split
    · exact ⟨m, rfl, by omega, by omega⟩
    · exact ⟨w.length, rfl, by omega, by omega⟩
  unfold armillarylaw22_AssignDiagonal.f
  rw [show armillarylaw22_sanity.f (a0.length + 2000) = some true from sane (a0.length + 1940), Option.bind_some]
  rw [show armillaryref22_Made.f (a0.length + 2000) a0 12 12 = some w from e1, Option.bind_some, columnsR h, Option.bind_some, hn]
  by_cases hz : n = 0
  · rw [if_pos (by omega)]
  · rw [if_neg (by omega)]
    obtain ⟨p, q, e2, hp, hq, gq⟩ := diag.drows h ha hn h1 h2 n (a0.length + 2000) 0 [] [] (by omega) (by omega) Mat.nil rfl (fun c hc => by omega)
    rw [show armillarylaw22_AssignDiagonal.l1 a1 w (m : Int) (a0.length + 2000) [] [] 0 = _ from e2, Option.bind_some]
    have vp : Vw p n := hp.vw (by omega) (by omega) (fun e => e) (fun i j hi hj => diag.D_b h (by omega) (by omega))
    obtain ⟨l, d, V, e3, s⟩ := solve vp (k := a0.length + 2000) (by omega)
    have hpl := hp.len
    have hmod : ∀ i, (i + a1.toNat) % n < n := fun i => Nat.mod_lt _ (by omega)
    have inj : ∀ c j j' : Nat, j < n → j' < n → (j + c) % n = (j' + c) % n → j = j' := fun c j j' hj hj' e => by
      have h1 := Nat.sub_mod_eq_zero_of_mod_eq e
      have h2 := Nat.sub_mod_eq_zero_of_mod_eq e.symm
      have h3 : (j + c) - (j' + c) = 0 := by
        have := Nat.mod_eq_of_lt (show (j + c) - (j' + c) < n by omega); omega
      have h4 : (j' + c) - (j + c) = 0 := by
        have := Nat.mod_eq_of_lt (show (j' + c) - (j + c) < n by omega); omega
      omega
    have hq1 : IsA p n 0 none' (g q) := by
      refine ⟨fun i hi => ?_, fun i i' hi hi' h0 he => ?_⟩
      · rw [gq i (by omega)]
        have := hmod i
        exact .inr ⟨by omega, by omega, by omega, rfl⟩
      · rw [gq i (by omega), gq i' (by omega)] at he
        exact inj _ i i' (by omega) (by omega) (Int.ofNat_inj.1 he)
    have hqle := s.opt.1 _ hq1
    rw [← s.val] at hqle
    have term : ∀ i, i < p.length → (if g l i = -1 then 0 else we p i (g l i).toNat) ≤ (if g q i = -1 then 0 else we p i (g q i).toNat) ∧ ((if g l i = -1 then 0 else we p i (g l i).toNat) = (if g q i = -1 then 0 else we p i (g q i).toNat) → g l i = g q i) := fun i hi => by
      have h3 := hmod i
      rw [gq i (by omega), if_neg (show ¬ (((i + a1.toNat) % n : Nat) : Int) = -1 by omega), tn, hp.at_ i _ (by omega) h3]
      have h4 := diag.low h (i := i) (j := (i + a1.toNat) % n) (by omega) (by omega)
      have h5 : diag.D w n a1.toNat i ((i + a1.toNat) % n) = 536870912 + (we w i ((i + a1.toNat) % n)).tmod 536870912 := if_pos rfl
      rw [h5]
      by_cases e : g l i = -1
      · rw [if_pos e]
        exact ⟨by omega, fun h => by omega⟩
      · rw [if_neg e]
        obtain ⟨_, h6, h7, _⟩ := (s.isa.rg i hi).resolve_left e
        rw [hp.at_ i _ (by omega) (by omega)]
        unfold diag.D
        by_cases e2 : (g l i).toNat = (i + a1.toNat) % n
        · rw [if_pos e2, e2]
          exact ⟨Int.le_refl _, fun _ => by omega⟩
        · rw [if_neg e2]
          have h8 := diag.low h (i := i) (j := (g l i).toNat) (by omega) (by omega)
          exact ⟨by omega, fun h => by omega⟩
    have heq := sm_eq p.length (fun i hi => (term i hi).1) hqle
    have hlq : l = q := ext_g (by rw [s.ll, hq]; omega) (fun i hi => (term i (by rw [← s.ll]; exact hi)).2 (heq i (by rw [← s.ll]; exact hi)))
    subst hlq
    obtain ⟨b, e4, hb⟩ := valid_spec p (k := a0.length + 2000) (by omega)
    have hbt := hb.2 vp.ok
    subst hbt
    simp only [armillarylaw22_AssignDiagonal.k2]
    rw [e3, Option.bind_some, e4, Option.bind_some, if_pos rfl, same l (by omega) (by omega), Option.bind_some, if_pos rfl, (verify vp l d (k := a0.length + 2000) (by omega)).1 (s.vd vp), Option.bind_some, if_pos rfl]
    rfl
end Go.Proofs.Ytdmhbcgmimfjcaa
