/- Words of the walk, the functions' walks and plain laws, joined; no conditions beyond those that the theorems name. -/
import Derived.Test.YtdmhbcgmimfjcaaX35
import Derived.Test.YtdmhbcgmimfjcaaX32
namespace Go.Proofs.Ytdmhbcgmimfjcaa.hun
open Go Go.Proofs.Ytdmhbcgmimfjcaa Go.Proofs.Ytdmhbcgmimfjcaa.RW
set_option linter.unusedVariables false
set_option maxRecDepth 100000
set_option maxHeartbeats 4000000
/-- What a row of a valid matrix is. -/
def Rok (raw : List (List Int)) (i : Nat) : Prop := (row raw i).length = (row raw 0).length ∧ (row raw i).length ≤ 12 ∧ ∀ j, j < (row raw i).length → 0 ≤ we raw i j ∧ we raw i j ≤ 1073741824
def Mok (raw : List (List Int)) : Prop := raw.length ≤ 12 ∧ ∀ i, i < raw.length → Rok raw i
theorem valid1 (x : Int) : ∃ b, assign_Valid_1.f x = some b ∧ (b = false ↔ 0 ≤ x ∧ x ≤ 1073741824) := by
  unfold assign_Valid_1.f
  by_cases h : x < 0
  · exact ⟨true, by simp [h, assign_Valid_1.k1], by simp; omega⟩
  · by_cases h2 : x > 1073741824
    · exact ⟨true, by simp [h, h2, assign_Valid_1.k1], by simp; omega⟩
    · exact ⟨false, by simp [h, h2, assign_Valid_1.k1], by simp; omega⟩
theorem index_ (l : List Int) (hl : l.length ≤ 12) : ∀ (d k n : Nat), d + n = l.length → d < k → ∃ s, slices_IndexFunc_int64_int64s0.l1 l k (n : Int) = some s ∧ ((s = .inl () ∧ ∀ j, n ≤ j → j < l.length → 0 ≤ g l j ∧ g l j ≤ 1073741824) ∨ (∃ q : Nat, s = .inr (q : Int) ∧ ¬ ∀ j, n ≤ j → j < l.length → 0 ≤ g l j ∧ g l j ≤ 1073741824)) := by
  intro d
  induction d with
  | zero =>
    intro k n hd hk
    obtain ⟨k, rfl⟩ : ∃ m, k = m + 1 := ⟨k - 1, by omega⟩
    simp only [slices_IndexFunc_int64_int64s0.l1]
    rw [if_neg (by omega)]
    exact ⟨_, rfl, .inl ⟨rfl, fun j h1 h2 => by omega⟩⟩
  | succ d ih =>
    intro k n hd hk
    obtain ⟨k, rfl⟩ : ∃ m, k = m + 1 := ⟨k - 1, by omega⟩
    simp only [slices_IndexFunc_int64_int64s0.l1, tn]
    rw [if_pos (by omega), if_pos (by omega), if_pos (by omega)]
    obtain ⟨b, e, hb⟩ := valid1 (l.getD n 0)
    rw [e, Option.bind_some, Wn (by omega)]
    cases b with
    | true =>
      rw [if_pos rfl]
      refine ⟨_, rfl, .inr ⟨n, rfl, fun h => ?_⟩⟩
      have := hb.2 (h n (Nat.le_refl _) (by omega))
      cases this
    | false =>
      rw [if_neg (by decide)]
      have hn := hb.1 rfl
      obtain ⟨s, e2, h⟩ := ih k (n + 1) (by omega) (by omega)
      refine ⟨s, e2, h.imp (fun h => ⟨h.1, fun j h1 h2 => ?_⟩) (fun ⟨q, h1, h2⟩ => ⟨q, h1, fun h3 => h2 fun j h4 h5 => h3 j (by omega) h5⟩)⟩
      by_cases e3 : j = n
      · subst e3; exact hn
      · exact h.2 j (by omega) h2
theorem contains_ (l : List Int) (hl : l.length ≤ 12) {k : Nat} (hk : 13 ≤ k) : ∃ b, slices_ContainsFunc_int64_int64s0.f k l = some b ∧ (b = false ↔ ∀ j, j < l.length → 0 ≤ g l j ∧ g l j ≤ 1073741824) := by
  obtain ⟨s, e, h⟩ := index_ l hl l.length k 0 (by omega) (by omega)
  unfold slices_ContainsFunc_int64_int64s0.f slices_IndexFunc_int64_int64s0.f
  rw [show slices_IndexFunc_int64_int64s0.l1 l k 0 = some s from e, Option.bind_some]
  rcases h with ⟨rfl, h⟩ | ⟨q, rfl, h⟩
  · simp only [slices_IndexFunc_int64_int64s0.k1, Option.bind_some]
    exact ⟨_, rfl, fun _ j hj => h j (by omega) hj, fun _ => by decide⟩
  · simp only [slices_IndexFunc_int64_int64s0.k1, Option.bind_some]
    refine ⟨_, rfl, fun h1 => ?_, fun h1 => absurd (fun j _ hj => h1 j hj) h⟩
    have := of_decide_eq_false h1
    omega
theorem vrows (raw : List (List Int)) (hl : raw.length ≤ 12) : ∀ (d k n : Nat), d + n = raw.length → d + 20 ≤ k → ∃ s, assign_Valid.l1 raw k (n : Int) = some s ∧ ((s = .inl () ∧ ∀ i, n ≤ i → i < raw.length → Rok raw i) ∨ (s = .inr false ∧ ¬ ∀ i, n ≤ i → i < raw.length → Rok raw i)) := by
  intro d
  induction d with
  | zero =>
    intro k n hd hk
    obtain ⟨k, rfl⟩ : ∃ m, k = m + 1 := ⟨k - 1, by omega⟩
    simp only [assign_Valid.l1]
    rw [if_neg (by omega)]
    exact ⟨_, rfl, .inl ⟨rfl, fun j h1 h2 => by omega⟩⟩
  | succ d ih =>
    intro k n hd hk
    obtain ⟨k, rfl⟩ : ∃ m, k = m + 1 := ⟨k - 1, by omega⟩
    have bad : ¬ Rok raw n → ∃ s, some (Sum.inr false : Unit ⊕ Bool) = some s ∧ ((s = .inl () ∧ ∀ i, n ≤ i → i < raw.length → Rok raw i) ∨ (s = .inr false ∧ ¬ ∀ i, n ≤ i → i < raw.length → Rok raw i)) := fun h => ⟨_, rfl, .inr ⟨rfl, fun h2 => h (h2 n (Nat.le_refl _) (by omega))⟩⟩
    simp only [assign_Valid.l1, tn]
    rw [if_pos (by omega), if_pos (by omega), if_pos (by omega), if_pos (by omega)]
    by_cases h1 : ((raw.getD n []).length : Int) ≠ ((raw.getD (0 : Int).toNat []).length : Int)
    · rw [if_pos h1]
      exact bad fun h => h1 (by rw [show (raw.getD n []).length = _ from h.1]; rfl)
    · rw [if_neg h1]
      by_cases h2 : ((raw.getD n []).length : Int) > 12
      · rw [if_pos h2]
        exact bad fun h => by have : (raw.getD n []).length ≤ 12 := h.2.1; omega
      · rw [if_neg h2]
        obtain ⟨b, e, hb⟩ := contains_ (raw.getD n []) (by omega) (k := k) (by omega)
        rw [e]
        simp only [Option.bind_some]
        cases b with
        | true =>
          rw [if_pos rfl]
          exact bad fun h => by have := hb.2 h.2.2; cases this
        | false =>
          rw [if_neg (by decide), Wn (by omega)]
          have hn : Rok raw n := ⟨by have := Decidable.not_not.1 h1; show (raw.getD n []).length = (raw.getD (0 : Int).toNat []).length; omega, by show (raw.getD n []).length ≤ 12; omega, hb.1 rfl⟩
          obtain ⟨s, e2, h⟩ := ih k (n + 1) (by omega) (by omega)
          refine ⟨s, e2, h.imp (fun h => ⟨h.1, fun i h3 h4 => ?_⟩) (fun ⟨h3, h4⟩ => ⟨h3, fun h5 => h4 fun i h6 h7 => h5 i (by omega) h7⟩)⟩
          by_cases e3 : i = n
          · subst e3; exact hn
          · exact h.2 i (by omega) h4
theorem valid_spec (raw : List (List Int)) {k : Nat} (hk : 40 ≤ k) : ∃ b, assign_Valid.f k raw = some b ∧ (b = true ↔ Mok raw) := by
  unfold assign_Valid.f
  by_cases h : (raw.length : Int) > 12
  · rw [if_pos h]
    exact ⟨_, rfl, ⟨fun h2 => (nomatch h2), fun h2 => by have := h2.1; omega⟩⟩
  · rw [if_neg h]
    obtain ⟨s, e, h1⟩ := vrows raw (by omega) raw.length k 0 (by omega) (by omega)
    rw [show assign_Valid.l1 raw k 0 = some s from e, Option.bind_some]
    rcases h1 with ⟨rfl, h1⟩ | ⟨rfl, h1⟩
    · exact ⟨_, rfl, ⟨fun _ => ⟨by omega, fun i hi => h1 i (by omega) hi⟩, fun _ => rfl⟩⟩
    · exact ⟨_, rfl, ⟨fun h2 => (nomatch h2), fun h2 => absurd (fun i _ hi => h2.2 i hi) h1⟩⟩
theorem Vw.ok {w : List (List Int)} {m : Nat} (h : Vw w m) : Mok w := by
  refine ⟨h.nr, fun i hi => ⟨?_, ?_, fun j hj => ?_⟩⟩
  · rw [h.rl i hi, h.rl 0 (by omega)]
  · rw [h.rl i hi]; exact h.mr
  · rw [h.rl i hi] at hj; exact h.eb i j hi hj
theorem same (a : List Int) (ha : a.length ≤ 100) {k : Nat} (hk : 102 ≤ k) : armillaryref22_Same.f k a a = some true := by
  have key : ∀ (d k n : Nat), d + n = a.length → d < k → armillaryref22_Same.l1 a a k (n : Int) = some (.inl ()) := by
    intro d
    induction d with
    | zero =>
      intro k n hd hk
      obtain ⟨k, rfl⟩ : ∃ m, k = m + 1 := ⟨k - 1, by omega⟩
      simp only [armillaryref22_Same.l1]
      rw [if_neg (by omega)]
    | succ d ih =>
      intro k n hd hk
      obtain ⟨k, rfl⟩ : ∃ m, k = m + 1 := ⟨k - 1, by omega⟩
      simp only [armillaryref22_Same.l1]
      rw [if_pos (by omega), if_pos (by omega), if_pos (by omega), if_pos (by omega), if_pos (by omega), if_neg (fun h => h rfl), Wn (by omega)]
      exact ih k (n + 1) (by omega) (by omega)
  unfold armillaryref22_Same.f
  rw [if_neg (fun h => h rfl), show armillaryref22_Same.l1 a a k 0 = _ from key a.length k 0 (by omega) (by omega)]
  rfl
theorem ext_g {a b : List Int} (hl : a.length = b.length) (h : ∀ i, i < a.length → g a i = g b i) : a = b := by
  refine List.ext_getElem hl (fun i h1 h2 => ?_)
  have := h i h1
  unfold g at this
  rwa [List.getD_eq_getElem?_getD, List.getD_eq_getElem?_getD, List.getElem?_eq_getElem h1, List.getElem?_eq_getElem h2] at this
/-- Equal sums of numbers that are no greater one by one. -/
theorem sm_eq {f h : Nat → Int} : ∀ n, (∀ j, j < n → f j ≤ h j) → sm h n ≤ sm f n → ∀ j, j < n → f j = h j
  | n + 1, h1, h2, j, hj => by
    have h3 := sm_le n (fun j hj => h1 j (by omega))
    have h4 := h1 n (by omega)
    simp only [sm] at h2
    by_cases e : j = n
    · subst e; omega
    · exact sm_eq n (fun j hj => h1 j (by omega)) (by omega) j (by omega)
end Go.Proofs.Ytdmhbcgmimfjcaa.hun
namespace Go.Proofs.Ytdmhbcgmimfjcaa
open Go Go.Proofs.Ytdmhbcgmimfjcaa.RW
set_option linter.unusedVariables false
set_option maxRecDepth 100000
set_option maxHeartbeats 8000000

/-! ### armillaryref22_Valid: function 12, armillary/armillaryref22.Valid -/
noncomputable def K12_0 : Code := cBody Try.f12
noncomputable def O12_30 : List Oper := cOps (cL (cL (cL (cL (cR (cL (cL (cR (cL (cR (cR K12_0)))))))))))
def armillaryref22_Valid.k1  : (Unit) ⊕ (Bool) → Option (Bool)
 | .inl () => (some true)
 | .inr r_ => some r_
def armillaryref22_Valid.k3  : (Unit) ⊕ (Bool) → Option ((Unit) ⊕ (Bool))
 | .inl () => (some (Sum.inl ()))
 | .inr r_ => some (Sum.inr r_)
def armillaryref22_Valid.l2 (a0 : List (List Int)) (x1 : Int) : Nat → Int → Option ((Unit) ⊕ (Bool))
 | 0, _ => none
 | k + 1, x3 => (if 0 ≤ x1 then (if x1 < (a0.length : Int) then (if x3 < ((a0.getD (x1).toNat []).length : Int) then ((if 0 ≤ x1 then (if x1 < (a0.length : Int) then (if 0 ≤ x3 then (if x3 < ((a0.getD (x1).toNat []).length : Int) then (if ((a0.getD (x1).toNat []).getD (x3).toNat 0) < 0 then (some true) else (if 0 ≤ x1 then (if x1 < (a0.length : Int) then (if 0 ≤ x3 then (if x3 < ((a0.getD (x1).toNat []).length : Int) then (some (decide (((a0.getD (x1).toNat []).getD (x3).toNat 0) > 1073741824))) else none) else none) else none) else none)) else none) else none) else none) else none).bind (fun x4 => (if x4 = true then (some (Sum.inr false)) else (armillaryref22_Valid.l2 a0 x1 k (W .i64 (x3 + 1)))))) else (some (Sum.inl ()))) else none) else none)
def armillaryref22_Valid.k5 (a0 : List (List Int)) (x1 : Int) (kq1 : Nat) (x2 : Bool) : Option ((Unit) ⊕ (Bool)) := (if x2 = true then (some (Sum.inr false)) else ((armillaryref22_Valid.l2 a0 x1 kq1 0).bind (armillaryref22_Valid.k3)))
def armillaryref22_Valid.l1 (a0 : List (List Int)) : Nat → Int → Option ((Unit) ⊕ (Bool))
 | 0, _ => none
 | k + 1, x1 => (if x1 < (a0.length : Int) then (((if 0 ≤ x1 then (if x1 < (a0.length : Int) then (if 0 < (a0.length : Int) then (if ((a0.getD (x1).toNat []).length : Int) ≠ ((a0.getD (0 : Int).toNat []).length : Int) then (some true) else (if 0 ≤ x1 then (if x1 < (a0.length : Int) then (some (decide (((a0.getD (x1).toNat []).length : Int) > 12))) else none) else none)) else none) else none) else none).bind (armillaryref22_Valid.k5 a0 x1 k)).bind (fun s_ => match s_ with | .inl _ => (armillaryref22_Valid.l1 a0 k (W .i64 (x1 + 1))) | .inr r_ => some (Sum.inr r_))) else (some (Sum.inl ())))
def armillaryref22_Valid.f (k : Nat) (a0 : List (List Int)) : Option (Bool) := (if (a0.length : Int) > 12 then (some false) else ((armillaryref22_Valid.l1 a0 k 0).bind (armillaryref22_Valid.k1)))
def armillaryref22_Valid.Post (I : Imm) (w : World) (r : Bool) (v : Value) (w' : World) : Prop :=
 ∃ (J : Imm), v = .bool r ∧ Got w w' I J []
noncomputable def a12_30n : List Nat := [0, 0, 3, 7, 15, 0, 32, 96, 224, 511, 1023, 2047, 2047, 8191, 16383, 32767, 65535, 131071]
theorem a12_30 : ancs O12_30 [] = a12_30n := by kernel_rfl
theorem a12_30o : drawOk O12_30 a12_30n 13 = true := by kernel_rfl
noncomputable def u12d1l  : List Ld :=
 []
noncomputable def u12d1g (x1 : Int) (g6_ : Nat) (o6_ : Nat) (g7_ : Nat) (o7_ : Nat) : List (Nat × ((Nat → Wt) → Value)) := [(2, fun u => pt g6_ (o6_ + (x1).toNat * 1)), (6, fun u => pt g7_ (o7_ + (0 : Int).toNat * 1)), (10, fun u => .bool true)]
noncomputable def u12d1q (a0 : List (List Int)) (Ap0 : Option Addr) (cp0 : Nat) (x1 : Int) (A6_ : Option Addr) (c6_ : Nat) (g6_ : Nat) (o6_ : Nat) (A7_ : Option Addr) (c7_ : Nat) (g7_ : Nat) (o7_ : Nat) (u : Nat → Wt) : Option (List Value × List (Nat × Value) × List (Nat × Nat)) := qSim Try.prog [(⟨g6_, o6_ + (x1).toNat * 1, none⟩, .slice A6_ ((a0.getD (x1).toNat []).length) c6_), (⟨g7_, o7_ + (0 : Int).toNat * 1, none⟩, .slice A7_ ((a0.getD (0 : Int).toNat []).length) c7_)] [] O12_30 ⟨59, []⟩ (Ld.vl u12d1l) (u12d1g x1 g6_ o6_ g7_ o7_) u [.no, .no, .no, .r 0, .no, .no, .no, .r 1, .no, .no, .no, .no, .no] 0 (O12_30.take 13) [(11, .bool (decide (x1 < (a0.length : Int)))), (0, .slice Ap0 a0.length cp0), (3, i6 x1)]
noncomputable def u12d1s (a0 : List (List Int)) (Ap0 : Option Addr) (cp0 : Nat) (x1 : Int) (A6_ : Option Addr) (c6_ : Nat) (g6_ : Nat) (o6_ : Nat) (A7_ : Option Addr) (c7_ : Nat) (g7_ : Nat) (o7_ : Nat) (u : Nat → Wt) : List Value := [.slice Ap0 a0.length cp0, i6 x1, pt g6_ (o6_ + (x1).toNat * 1), .slice A6_ ((a0.getD (x1).toNat []).length) c6_, i6 ((a0.getD (x1).toNat []).length : Int), .slice Ap0 a0.length cp0, pt g7_ (o7_ + (0 : Int).toNat * 1), .slice A7_ ((a0.getD (0 : Int).toNat []).length) c7_, i6 ((a0.getD (0 : Int).toNat []).length : Int), .bool (((a0.getD (x1).toNat []).length : Int) != ((a0.getD (0 : Int).toNat []).length : Int)), .bool true, undef, undef]
noncomputable def u12d1f (a0 : List (List Int)) (Ap0 : Option Addr) (cp0 : Nat) (x1 : Int) (A6_ : Option Addr) (c6_ : Nat) (g6_ : Nat) (o6_ : Nat) (A7_ : Option Addr) (c7_ : Nat) (g7_ : Nat) (o7_ : Nat) (i : Nat) (u : Nat → Wt) : List (Nat × Value) := foldPut ⟨59, []⟩ [(11, .bool (decide (x1 < (a0.length : Int)))), (0, .slice Ap0 a0.length cp0), (3, i6 x1)] (O12_30.take i) (((u12d1s a0 Ap0 cp0 x1 A6_ c6_ g6_ o6_ A7_ c7_ g7_ o7_) u).take i)
theorem u12d1v (a0 : List (List Int)) (Ap0 : Option Addr) (cp0 : Nat) (x1 : Int) (A6_ : Option Addr) (c6_ : Nat) (g6_ : Nat) (o6_ : Nat) (A7_ : Option Addr) (c7_ : Nat) (g7_ : Nat) (o7_ : Nat) (u : Nat → Wt) : (u12d1q a0 Ap0 cp0 x1 A6_ c6_ g6_ o6_ A7_ c7_ g7_ o7_ u).map (fun x => (x.1, x.2.1)) = some ((u12d1s a0 Ap0 cp0 x1 A6_ c6_ g6_ o6_ A7_ c7_ g7_ o7_) u, (u12d1f a0 Ap0 cp0 x1 A6_ c6_ g6_ o6_ A7_ c7_ g7_ o7_ 13) u) := by kernel_rfl
theorem u12d1e (a0 : List (List Int)) (Ap0 : Option Addr) (cp0 : Nat) (x1 : Int) (A6_ : Option Addr) (c6_ : Nat) (g6_ : Nat) (o6_ : Nat) (A7_ : Option Addr) (c7_ : Nat) (g7_ : Nat) (o7_ : Nat) (u : Nat → Wt) : (u12d1q a0 Ap0 cp0 x1 A6_ c6_ g6_ o6_ A7_ c7_ g7_ o7_ u).map (fun x => x.2.2.map (·.1)) = (u12d1q a0 Ap0 cp0 x1 A6_ c6_ g6_ o6_ A7_ c7_ g7_ o7_ u).map (fun x => x.2.2.map (·.2)) := by kernel_rfl
noncomputable def u12d2l  : List Ld :=
 []
noncomputable def u12d2g (x1 : Int) (g6_ : Nat) (o6_ : Nat) (g7_ : Nat) (o7_ : Nat) : List (Nat × ((Nat → Wt) → Value)) := [(2, fun u => pt g6_ (o6_ + (x1).toNat * 1)), (6, fun u => pt g7_ (o7_ + (0 : Int).toNat * 1)), (10, fun u => .bool false)]
noncomputable def u12d2q (a0 : List (List Int)) (Ap0 : Option Addr) (cp0 : Nat) (x1 : Int) (A6_ : Option Addr) (c6_ : Nat) (g6_ : Nat) (o6_ : Nat) (A7_ : Option Addr) (c7_ : Nat) (g7_ : Nat) (o7_ : Nat) (u : Nat → Wt) : Option (List Value × List (Nat × Value) × List (Nat × Nat)) := qSim Try.prog [(⟨g6_, o6_ + (x1).toNat * 1, none⟩, .slice A6_ ((a0.getD (x1).toNat []).length) c6_), (⟨g7_, o7_ + (0 : Int).toNat * 1, none⟩, .slice A7_ ((a0.getD (0 : Int).toNat []).length) c7_)] [] O12_30 ⟨59, []⟩ (Ld.vl u12d2l) (u12d2g x1 g6_ o6_ g7_ o7_) u [.no, .no, .no, .r 0, .no, .no, .no, .r 1, .no, .no, .no, .no, .no] 0 (O12_30.take 13) [(11, .bool (decide (x1 < (a0.length : Int)))), (0, .slice Ap0 a0.length cp0), (3, i6 x1)]
noncomputable def u12d2s (a0 : List (List Int)) (Ap0 : Option Addr) (cp0 : Nat) (x1 : Int) (A6_ : Option Addr) (c6_ : Nat) (g6_ : Nat) (o6_ : Nat) (A7_ : Option Addr) (c7_ : Nat) (g7_ : Nat) (o7_ : Nat) (u : Nat → Wt) : List Value := [.slice Ap0 a0.length cp0, i6 x1, pt g6_ (o6_ + (x1).toNat * 1), .slice A6_ ((a0.getD (x1).toNat []).length) c6_, i6 ((a0.getD (x1).toNat []).length : Int), .slice Ap0 a0.length cp0, pt g7_ (o7_ + (0 : Int).toNat * 1), .slice A7_ ((a0.getD (0 : Int).toNat []).length) c7_, i6 ((a0.getD (0 : Int).toNat []).length : Int), .bool (((a0.getD (x1).toNat []).length : Int) != ((a0.getD (0 : Int).toNat []).length : Int)), .bool false, .slice Ap0 a0.length cp0, i6 x1]
noncomputable def u12d2f (a0 : List (List Int)) (Ap0 : Option Addr) (cp0 : Nat) (x1 : Int) (A6_ : Option Addr) (c6_ : Nat) (g6_ : Nat) (o6_ : Nat) (A7_ : Option Addr) (c7_ : Nat) (g7_ : Nat) (o7_ : Nat) (i : Nat) (u : Nat → Wt) : List (Nat × Value) := foldPut ⟨59, []⟩ [(11, .bool (decide (x1 < (a0.length : Int)))), (0, .slice Ap0 a0.length cp0), (3, i6 x1)] (O12_30.take i) (((u12d2s a0 Ap0 cp0 x1 A6_ c6_ g6_ o6_ A7_ c7_ g7_ o7_) u).take i)
theorem u12d2v (a0 : List (List Int)) (Ap0 : Option Addr) (cp0 : Nat) (x1 : Int) (A6_ : Option Addr) (c6_ : Nat) (g6_ : Nat) (o6_ : Nat) (A7_ : Option Addr) (c7_ : Nat) (g7_ : Nat) (o7_ : Nat) (u : Nat → Wt) : (u12d2q a0 Ap0 cp0 x1 A6_ c6_ g6_ o6_ A7_ c7_ g7_ o7_ u).map (fun x => (x.1, x.2.1)) = some ((u12d2s a0 Ap0 cp0 x1 A6_ c6_ g6_ o6_ A7_ c7_ g7_ o7_) u, (u12d2f a0 Ap0 cp0 x1 A6_ c6_ g6_ o6_ A7_ c7_ g7_ o7_ 13) u) := by kernel_rfl
theorem u12d2e (a0 : List (List Int)) (Ap0 : Option Addr) (cp0 : Nat) (x1 : Int) (A6_ : Option Addr) (c6_ : Nat) (g6_ : Nat) (o6_ : Nat) (A7_ : Option Addr) (c7_ : Nat) (g7_ : Nat) (o7_ : Nat) (u : Nat → Wt) : (u12d2q a0 Ap0 cp0 x1 A6_ c6_ g6_ o6_ A7_ c7_ g7_ o7_ u).map (fun x => x.2.2.map (·.1)) = (u12d2q a0 Ap0 cp0 x1 A6_ c6_ g6_ o6_ A7_ c7_ g7_ o7_ u).map (fun x => x.2.2.map (·.2)) := by kernel_rfl
theorem armillaryref22_Valid.calls (k : Nat) (I0 : Imm) (a0 : List (List Int)) (Ap0 : Option Addr) (cp0 : Nat) (w : World) (hI : I0.at_ w) (hlp0 : a0.length ≤ cp0) (hrp0 : Rd (Ty.slice (Ty.int .i64)) I0 Ap0 a0) (r : Bool) (h : armillaryref22_Valid.f k a0 = some r) :
  Calls Try.prog 12 [.slice Ap0 a0.length cp0].toArray w fun e w' => ∃ v, e = .returned v ∧ armillaryref22_Valid.Post I0 w r v w' := by
 have H : (if (a0.length : Int) > 12 then (some false) else ((armillaryref22_Valid.l1 a0 k 0).bind (armillaryref22_Valid.k1))) = some r := h
 clear h
 refine calls_body Try.func12 (by kernel_rfl) 59 (by kernel_rfl) (by kernel_rfl) ⟨w, fun _ => False, I0⟩ I0 [] [(0, .slice Ap0 a0.length cp0)] (by kernel_rfl) (Sat.start w _ I0 hI) ?_
 generalize w.heap.size = nx0
 show OK _ K12_0 _ _ _ _ _ _ _ _
 refine OK.sr ?_
 refine RL.st 1 [(0, .slice Ap0 a0.length cp0)] ?_
 refine OK.sq ?_
 refine OK.sr ?_
 refine RL.st 3 [(7, .bool (decide ((a0.length : Int) > 12))), (0, .slice Ap0 a0.length cp0)] ?_
 refine OK.cd (decide ((a0.length : Int) > 12)) (fun hb => ?_) (fun hb => ?_)
 ·skip
  have hc := (of_decide_eq_true hb)
  rw [if_pos hc] at H
  clear hb
  refine OK.sr ?_
  refine RL.st 1 [(2, .bool false)] ?_
  refine OK.re ?_
  refine QN.thenR ?_
  obtain rfl := Option.some.inj H
  refine QN.body rfl [] (RFacts.nil _ _ _) (.no) (.bool false) (by kernel_rfl) (by kernel_rfl) (by kernel_rfl) ?_ _ (.inr rfl)
  exact fun w' hs' => ⟨_, rfl, I0, rfl, hs'.got _ .slnil⟩
 ·skip
  have hc := (of_decide_eq_false hb)
  rw [if_neg hc] at H
  clear hb
  refine OK.skt ?_
  refine OK.sq ?_
  refine OK.sr ?_
  refine RL.st 1 [(3, i6 0), (0, .slice Ap0 a0.length cp0)] ?_
  refine OK.join (fun K' I' _ L' X' => K' = [] ∧ L' = [] ∧ X' = [] ∧ Imm.le I0 I' ∧ armillaryref22_Valid.k1 (Sum.inl ()) = some r) ?_ ?_
  ·rintro _ I1 nx1 _ _ ⟨rfl, rfl, rfl, hi1, H⟩
   rw [armillaryref22_Valid.k1] at H
   refine QN.then_ ?_
   refine OK.sr ?_
   refine RL.st 1 [(2, .bool true)] ?_
   refine OK.re ?_
   obtain rfl := Option.some.inj H
   refine QN.body rfl [] (RFacts.nil _ _ _) (.no) (.bool true) (by kernel_rfl) (by kernel_rfl) (by kernel_rfl) ?_ _ (.inr rfl)
   exact fun w' hs' => ⟨_, rfl, I1, rfl, hs'.got _ .slnil⟩
  ·intro Q_1 hJ1 hQ1
   obtain ⟨y1, H, HK1⟩ := bnd H
   refine OK.bk 0 ?_
   refine OK.sub (K' := [(0, .slice Ap0 a0.length cp0), (3, i6 0)]) (L' := []) (by kernel_rfl) .slnil (.refl _) ?_
   refine OK.lp (fun n_ K' I' _ L' X' => ∃ (x1 : Int), K' = [(0, .slice Ap0 a0.length cp0), (3, i6 x1)] ∧ L' = [] ∧ X' = [] ∧ Imm.le I0 I' ∧ armillaryref22_Valid.l1 a0 n_ x1 = some y1) k ⟨0, rfl, rfl, rfl, (Imm.le_refl _), H⟩ ?_ ?_
   ·rintro _ _ _ _ _ ⟨x1, rfl, rfl, rfl, _, H⟩
    cases H
   ·rintro kq1 _ I2 nx2 _ _ ⟨x1, rfl, rfl, rfl, hi2, H⟩ Q_l1 hJ2 hQ2
    rw [armillaryref22_Valid.l1] at H
    refine OK.sq ?_
    refine OK.sr ?_
    refine RL.st 4 [(11, .bool (decide (x1 < (a0.length : Int)))), (0, .slice Ap0 a0.length cp0), (3, i6 x1)] ?_
    refine OK.cd (decide (x1 < (a0.length : Int))) (fun hb => ?_) (fun hb => ?_)
    ·skip
     have hc := (of_decide_eq_true hb)
     rw [if_pos hc] at H
     clear hb
     refine OK.skt ?_
     refine OK.sq ?_
     refine OK.join (fun K' I' _ L' X' => K' = [(0, .slice Ap0 a0.length cp0), (3, i6 x1)] ∧ L' = [] ∧ X' = [] ∧ Imm.le I2 I' ∧ (armillaryref22_Valid.l1 a0 kq1 (W .i64 (x1 + 1))) = some y1) ?_ ?_
     ·rintro _ I3 nx3 _ _ ⟨rfl, rfl, rfl, hi3, H⟩
      replace H : (armillaryref22_Valid.l1 a0 kq1 (W .i64 (x1 + 1))) = some y1 := H
      refine QN.then_ ?_
      refine OK.rg ?_
      refine RL.s 3 [(3, i6 (W .i64 (x1 + 1))), (0, .slice Ap0 a0.length cp0)] ?_
      refine RL.nil (by kernel_rfl) ?_
      exact QN.sb (hJ2 _ _ _ _ _ ⟨W .i64 (x1 + 1), rfl, rfl, rfl, (Imm.le_trans hi2 hi3), H⟩) .slnil (.refl _)
     ·intro Q_2 hJ3 hQ3
      obtain ⟨y2, H, HK2⟩ := bnd H
      refine OK.bk 1 ?_
      refine OK.sq ?_
      refine OK.sq ?_
      refine OK.join (fun K' I' _ L' X' => ∃ (x2 : Bool), K' = [(0, .slice Ap0 a0.length cp0), (3, i6 x1), (31, .bool x2)] ∧ L' = [] ∧ X' = [] ∧ Imm.le I2 I' ∧ armillaryref22_Valid.k5 a0 x1 kq1 x2 = some y2) ?_ ?_
      ·rintro _ I4 nx4 _ _ ⟨x2, rfl, rfl, rfl, hi4, H⟩
       rw [armillaryref22_Valid.k5] at H
       refine QN.then_ ?_
       refine OK.cd x2 (fun hb => ?_) (fun hb => ?_)
       ·skip
        have hc := hb
        rw [if_pos hc] at H
        clear hb
        refine OK.sr ?_
        refine RL.st 1 [(2, .bool false)] ?_
        refine OK.re ?_
        refine QN.thenR ?_
        refine QN.blkR ?_
        refine QN.outR hQ3 ?_
        refine QN.thenR ?_
        refine QN.outR hQ2 ?_
        refine QN.blkR ?_
        refine QN.outR hQ1 ?_
        refine QN.thenR ?_
        obtain rfl := Option.some.inj H
        replace H : some (Sum.inr false) = some y1 := HK2
        obtain rfl := Option.some.inj H
        replace H : some false = some r := HK1
        obtain rfl := Option.some.inj H
        refine QN.body rfl [] (RFacts.nil _ _ _) (.no) (.bool false) (by kernel_rfl) (by kernel_rfl) (by kernel_rfl) ?_ _ (.inr rfl)
        exact fun w' hs' => ⟨_, rfl, I4, rfl, hs'.got _ .slnil⟩
       ·skip
        have hc := (Bool.eq_false_iff.1 hb)
        rw [if_neg hc] at H
        clear hb
        refine OK.skt ?_
        refine OK.sr ?_
        refine RL.st 1 [(4, i6 0), (0, .slice Ap0 a0.length cp0), (3, i6 x1)] ?_
        refine OK.join (fun K' I' _ L' X' => K' = [(0, .slice Ap0 a0.length cp0), (3, i6 x1)] ∧ L' = [] ∧ X' = [] ∧ Imm.le I4 I' ∧ armillaryref22_Valid.k3 (Sum.inl ()) = some y2) ?_ ?_
        ·rintro _ I5 nx5 _ _ ⟨rfl, rfl, rfl, hi5, H⟩
         rw [armillaryref22_Valid.k3] at H
         refine QN.blkN ?_
         obtain rfl := Option.some.inj H
         exact QN.sb (hJ3 _ _ _ _ _ ⟨rfl, rfl, rfl, (Imm.le_trans hi4 hi5), HK2⟩) .slnil (.refl _)
        ·intro Q_3 hJ5 hQ5
         obtain ⟨y4, H, HK4⟩ := bnd H
         refine OK.bk 2 ?_
         refine OK.sub (K' := [(0, .slice Ap0 a0.length cp0), (3, i6 x1), (4, i6 0)]) (L' := []) (by kernel_rfl) .slnil (.refl _) ?_
         refine OK.lp (fun n_ K' I' _ L' X' => ∃ (x3 : Int), K' = [(0, .slice Ap0 a0.length cp0), (3, i6 x1), (4, i6 x3)] ∧ L' = [] ∧ X' = [] ∧ Imm.le I4 I' ∧ armillaryref22_Valid.l2 a0 x1 n_ x3 = some y4) kq1 ⟨0, rfl, rfl, rfl, (Imm.le_refl _), H⟩ ?_ ?_
         ·rintro _ _ _ _ _ ⟨x3, rfl, rfl, rfl, _, H⟩
          cases H
         ·rintro kq2 _ I6 nx6 _ _ ⟨x3, rfl, rfl, rfl, hi6, H⟩ Q_l2 hJ6 hQ6
          rw [armillaryref22_Valid.l2] at H
          refine OK.sq ?_
          refine OK.sr ?_
          refine RL.s 3 [(34, i6 x1), (33, .slice Ap0 a0.length cp0), (32, i6 x3), (0, .slice Ap0 a0.length cp0), (3, i6 x1), (4, i6 x3)] ?_
          obtain ⟨hib0, H⟩ := ifs H
          obtain ⟨hib1, H⟩ := ifs H
          obtain ⟨g1_, o1_, hA1_, A1_, c1_, hl1_, hr1_, hc1_⟩ := Ty.slice_at (Rd.ext (Imm.le_trans (Imm.le_trans hi2 hi4) hi6) hrp0) x1 hib0 hib1
          refine RL.idx 1 .i64 x1 hA1_ a0.length cp0 (some 35) (by kernel_rfl) (by kernel_rfl) (T := 22) (e := 24) (by kernel_rfl) (by kernel_rfl) hib0 hib1 (K' := [(35, pt g1_ (o1_ + (x1).toNat * 1)), (34, i6 x1), (33, .slice Ap0 a0.length cp0), (32, i6 x3), (0, .slice Ap0 a0.length cp0), (3, i6 x1), (4, i6 x3)]) (by kernel_rfl) ?_
          refine RL.simK (K' := [(38, .bool (decide (x3 < ((a0.getD (x1).toNat []).length : Int)))), (0, .slice Ap0 a0.length cp0), (3, i6 x1), (4, i6 x3)]) [(⟨g1_, o1_ + (x1).toNat * 1, none⟩, .slice A1_ ((a0.getD (x1).toNat []).length) c1_)] (RFacts.imm (hc1_ 0 _ rfl) (RFacts.nil _ _ _)) 3 [.r 0, .no, .no] (by kernel_rfl) (by kernel_rfl) ?_
          refine RL.nt ?_
          refine OK.cd (decide (x3 < ((a0.getD (x1).toNat []).length : Int))) (fun hb => ?_) (fun hb => ?_)
          ·skip
           have hc := (of_decide_eq_true hb)
           rw [if_pos hc] at H
           clear hb
           refine OK.skt ?_
           refine OK.sq ?_
           refine OK.bk 3 ?_
           refine OK.sq ?_
           refine OK.join (fun K' I' _ L' X' => ∃ (x4 : Bool), K' = [(0, .slice Ap0 a0.length cp0), (3, i6 x1), (4, i6 x3), (58, .bool x4)] ∧ L' = [] ∧ X' = [] ∧ Imm.le I6 I' ∧ (if x4 = true then (some (Sum.inr false)) else (armillaryref22_Valid.l2 a0 x1 kq2 (W .i64 (x3 + 1)))) = some y4) ?_ ?_
           ·rintro _ I7 nx7 _ _ ⟨x4, rfl, rfl, rfl, hi7, H⟩
            replace H : (if x4 = true then (some (Sum.inr false)) else (armillaryref22_Valid.l2 a0 x1 kq2 (W .i64 (x3 + 1)))) = some y4 := H
            refine QN.then_ ?_
            refine OK.cd x4 (fun hb => ?_) (fun hb => ?_)
            ·skip
             have hc := hb
             rw [if_pos hc] at H
             clear hb
             refine OK.sr ?_
             refine RL.st 1 [(2, .bool false)] ?_
             refine OK.re ?_
             refine QN.blkR ?_
             refine QN.thenR ?_
             refine QN.outR hQ6 ?_
             refine QN.blkR ?_
             refine QN.outR hQ5 ?_
             refine QN.blkR ?_
             refine QN.outR hQ3 ?_
             refine QN.thenR ?_
             refine QN.outR hQ2 ?_
             refine QN.blkR ?_
             refine QN.outR hQ1 ?_
             refine QN.thenR ?_
             obtain rfl := Option.some.inj H
             replace H : some (Sum.inr false) = some y2 := HK4
             obtain rfl := Option.some.inj H
             replace H : some (Sum.inr false) = some y1 := HK2
             obtain rfl := Option.some.inj H
             replace H : some false = some r := HK1
             obtain rfl := Option.some.inj H
             refine QN.body rfl [] (RFacts.nil _ _ _) (.no) (.bool false) (by kernel_rfl) (by kernel_rfl) (by kernel_rfl) ?_ _ (.inr rfl)
             exact fun w' hs' => ⟨_, rfl, I7, rfl, hs'.got _ .slnil⟩
            ·skip
             have hc := (Bool.eq_false_iff.1 hb)
             rw [if_neg hc] at H
             clear hb
             refine OK.sk ?_
             refine QN.blkN ?_
             refine QN.then_ ?_
             refine OK.rg ?_
             refine RL.s 3 [(4, i6 (W .i64 (x3 + 1))), (0, .slice Ap0 a0.length cp0), (3, i6 x1)] ?_
             refine RL.nil (by kernel_rfl) ?_
             exact QN.sb (hJ6 _ _ _ _ _ ⟨W .i64 (x3 + 1), rfl, rfl, rfl, (Imm.le_trans hi6 hi7), H⟩) .slnil (.refl _)
           ·intro Q_4 hJ7 hQ7
            obtain ⟨y5, H, HK5⟩ := bnd H
            refine OK.rg ?_
            refine RL.s 2 [(42, i6 x1), (41, .slice Ap0 a0.length cp0), (0, .slice Ap0 a0.length cp0), (3, i6 x1), (4, i6 x3)] ?_
            obtain ⟨hib0, H⟩ := ifs H
            obtain ⟨hib1, H⟩ := ifs H
            obtain ⟨g2_, o2_, hA2_, A2_, c2_, hl2_, hr2_, hc2_⟩ := Ty.slice_at (Rd.ext (Imm.le_trans (Imm.le_trans hi2 hi4) hi6) hrp0) x1 hib0 hib1
            refine RL.idx 1 .i64 x1 hA2_ a0.length cp0 (some 43) (by kernel_rfl) (by kernel_rfl) (T := 22) (e := 24) (by kernel_rfl) (by kernel_rfl) hib0 hib1 (K' := [(43, pt g2_ (o2_ + (x1).toNat * 1)), (42, i6 x1), (41, .slice Ap0 a0.length cp0), (0, .slice Ap0 a0.length cp0), (3, i6 x1), (4, i6 x3)]) (by kernel_rfl) ?_
            refine RL.simK (K' := [(45, i6 x3), (44, .slice A2_ ((a0.getD (x1).toNat []).length) c2_), (0, .slice Ap0 a0.length cp0), (3, i6 x1), (4, i6 x3)]) [(⟨g2_, o2_ + (x1).toNat * 1, none⟩, .slice A2_ ((a0.getD (x1).toNat []).length) c2_)] (RFacts.imm (hc2_ 0 _ rfl) (RFacts.nil _ _ _)) 2 [.r 0, .no] (by kernel_rfl) (by kernel_rfl) ?_
            obtain ⟨hib0, H⟩ := ifs H
            obtain ⟨hib1, H⟩ := ifs H
            obtain ⟨g3_, o3_, hA3_, hc3_⟩ := Ty.int_at hr2_ x3 hib0 hib1
            refine RL.idx 1 .i64 x3 hA3_ ((a0.getD (x1).toNat []).length) c2_ (some 46) (by kernel_rfl) (by kernel_rfl) (T := 24) (e := 2) (by kernel_rfl) (by kernel_rfl) hib0 hib1 (K' := [(46, pt g3_ (o3_ + (x3).toNat * 1)), (45, i6 x3), (44, .slice A2_ ((a0.getD (x1).toNat []).length) c2_), (0, .slice Ap0 a0.length cp0), (3, i6 x1), (4, i6 x3)]) (by kernel_rfl) ?_
            refine RL.simK (K' := [(49, .bool (decide (((a0.getD (x1).toNat []).getD (x3).toNat 0) < 0))), (0, .slice Ap0 a0.length cp0), (3, i6 x1), (4, i6 x3)]) [(⟨g3_, o3_ + (x3).toNat * 1, none⟩, i6 ((a0.getD (x1).toNat []).getD (x3).toNat 0))] (RFacts.imm (hc3_ 0 _ rfl) (RFacts.nil _ _ _)) 3 [.r 0, .no, .no] (by kernel_rfl) (by kernel_rfl) ?_
            refine RL.cases (decide (((a0.getD (x1).toNat []).getD (x3).toNat 0) < 0)) (fun hb => ?_) (fun hb => ?_)
            ·have hc := (of_decide_eq_true hb)
             rw [hb]
             rw [if_pos hc] at H; clear hb
             refine RL.s 9 [(58, .bool true), (0, .slice Ap0 a0.length cp0), (3, i6 x1), (4, i6 x3)] ?_
             refine RL.nil (by kernel_rfl) ?_
             obtain rfl := Option.some.inj H
             exact QN.sb (hJ7 _ _ _ _ _ ⟨true, rfl, rfl, rfl, (Imm.le_refl _), HK5⟩) .slnil (.refl _)
            ·have hc := (of_decide_eq_false hb)
             rw [hb]
             rw [if_neg hc] at H; clear hb
             refine RL.s 2 [(51, i6 x1), (50, .slice Ap0 a0.length cp0), (49, .bool false), (0, .slice Ap0 a0.length cp0), (3, i6 x1), (4, i6 x3)] ?_
             obtain ⟨hib0, H⟩ := ifs H
             obtain ⟨hib1, H⟩ := ifs H
             obtain ⟨g4_, o4_, hA4_, A4_, c4_, hl4_, hr4_, hc4_⟩ := Ty.slice_at (Rd.ext (Imm.le_trans (Imm.le_trans hi2 hi4) hi6) hrp0) x1 hib0 hib1
             refine RL.idx 1 .i64 x1 hA4_ a0.length cp0 (some 52) (by kernel_rfl) (by kernel_rfl) (T := 22) (e := 24) (by kernel_rfl) (by kernel_rfl) hib0 hib1 (K' := [(52, pt g4_ (o4_ + (x1).toNat * 1)), (51, i6 x1), (50, .slice Ap0 a0.length cp0), (49, .bool false), (0, .slice Ap0 a0.length cp0), (3, i6 x1), (4, i6 x3)]) (by kernel_rfl) ?_
             refine RL.simK (K' := [(54, i6 x3), (53, .slice A4_ ((a0.getD (x1).toNat []).length) c4_), (49, .bool false), (0, .slice Ap0 a0.length cp0), (3, i6 x1), (4, i6 x3)]) [(⟨g4_, o4_ + (x1).toNat * 1, none⟩, .slice A4_ ((a0.getD (x1).toNat []).length) c4_)] (RFacts.imm (hc4_ 0 _ rfl) (RFacts.nil _ _ _)) 2 [.r 0, .no] (by kernel_rfl) (by kernel_rfl) ?_
             obtain ⟨hib0, H⟩ := ifs H
             obtain ⟨hib1, H⟩ := ifs H
             obtain ⟨g5_, o5_, hA5_, hc5_⟩ := Ty.int_at hr4_ x3 hib0 hib1
             refine RL.idx 1 .i64 x3 hA5_ ((a0.getD (x1).toNat []).length) c4_ (some 55) (by kernel_rfl) (by kernel_rfl) (T := 24) (e := 2) (by kernel_rfl) (by kernel_rfl) hib0 hib1 (K' := [(55, pt g5_ (o5_ + (x3).toNat * 1)), (54, i6 x3), (53, .slice A4_ ((a0.getD (x1).toNat []).length) c4_), (49, .bool false), (0, .slice Ap0 a0.length cp0), (3, i6 x1), (4, i6 x3)]) (by kernel_rfl) ?_
             refine RL.simK (K' := [(58, .bool (decide (((a0.getD (x1).toNat []).getD (x3).toNat 0) > 1073741824))), (0, .slice Ap0 a0.length cp0), (3, i6 x1), (4, i6 x3)]) [(⟨g5_, o5_ + (x3).toNat * 1, none⟩, i6 ((a0.getD (x1).toNat []).getD (x3).toNat 0))] (RFacts.imm (hc5_ 0 _ rfl) (RFacts.nil _ _ _)) 3 [.r 0, .no, .no] (by kernel_rfl) (by kernel_rfl) ?_
             refine RL.nil (by kernel_rfl) ?_
             obtain rfl := Option.some.inj H
             exact QN.sb (hJ7 _ _ _ _ _ ⟨(decide (((a0.getD (x1).toNat []).getD (x3).toNat 0) > 1073741824)), rfl, rfl, rfl, (Imm.le_refl _), HK5⟩) .slnil (.refl _)
          ·skip
           have hc := (of_decide_eq_false hb)
           rw [if_neg hc] at H
           clear hb
           refine OK.ex 2 ?_
           refine QN.thenE ?_
           refine QN.outE hQ6 ?_
           refine QN.blkE ?_
           obtain rfl := Option.some.inj H
           exact QN.sb (hJ5 _ _ _ _ _ ⟨rfl, rfl, rfl, hi6, HK4⟩) .slnil (.refl _)
      ·intro Q_5 hJ4 hQ4
       obtain ⟨y3, H, HK3⟩ := bnd H
       obtain ⟨hi0_1, H⟩ := ifs H
       obtain ⟨hi1_1, H⟩ := ifs H
       obtain ⟨g6_, o6_, hA6_, A6_, c6_, hl6_, hr6_, hc6_⟩ := Ty.slice_at (Rd.ext hi2 hrp0) x1 hi0_1 hi1_1
       have hi0_2 : (0 : Int) ≤ 0 := by decide
       obtain ⟨hi1_2, H⟩ := ifs H
       obtain ⟨g7_, o7_, hA7_, A7_, c7_, hl7_, hr7_, hc7_⟩ := Ty.slice_at (Rd.ext hi2 hrp0) 0 hi0_2 hi1_2
       refine OK.cases (((a0.getD (x1).toNat []).length : Int) != ((a0.getD (0 : Int).toNat []).length : Int)) (fun hb1 => ?_) (fun hb1 => ?_)
       ·have hc1 := (bne_iff_ne.1 hb1)
        rw [if_pos hc1] at H
        refine OK.drawnC 6 13 O12_30 a12_30n (by kernel_rfl) (by kernel_rfl) u12d1l (u12d1g x1 g6_ o6_ g7_ o7_) [(⟨g6_, o6_ + (x1).toNat * 1, none⟩, .slice A6_ ((a0.getD (x1).toNat []).length) c6_), (⟨g7_, o7_ + (0 : Int).toNat * 1, none⟩, .slice A7_ ((a0.getD (0 : Int).toNat []).length) c7_)] (RI.cons (hc6_ 0 _ rfl) (RI.cons (hc7_ 0 _ rfl) (RI.nil _))) [.no, .no, .no, .r 0, .no, .no, .no, .r 1, .no, .no, .no, .no, .no] a12_30 a12_30o (by kernel_rfl) (by kernel_rfl) (u12d1s a0 Ap0 cp0 x1 A6_ c6_ g6_ o6_ A7_ c7_ g7_ o7_) (u12d1f a0 Ap0 cp0 x1 A6_ c6_ g6_ o6_ A7_ c7_ g7_ o7_ 13) (u12d1v a0 Ap0 cp0 x1 A6_ c6_ g6_ o6_ A7_ c7_ g7_ o7_) (u12d1e a0 Ap0 cp0 x1 A6_ c6_ g6_ o6_ A7_ c7_ g7_ o7_) [] framesOk.nil ?_ [u12d1f a0 Ap0 cp0 x1 A6_ c6_ g6_ o6_ A7_ c7_ g7_ o7_ 2, u12d1f a0 Ap0 cp0 x1 A6_ c6_ g6_ o6_ A7_ c7_ g7_ o7_ 6, u12d1f a0 Ap0 cp0 x1 A6_ c6_ g6_ o6_ A7_ c7_ g7_ o7_ 10] (framesOk.cons (fun u => rfl) (framesOk.cons (fun u => rfl) (framesOk.cons (fun u => rfl) framesOk.nil))) ?_ ?_
        ·refine LoudsG.nil
        ·refine Givens.cons (fun u w =>  ?_) (fun _ _ _ => rfl) (Givens.cons (fun u w =>  ?_) (fun _ _ _ => rfl) (Givens.cons (fun u w =>  ?_) (fun _ _ _ => rfl) (Givens.nil)))
         ·exact giv_idx (T := 22) (e := 24) 1 .i64 x1 hA6_ a0.length cp0 (by kernel_rfl) (by kernel_rfl) (by kernel_rfl) hi0_1 hi1_1 w
         ·exact giv_idx (T := 22) (e := 24) 1 .i64 0 hA7_ a0.length cp0 (by kernel_rfl) (by kernel_rfl) (by kernel_rfl) hi0_2 hi1_2 w
         ·exact giv_run (v := .bool (((a0.getD (x1).toNat []).length : Int) != ((a0.getD (0 : Int).toNat []).length : Int))) (by kernel_rfl) (by rw [hb1]; try rfl) w
        intro u I8 nx8 hi8 hF
        clear hF
        refine RL.norm (K' := [(26, undef), (25, undef), (24, .bool true), (23, .bool (((a0.getD (x1).toNat []).length : Int) != ((a0.getD (0 : Int).toNat []).length : Int))), (22, i6 ((a0.getD (0 : Int).toNat []).length : Int)), (21, .slice A7_ ((a0.getD (0 : Int).toNat []).length) c7_), (20, pt g7_ (o7_ + (0 : Int).toNat * 1)), (19, .slice Ap0 a0.length cp0), (18, i6 ((a0.getD (x1).toNat []).length : Int)), (17, .slice A6_ ((a0.getD (x1).toNat []).length) c6_), (16, pt g6_ (o6_ + (x1).toNat * 1)), (15, i6 x1), (14, .slice Ap0 a0.length cp0), (11, .bool (decide (x1 < (a0.length : Int)))), (0, .slice Ap0 a0.length cp0), (3, i6 x1)]) (X' := []) (by kernel_rfl) rfl rfl rfl ?_
        refine RL.s 5 [(31, .bool true), (0, .slice Ap0 a0.length cp0), (3, i6 x1)] ?_
        refine RL.nil (by kernel_rfl) ?_
        obtain rfl := Option.some.inj H
        exact QN.sb (hJ4 _ _ _ _ _ ⟨true, rfl, rfl, rfl, hi8, HK3⟩) .slnil (.refl _)
       ·have hc1 := (not_not_intro (bne_eq_false_iff_eq.1 hb1))
        rw [if_neg hc1] at H
        refine OK.drawnC 6 13 O12_30 a12_30n (by kernel_rfl) (by kernel_rfl) u12d2l (u12d2g x1 g6_ o6_ g7_ o7_) [(⟨g6_, o6_ + (x1).toNat * 1, none⟩, .slice A6_ ((a0.getD (x1).toNat []).length) c6_), (⟨g7_, o7_ + (0 : Int).toNat * 1, none⟩, .slice A7_ ((a0.getD (0 : Int).toNat []).length) c7_)] (RI.cons (hc6_ 0 _ rfl) (RI.cons (hc7_ 0 _ rfl) (RI.nil _))) [.no, .no, .no, .r 0, .no, .no, .no, .r 1, .no, .no, .no, .no, .no] a12_30 a12_30o (by kernel_rfl) (by kernel_rfl) (u12d2s a0 Ap0 cp0 x1 A6_ c6_ g6_ o6_ A7_ c7_ g7_ o7_) (u12d2f a0 Ap0 cp0 x1 A6_ c6_ g6_ o6_ A7_ c7_ g7_ o7_ 13) (u12d2v a0 Ap0 cp0 x1 A6_ c6_ g6_ o6_ A7_ c7_ g7_ o7_) (u12d2e a0 Ap0 cp0 x1 A6_ c6_ g6_ o6_ A7_ c7_ g7_ o7_) [] framesOk.nil ?_ [u12d2f a0 Ap0 cp0 x1 A6_ c6_ g6_ o6_ A7_ c7_ g7_ o7_ 2, u12d2f a0 Ap0 cp0 x1 A6_ c6_ g6_ o6_ A7_ c7_ g7_ o7_ 6, u12d2f a0 Ap0 cp0 x1 A6_ c6_ g6_ o6_ A7_ c7_ g7_ o7_ 10] (framesOk.cons (fun u => rfl) (framesOk.cons (fun u => rfl) (framesOk.cons (fun u => rfl) framesOk.nil))) ?_ ?_
        ·refine LoudsG.nil
        ·refine Givens.cons (fun u w =>  ?_) (fun _ _ _ => rfl) (Givens.cons (fun u w =>  ?_) (fun _ _ _ => rfl) (Givens.cons (fun u w =>  ?_) (fun _ _ _ => rfl) (Givens.nil)))
         ·exact giv_idx (T := 22) (e := 24) 1 .i64 x1 hA6_ a0.length cp0 (by kernel_rfl) (by kernel_rfl) (by kernel_rfl) hi0_1 hi1_1 w
         ·exact giv_idx (T := 22) (e := 24) 1 .i64 0 hA7_ a0.length cp0 (by kernel_rfl) (by kernel_rfl) (by kernel_rfl) hi0_2 hi1_2 w
         ·exact giv_run (v := .bool (((a0.getD (x1).toNat []).length : Int) != ((a0.getD (0 : Int).toNat []).length : Int))) (by kernel_rfl) (by rw [hb1]; try rfl) w
        intro u I9 nx9 hi9 hF
        clear hF
        refine RL.norm (K' := [(26, i6 x1), (25, .slice Ap0 a0.length cp0), (24, .bool false), (23, .bool (((a0.getD (x1).toNat []).length : Int) != ((a0.getD (0 : Int).toNat []).length : Int))), (22, i6 ((a0.getD (0 : Int).toNat []).length : Int)), (21, .slice A7_ ((a0.getD (0 : Int).toNat []).length) c7_), (20, pt g7_ (o7_ + (0 : Int).toNat * 1)), (19, .slice Ap0 a0.length cp0), (18, i6 ((a0.getD (x1).toNat []).length : Int)), (17, .slice A6_ ((a0.getD (x1).toNat []).length) c6_), (16, pt g6_ (o6_ + (x1).toNat * 1)), (15, i6 x1), (14, .slice Ap0 a0.length cp0), (11, .bool (decide (x1 < (a0.length : Int)))), (0, .slice Ap0 a0.length cp0), (3, i6 x1)]) (X' := []) (by kernel_rfl) rfl rfl rfl ?_
        obtain ⟨hib0, H⟩ := ifs H
        obtain ⟨hib1, H⟩ := ifs H
        obtain ⟨g8_, o8_, hA8_, A8_, c8_, hl8_, hr8_, hc8_⟩ := Ty.slice_at (Rd.ext (Imm.le_trans hi2 hi9) hrp0) x1 hib0 hib1
        refine RL.idx 1 .i64 x1 hA8_ a0.length cp0 (some 27) (by kernel_rfl) (by kernel_rfl) (T := 22) (e := 24) (by kernel_rfl) (by kernel_rfl) hib0 hib1 (K' := [(27, pt g8_ (o8_ + (x1).toNat * 1)), (26, i6 x1), (25, .slice Ap0 a0.length cp0), (24, .bool false), (23, .bool (((a0.getD (x1).toNat []).length : Int) != ((a0.getD (0 : Int).toNat []).length : Int))), (22, i6 ((a0.getD (0 : Int).toNat []).length : Int)), (21, .slice A7_ ((a0.getD (0 : Int).toNat []).length) c7_), (20, pt g7_ (o7_ + (0 : Int).toNat * 1)), (19, .slice Ap0 a0.length cp0), (18, i6 ((a0.getD (x1).toNat []).length : Int)), (17, .slice A6_ ((a0.getD (x1).toNat []).length) c6_), (16, pt g6_ (o6_ + (x1).toNat * 1)), (15, i6 x1), (14, .slice Ap0 a0.length cp0), (11, .bool (decide (x1 < (a0.length : Int)))), (0, .slice Ap0 a0.length cp0), (3, i6 x1)]) (by kernel_rfl) ?_
        refine RL.simK (K' := [(31, .bool (decide (((a0.getD (x1).toNat []).length : Int) > 12))), (0, .slice Ap0 a0.length cp0), (3, i6 x1)]) [(⟨g8_, o8_ + (x1).toNat * 1, none⟩, .slice A8_ ((a0.getD (x1).toNat []).length) c8_)] (RFacts.imm (hc8_ 0 _ rfl) (RFacts.nil _ _ _)) 4 [.r 0, .no, .no, .no] (by kernel_rfl) (by kernel_rfl) ?_
        refine RL.nil (by kernel_rfl) ?_
        obtain rfl := Option.some.inj H
        exact QN.sb (hJ4 _ _ _ _ _ ⟨(decide (((a0.getD (x1).toNat []).length : Int) > 12)), rfl, rfl, rfl, hi9, HK3⟩) .slnil (.refl _)
    ·skip
     have hc := (of_decide_eq_false hb)
     rw [if_neg hc] at H
     clear hb
     refine OK.ex 0 ?_
     refine QN.thenE ?_
     refine QN.outE hQ2 ?_
     refine QN.blkE ?_
     obtain rfl := Option.some.inj H
     exact QN.sb (hJ1 _ _ _ _ _ ⟨rfl, rfl, rfl, hi2, HK1⟩) .slnil (.refl _)

end Go.Proofs.Ytdmhbcgmimfjcaa
namespace Go.Proofs.Ytdmhbcgmimfjcaa
open Go Go.Proofs.Ytdmhbcgmimfjcaa.RW
set_option linter.unusedVariables false
set_option maxRecDepth 100000
set_option maxHeartbeats 8000000

/-! ### armillaryref22_Value: function 16, armillary/armillaryref22.Value -/
noncomputable def K16_0 : Code := cBody Try.f16
noncomputable def O16_40 : List Oper := cOps (cL (cL (cR (cL (cL (cR (cL (cL (cR (cL (cR (cR (cR K16_0)))))))))))))
noncomputable def O16_64 : List Oper := cOps (cL (cL (cL (cR (cL (cL (cR (cL (cR (cR (cL (cL (cR (cL (cL (cR (cL (cR (cR (cR K16_0))))))))))))))))))))
noncomputable def O16_74 : List Oper := cOps (cR (cR (cR (cL (cL (cR (cL (cL (cR (cL (cR (cR (cR K16_0)))))))))))))
def armillaryref22_Value.k1  : (Int) ⊕ (Int × Bool) → Option (Int × Bool)
 | .inl x1 => (some (x1, true))
 | .inr r_ => some r_
def armillaryref22_Value.k3 (a0 : List (List Int)) (a1 : List Int) (x2 : Int) (x3 : Int) : (Unit) ⊕ (Int × Bool) → Option ((Int) ⊕ (Int × Bool))
 | .inl () => (if 0 ≤ x3 then (if x3 < (a0.length : Int) then (if 0 ≤ x3 then (if x3 < (a1.length : Int) then (if 0 ≤ (a1.getD (x3).toNat 0) then (if (a1.getD (x3).toNat 0) < ((a0.getD (x3).toNat []).length : Int) then (some (Sum.inl (W .i64 (x2 + ((a0.getD (x3).toNat []).getD ((a1.getD (x3).toNat 0)).toNat 0))))) else none) else none) else none) else none) else none) else none)
 | .inr r_ => some (Sum.inr r_)
def armillaryref22_Value.l2 (a1 : List Int) (x3 : Int) : Nat → Int → Option ((Unit) ⊕ (Int × Bool))
 | 0, _ => none
 | k + 1, x6 => (if x6 < x3 then (if 0 ≤ x6 then (if x6 < (a1.length : Int) then (if 0 ≤ x3 then (if x3 < (a1.length : Int) then (if (a1.getD (x6).toNat 0) = (a1.getD (x3).toNat 0) then (some (Sum.inr (0, false))) else (armillaryref22_Value.l2 a1 x3 k (W .i64 (x6 + 1)))) else none) else none) else none) else none) else (some (Sum.inl ())))
def armillaryref22_Value.k4 (a0 : List (List Int)) (a1 : List Int) (x2 : Int) (x3 : Int) (kq1 : Nat) (x5 : Bool) : Option ((Int) ⊕ (Int × Bool)) := (if x5 = true then (some (Sum.inr (0, false))) else ((armillaryref22_Value.l2 a1 x3 kq1 0).bind (armillaryref22_Value.k3 a0 a1 x2 x3)))
def armillaryref22_Value.l1 (a0 : List (List Int)) (a1 : List Int) : Nat → Int → Int → Option ((Int) ⊕ (Int × Bool))
 | 0, _, _ => none
 | k + 1, x2, x3 => (if x3 < (a1.length : Int) then ((if 0 ≤ x3 then (if x3 < (a1.length : Int) then (if (a1.getD (x3).toNat 0) = (-1) then (some (Sum.inl x2)) else ((if 0 ≤ x3 then (if x3 < (a1.length : Int) then (if (a1.getD (x3).toNat 0) < 0 then (some true) else (if 0 ≤ x3 then (if x3 < (a1.length : Int) then ((armillaryref22_Columns.f a0).bind fun t1 => (some (decide ((a1.getD (x3).toNat 0) ≥ t1)))) else none) else none)) else none) else none).bind (armillaryref22_Value.k4 a0 a1 x2 x3 k))) else none) else none).bind (fun s_ => match s_ with | .inl x4 => (armillaryref22_Value.l1 a0 a1 k x4 (W .i64 (x3 + 1))) | .inr r_ => some (Sum.inr r_))) else (some (Sum.inl x2)))
def armillaryref22_Value.f (k : Nat) (a0 : List (List Int)) (a1 : List Int) : Option (Int × Bool) := (if (a1.length : Int) ≠ (a0.length : Int) then (some (0, false)) else ((armillaryref22_Value.l1 a0 a1 k 0 0).bind (armillaryref22_Value.k1)))
def armillaryref22_Value.Post (I : Imm) (w : World) (r : Int × Bool) (v : Value) (w' : World) : Prop :=
 ∃ (J : Imm), v = .tuple #[.int .i64 r.1, .bool r.2] ∧ Got w w' I J []
noncomputable def a16_74n : List Nat := [0, 0, 0, 6, 14, 0, 0, 96, 224, 510, 1022, 2047, 4095]
theorem a16_74 : ancs O16_74 [] = a16_74n := by kernel_rfl
theorem a16_74o : drawOk O16_74 a16_74n 11 = true := by kernel_rfl
noncomputable def u16d1l  : List Ld :=
 []
noncomputable def u16d1g (a1 : List Int) (x3 : Int) (g2_ : Nat) (o2_ : Nat) (g3_ : Nat) (o3_ : Nat) (g4_ : Nat) (o4_ : Nat) : List (Nat × ((Nat → Wt) → Value)) := [(3, fun u => pt g2_ (o2_ + (x3).toNat * 1)), (7, fun u => pt g3_ (o3_ + (x3).toNat * 1)), (9, fun u => pt g4_ (o4_ + ((a1.getD (x3).toNat 0)).toNat * 1))]
noncomputable def u16d1q (a0 : List (List Int)) (Ap0 : Option Addr) (cp0 : Nat) (a1 : List Int) (Ap1 : Option Addr) (cp1 : Nat) (x2 : Int) (x3 : Int) (A2_ : Option Addr) (c2_ : Nat) (g2_ : Nat) (o2_ : Nat) (g3_ : Nat) (o3_ : Nat) (g4_ : Nat) (o4_ : Nat) (u : Nat → Wt) : Option (List Value × List (Nat × Value) × List (Nat × Nat)) := qSim Try.prog [(⟨g2_, o2_ + (x3).toNat * 1, none⟩, .slice A2_ ((a0.getD (x3).toNat []).length) c2_), (⟨g3_, o3_ + (x3).toNat * 1, none⟩, i6 (a1.getD (x3).toNat 0)), (⟨g4_, o4_ + ((a1.getD (x3).toNat 0)).toNat * 1, none⟩, i6 ((a0.getD (x3).toNat []).getD ((a1.getD (x3).toNat 0)).toNat 0))] [] O16_74 ⟨66, []⟩ (Ld.vl u16d1l) (u16d1g a1 x3 g2_ o2_ g3_ o3_ g4_ o4_) u [.no, .no, .no, .no, .r 0, .no, .no, .no, .r 1, .no, .r 2] 0 (O16_74.take 11) [(0, .slice Ap0 a0.length cp0), (1, .slice Ap1 a1.length cp1), (6, i6 x2), (7, i6 x3)]
noncomputable def u16d1s (a0 : List (List Int)) (Ap0 : Option Addr) (cp0 : Nat) (a1 : List Int) (Ap1 : Option Addr) (cp1 : Nat) (x2 : Int) (x3 : Int) (A2_ : Option Addr) (c2_ : Nat) (g2_ : Nat) (o2_ : Nat) (g3_ : Nat) (o3_ : Nat) (g4_ : Nat) (o4_ : Nat) (u : Nat → Wt) : List Value := [i6 x2, .slice Ap0 a0.length cp0, i6 x3, pt g2_ (o2_ + (x3).toNat * 1), .slice A2_ ((a0.getD (x3).toNat []).length) c2_, .slice Ap1 a1.length cp1, i6 x3, pt g3_ (o3_ + (x3).toNat * 1), i6 (a1.getD (x3).toNat 0), pt g4_ (o4_ + ((a1.getD (x3).toNat 0)).toNat * 1), i6 ((a0.getD (x3).toNat []).getD ((a1.getD (x3).toNat 0)).toNat 0)]
noncomputable def u16d1f (a0 : List (List Int)) (Ap0 : Option Addr) (cp0 : Nat) (a1 : List Int) (Ap1 : Option Addr) (cp1 : Nat) (x2 : Int) (x3 : Int) (A2_ : Option Addr) (c2_ : Nat) (g2_ : Nat) (o2_ : Nat) (g3_ : Nat) (o3_ : Nat) (g4_ : Nat) (o4_ : Nat) (i : Nat) (u : Nat → Wt) : List (Nat × Value) := foldPut ⟨66, []⟩ [(0, .slice Ap0 a0.length cp0), (1, .slice Ap1 a1.length cp1), (6, i6 x2), (7, i6 x3)] (O16_74.take i) (((u16d1s a0 Ap0 cp0 a1 Ap1 cp1 x2 x3 A2_ c2_ g2_ o2_ g3_ o3_ g4_ o4_) u).take i)
theorem u16d1v (a0 : List (List Int)) (Ap0 : Option Addr) (cp0 : Nat) (a1 : List Int) (Ap1 : Option Addr) (cp1 : Nat) (x2 : Int) (x3 : Int) (A2_ : Option Addr) (c2_ : Nat) (g2_ : Nat) (o2_ : Nat) (g3_ : Nat) (o3_ : Nat) (g4_ : Nat) (o4_ : Nat) (u : Nat → Wt) : (u16d1q a0 Ap0 cp0 a1 Ap1 cp1 x2 x3 A2_ c2_ g2_ o2_ g3_ o3_ g4_ o4_ u).map (fun x => (x.1, x.2.1)) = some ((u16d1s a0 Ap0 cp0 a1 Ap1 cp1 x2 x3 A2_ c2_ g2_ o2_ g3_ o3_ g4_ o4_) u, (u16d1f a0 Ap0 cp0 a1 Ap1 cp1 x2 x3 A2_ c2_ g2_ o2_ g3_ o3_ g4_ o4_ 11) u) := by kernel_rfl
theorem u16d1e (a0 : List (List Int)) (Ap0 : Option Addr) (cp0 : Nat) (a1 : List Int) (Ap1 : Option Addr) (cp1 : Nat) (x2 : Int) (x3 : Int) (A2_ : Option Addr) (c2_ : Nat) (g2_ : Nat) (o2_ : Nat) (g3_ : Nat) (o3_ : Nat) (g4_ : Nat) (o4_ : Nat) (u : Nat → Wt) : (u16d1q a0 Ap0 cp0 a1 Ap1 cp1 x2 x3 A2_ c2_ g2_ o2_ g3_ o3_ g4_ o4_ u).map (fun x => x.2.2.map (·.1)) = (u16d1q a0 Ap0 cp0 a1 Ap1 cp1 x2 x3 A2_ c2_ g2_ o2_ g3_ o3_ g4_ o4_ u).map (fun x => x.2.2.map (·.2)) := by kernel_rfl
noncomputable def a16_64n : List Nat := [0, 0, 3, 7, 0, 0, 48, 112, 255]
theorem a16_64 : ancs O16_64 [] = a16_64n := by kernel_rfl
theorem a16_64o : drawOk O16_64 a16_64n 8 = true := by kernel_rfl
noncomputable def u16d2l  : List Ld :=
 []
noncomputable def u16d2g (x3 : Int) (x6 : Int) (g5_ : Nat) (o5_ : Nat) (g6_ : Nat) (o6_ : Nat) : List (Nat × ((Nat → Wt) → Value)) := [(2, fun u => pt g5_ (o5_ + (x6).toNat * 1)), (6, fun u => pt g6_ (o6_ + (x3).toNat * 1))]
noncomputable def u16d2q (a0 : List (List Int)) (Ap0 : Option Addr) (cp0 : Nat) (a1 : List Int) (Ap1 : Option Addr) (cp1 : Nat) (x2 : Int) (x3 : Int) (x6 : Int) (g5_ : Nat) (o5_ : Nat) (g6_ : Nat) (o6_ : Nat) (u : Nat → Wt) : Option (List Value × List (Nat × Value) × List (Nat × Nat)) := qSim Try.prog [(⟨g5_, o5_ + (x6).toNat * 1, none⟩, i6 (a1.getD (x6).toNat 0)), (⟨g6_, o6_ + (x3).toNat * 1, none⟩, i6 (a1.getD (x3).toNat 0))] [] O16_64 ⟨66, []⟩ (Ld.vl u16d2l) (u16d2g x3 x6 g5_ o5_ g6_ o6_) u [.no, .no, .no, .r 0, .no, .no, .no, .r 1] 0 (O16_64.take 8) [(41, .bool (decide (x6 < x3))), (0, .slice Ap0 a0.length cp0), (1, .slice Ap1 a1.length cp1), (6, i6 x2), (7, i6 x3), (8, i6 x6)]
noncomputable def u16d2s (a1 : List Int) (Ap1 : Option Addr) (cp1 : Nat) (x3 : Int) (x6 : Int) (g5_ : Nat) (o5_ : Nat) (g6_ : Nat) (o6_ : Nat) (u : Nat → Wt) : List Value := [.slice Ap1 a1.length cp1, i6 x6, pt g5_ (o5_ + (x6).toNat * 1), i6 (a1.getD (x6).toNat 0), .slice Ap1 a1.length cp1, i6 x3, pt g6_ (o6_ + (x3).toNat * 1), i6 (a1.getD (x3).toNat 0)]
noncomputable def u16d2f (a0 : List (List Int)) (Ap0 : Option Addr) (cp0 : Nat) (a1 : List Int) (Ap1 : Option Addr) (cp1 : Nat) (x2 : Int) (x3 : Int) (x6 : Int) (g5_ : Nat) (o5_ : Nat) (g6_ : Nat) (o6_ : Nat) (i : Nat) (u : Nat → Wt) : List (Nat × Value) := foldPut ⟨66, []⟩ [(41, .bool (decide (x6 < x3))), (0, .slice Ap0 a0.length cp0), (1, .slice Ap1 a1.length cp1), (6, i6 x2), (7, i6 x3), (8, i6 x6)] (O16_64.take i) (((u16d2s a1 Ap1 cp1 x3 x6 g5_ o5_ g6_ o6_) u).take i)
theorem u16d2v (a0 : List (List Int)) (Ap0 : Option Addr) (cp0 : Nat) (a1 : List Int) (Ap1 : Option Addr) (cp1 : Nat) (x2 : Int) (x3 : Int) (x6 : Int) (g5_ : Nat) (o5_ : Nat) (g6_ : Nat) (o6_ : Nat) (u : Nat → Wt) : (u16d2q a0 Ap0 cp0 a1 Ap1 cp1 x2 x3 x6 g5_ o5_ g6_ o6_ u).map (fun x => (x.1, x.2.1)) = some ((u16d2s a1 Ap1 cp1 x3 x6 g5_ o5_ g6_ o6_) u, (u16d2f a0 Ap0 cp0 a1 Ap1 cp1 x2 x3 x6 g5_ o5_ g6_ o6_ 8) u) := by kernel_rfl
theorem u16d2e (a0 : List (List Int)) (Ap0 : Option Addr) (cp0 : Nat) (a1 : List Int) (Ap1 : Option Addr) (cp1 : Nat) (x2 : Int) (x3 : Int) (x6 : Int) (g5_ : Nat) (o5_ : Nat) (g6_ : Nat) (o6_ : Nat) (u : Nat → Wt) : (u16d2q a0 Ap0 cp0 a1 Ap1 cp1 x2 x3 x6 g5_ o5_ g6_ o6_ u).map (fun x => x.2.2.map (·.1)) = (u16d2q a0 Ap0 cp0 a1 Ap1 cp1 x2 x3 x6 g5_ o5_ g6_ o6_ u).map (fun x => x.2.2.map (·.2)) := by kernel_rfl
noncomputable def a16_40n : List Nat := [0, 0, 3, 7, 15, 31, 63, 63, 255, 511, 63, 1087, 4095, 8191]
theorem a16_40 : ancs O16_40 [] = a16_40n := by kernel_rfl
theorem a16_40o : drawOk O16_40 a16_40n 12 = true := by kernel_rfl
noncomputable def u16d3l  : List Ld :=
 []
noncomputable def u16d3g (x3 : Int) (g7_ : Nat) (o7_ : Nat) : List (Nat × ((Nat → Wt) → Value)) := [(2, fun u => pt g7_ (o7_ + (x3).toNat * 1)), (5, fun u => .bool true)]
noncomputable def u16d3q (a0 : List (List Int)) (Ap0 : Option Addr) (cp0 : Nat) (a1 : List Int) (Ap1 : Option Addr) (cp1 : Nat) (x2 : Int) (x3 : Int) (g7_ : Nat) (o7_ : Nat) (u : Nat → Wt) : Option (List Value × List (Nat × Value) × List (Nat × Nat)) := qSim Try.prog [(⟨g7_, o7_ + (x3).toNat * 1, none⟩, i6 (a1.getD (x3).toNat 0))] [] O16_40 ⟨66, []⟩ (Ld.vl u16d3l) (u16d3g x3 g7_ o7_) u [.no, .no, .no, .r 0, .no, .no, .no, .no, .no, .no, .no, .no] 0 (O16_40.take 12) [(24, .bool ((a1.getD (x3).toNat 0) == (-1))), (0, .slice Ap0 a0.length cp0), (1, .slice Ap1 a1.length cp1), (6, i6 x2), (7, i6 x3)]
noncomputable def u16d3s (a1 : List Int) (Ap1 : Option Addr) (cp1 : Nat) (x3 : Int) (g7_ : Nat) (o7_ : Nat) (u : Nat → Wt) : List Value := [.slice Ap1 a1.length cp1, i6 x3, pt g7_ (o7_ + (x3).toNat * 1), i6 (a1.getD (x3).toNat 0), .bool (decide ((a1.getD (x3).toNat 0) < 0)), .bool true, undef, undef, undef, undef, undef, undef]
noncomputable def u16d3f (a0 : List (List Int)) (Ap0 : Option Addr) (cp0 : Nat) (a1 : List Int) (Ap1 : Option Addr) (cp1 : Nat) (x2 : Int) (x3 : Int) (g7_ : Nat) (o7_ : Nat) (i : Nat) (u : Nat → Wt) : List (Nat × Value) := foldPut ⟨66, []⟩ [(24, .bool ((a1.getD (x3).toNat 0) == (-1))), (0, .slice Ap0 a0.length cp0), (1, .slice Ap1 a1.length cp1), (6, i6 x2), (7, i6 x3)] (O16_40.take i) (((u16d3s a1 Ap1 cp1 x3 g7_ o7_) u).take i)
theorem u16d3v (a0 : List (List Int)) (Ap0 : Option Addr) (cp0 : Nat) (a1 : List Int) (Ap1 : Option Addr) (cp1 : Nat) (x2 : Int) (x3 : Int) (g7_ : Nat) (o7_ : Nat) (u : Nat → Wt) : (u16d3q a0 Ap0 cp0 a1 Ap1 cp1 x2 x3 g7_ o7_ u).map (fun x => (x.1, x.2.1)) = some ((u16d3s a1 Ap1 cp1 x3 g7_ o7_) u, (u16d3f a0 Ap0 cp0 a1 Ap1 cp1 x2 x3 g7_ o7_ 12) u) := by kernel_rfl
theorem u16d3e (a0 : List (List Int)) (Ap0 : Option Addr) (cp0 : Nat) (a1 : List Int) (Ap1 : Option Addr) (cp1 : Nat) (x2 : Int) (x3 : Int) (g7_ : Nat) (o7_ : Nat) (u : Nat → Wt) : (u16d3q a0 Ap0 cp0 a1 Ap1 cp1 x2 x3 g7_ o7_ u).map (fun x => x.2.2.map (·.1)) = (u16d3q a0 Ap0 cp0 a1 Ap1 cp1 x2 x3 g7_ o7_ u).map (fun x => x.2.2.map (·.2)) := by kernel_rfl
noncomputable def u16d4l (t1 : Int) : List Ld :=
 [⟨11, fun x => i6 t1, fun x => [], fun x J => True, fun x J J' h f => trivial⟩]
noncomputable def u16d4g (x3 : Int) (g7_ : Nat) (o7_ : Nat) (g8_ : Nat) (o8_ : Nat) : List (Nat × ((Nat → Wt) → Value)) := [(2, fun u => pt g7_ (o7_ + (x3).toNat * 1)), (5, fun u => .bool false), (8, fun u => pt g8_ (o8_ + (x3).toNat * 1))]
noncomputable def u16d4q (a0 : List (List Int)) (Ap0 : Option Addr) (cp0 : Nat) (a1 : List Int) (Ap1 : Option Addr) (cp1 : Nat) (x2 : Int) (x3 : Int) (g7_ : Nat) (o7_ : Nat) (g8_ : Nat) (o8_ : Nat) (t1 : Int) (u : Nat → Wt) : Option (List Value × List (Nat × Value) × List (Nat × Nat)) := qSim Try.prog [(⟨g7_, o7_ + (x3).toNat * 1, none⟩, i6 (a1.getD (x3).toNat 0)), (⟨g8_, o8_ + (x3).toNat * 1, none⟩, i6 (a1.getD (x3).toNat 0))] [] O16_40 ⟨66, []⟩ (Ld.vl (u16d4l t1)) (u16d4g x3 g7_ o7_ g8_ o8_) u [.no, .no, .no, .r 0, .no, .no, .no, .no, .no, .r 1, .no, .no] 0 (O16_40.take 12) [(24, .bool ((a1.getD (x3).toNat 0) == (-1))), (0, .slice Ap0 a0.length cp0), (1, .slice Ap1 a1.length cp1), (6, i6 x2), (7, i6 x3)]
noncomputable def u16d4s (a0 : List (List Int)) (Ap0 : Option Addr) (cp0 : Nat) (a1 : List Int) (Ap1 : Option Addr) (cp1 : Nat) (x3 : Int) (g7_ : Nat) (o7_ : Nat) (g8_ : Nat) (o8_ : Nat) (t1 : Int) (u : Nat → Wt) : List Value := [.slice Ap1 a1.length cp1, i6 x3, pt g7_ (o7_ + (x3).toNat * 1), i6 (a1.getD (x3).toNat 0), .bool (decide ((a1.getD (x3).toNat 0) < 0)), .bool false, .slice Ap1 a1.length cp1, i6 x3, pt g8_ (o8_ + (x3).toNat * 1), i6 (a1.getD (x3).toNat 0), .slice Ap0 a0.length cp0, i6 t1]
noncomputable def u16d4f (a0 : List (List Int)) (Ap0 : Option Addr) (cp0 : Nat) (a1 : List Int) (Ap1 : Option Addr) (cp1 : Nat) (x2 : Int) (x3 : Int) (g7_ : Nat) (o7_ : Nat) (g8_ : Nat) (o8_ : Nat) (t1 : Int) (i : Nat) (u : Nat → Wt) : List (Nat × Value) := foldPut ⟨66, []⟩ [(24, .bool ((a1.getD (x3).toNat 0) == (-1))), (0, .slice Ap0 a0.length cp0), (1, .slice Ap1 a1.length cp1), (6, i6 x2), (7, i6 x3)] (O16_40.take i) (((u16d4s a0 Ap0 cp0 a1 Ap1 cp1 x3 g7_ o7_ g8_ o8_ t1) u).take i)
theorem u16d4v (a0 : List (List Int)) (Ap0 : Option Addr) (cp0 : Nat) (a1 : List Int) (Ap1 : Option Addr) (cp1 : Nat) (x2 : Int) (x3 : Int) (g7_ : Nat) (o7_ : Nat) (g8_ : Nat) (o8_ : Nat) (t1 : Int) (u : Nat → Wt) : (u16d4q a0 Ap0 cp0 a1 Ap1 cp1 x2 x3 g7_ o7_ g8_ o8_ t1 u).map (fun x => (x.1, x.2.1)) = some ((u16d4s a0 Ap0 cp0 a1 Ap1 cp1 x3 g7_ o7_ g8_ o8_ t1) u, (u16d4f a0 Ap0 cp0 a1 Ap1 cp1 x2 x3 g7_ o7_ g8_ o8_ t1 12) u) := by kernel_rfl
theorem u16d4e (a0 : List (List Int)) (Ap0 : Option Addr) (cp0 : Nat) (a1 : List Int) (Ap1 : Option Addr) (cp1 : Nat) (x2 : Int) (x3 : Int) (g7_ : Nat) (o7_ : Nat) (g8_ : Nat) (o8_ : Nat) (t1 : Int) (u : Nat → Wt) : (u16d4q a0 Ap0 cp0 a1 Ap1 cp1 x2 x3 g7_ o7_ g8_ o8_ t1 u).map (fun x => x.2.2.map (·.1)) = (u16d4q a0 Ap0 cp0 a1 Ap1 cp1 x2 x3 g7_ o7_ g8_ o8_ t1 u).map (fun x => x.2.2.map (·.2)) := by kernel_rfl
theorem armillaryref22_Value.calls (k : Nat) (I0 : Imm) (a0 : List (List Int)) (Ap0 : Option Addr) (cp0 : Nat) (a1 : List Int) (Ap1 : Option Addr) (cp1 : Nat) (w : World) (hI : I0.at_ w) (hlp0 : a0.length ≤ cp0) (hrp0 : Rd (Ty.slice (Ty.int .i64)) I0 Ap0 a0) (hlp1 : a1.length ≤ cp1) (hrp1 : Rd (Ty.int .i64) I0 Ap1 a1) (r : Int × Bool) (h : armillaryref22_Value.f k a0 a1 = some r) :
  Calls Try.prog 16 [.slice Ap0 a0.length cp0, .slice Ap1 a1.length cp1].toArray w fun e w' => ∃ v, e = .returned v ∧ armillaryref22_Value.Post I0 w r v w' := by
 have H : (if (a1.length : Int) ≠ (a0.length : Int) then (some (0, false)) else ((armillaryref22_Value.l1 a0 a1 k 0 0).bind (armillaryref22_Value.k1))) = some r := h
 clear h
 refine calls_body Try.func16 (by kernel_rfl) 66 (by kernel_rfl) (by kernel_rfl) ⟨w, fun _ => False, I0⟩ I0 [] [(0, .slice Ap0 a0.length cp0), (1, .slice Ap1 a1.length cp1)] (by kernel_rfl) (Sat.start w _ I0 hI) ?_
 generalize w.heap.size = nx0
 show OK _ K16_0 _ _ _ _ _ _ _ _
 refine OK.sr ?_
 refine RL.st 2 [(0, .slice Ap0 a0.length cp0), (1, .slice Ap1 a1.length cp1)] ?_
 refine OK.sq ?_
 refine OK.sr ?_
 refine RL.st 5 [(13, .bool ((a1.length : Int) != (a0.length : Int))), (0, .slice Ap0 a0.length cp0), (1, .slice Ap1 a1.length cp1)] ?_
 refine OK.cd ((a1.length : Int) != (a0.length : Int)) (fun hb => ?_) (fun hb => ?_)
 ·skip
  have hc := (bne_iff_ne.1 hb)
  rw [if_pos hc] at H
  clear hb
  refine OK.sr ?_
  refine RL.st 2 [(5, .bool false), (4, i6 0)] ?_
  refine OK.re ?_
  refine QN.thenR ?_
  obtain rfl := Option.some.inj H
  refine QN.body rfl [] (RFacts.nil _ _ _) (.no) (.tuple #[i6 0, .bool false]) (by kernel_rfl) (by kernel_rfl) (by kernel_rfl) ?_ _ (.inr rfl)
  exact fun w' hs' => ⟨_, rfl, I0, rfl, hs'.got _ .slnil⟩
 ·skip
  have hc := (not_not_intro (bne_eq_false_iff_eq.1 hb))
  rw [if_neg hc] at H
  clear hb
  refine OK.skt ?_
  refine OK.sr ?_
  refine RL.st 1 [(6, i6 0), (0, .slice Ap0 a0.length cp0), (1, .slice Ap1 a1.length cp1)] ?_
  refine OK.sq ?_
  refine OK.sr ?_
  refine RL.st 1 [(7, i6 0), (6, i6 0), (0, .slice Ap0 a0.length cp0), (1, .slice Ap1 a1.length cp1)] ?_
  refine OK.join (fun K' I' _ L' X' => ∃ (x1 : Int), K' = [(6, i6 x1)] ∧ L' = [] ∧ X' = [] ∧ Imm.le I0 I' ∧ armillaryref22_Value.k1 (Sum.inl x1) = some r) ?_ ?_
  ·rintro _ I1 nx1 _ _ ⟨x1, rfl, rfl, rfl, hi1, H⟩
   rw [armillaryref22_Value.k1] at H
   refine QN.then_ ?_
   refine OK.sr ?_
   refine RL.st 3 [(5, .bool true), (4, i6 x1)] ?_
   refine OK.re ?_
   obtain rfl := Option.some.inj H
   refine QN.body rfl [] (RFacts.nil _ _ _) (.no) (.tuple #[i6 x1, .bool true]) (by kernel_rfl) (by kernel_rfl) (by kernel_rfl) ?_ _ (.inr rfl)
   exact fun w' hs' => ⟨_, rfl, I1, rfl, hs'.got _ .slnil⟩
  ·intro Q_1 hJ1 hQ1
   obtain ⟨y1, H, HK1⟩ := bnd H
   refine OK.bk 0 ?_
   refine OK.sub (K' := [(0, .slice Ap0 a0.length cp0), (1, .slice Ap1 a1.length cp1), (6, i6 0), (7, i6 0)]) (L' := []) (by kernel_rfl) .slnil (.refl _) ?_
   refine OK.lp (fun n_ K' I' _ L' X' => ∃ (x2 : Int) (x3 : Int), K' = [(0, .slice Ap0 a0.length cp0), (1, .slice Ap1 a1.length cp1), (6, i6 x2), (7, i6 x3)] ∧ L' = [] ∧ X' = [] ∧ Imm.le I0 I' ∧ armillaryref22_Value.l1 a0 a1 n_ x2 x3 = some y1) k ⟨0, 0, rfl, rfl, rfl, (Imm.le_refl _), H⟩ ?_ ?_
   ·rintro _ _ _ _ _ ⟨x2, x3, rfl, rfl, rfl, _, H⟩
    cases H
   ·rintro kq1 _ I2 nx2 _ _ ⟨x2, x3, rfl, rfl, rfl, hi2, H⟩ Q_l1 hJ2 hQ2
    rw [armillaryref22_Value.l1] at H
    refine OK.sq ?_
    refine OK.sr ?_
    refine RL.st 4 [(17, .bool (decide (x3 < (a1.length : Int)))), (0, .slice Ap0 a0.length cp0), (1, .slice Ap1 a1.length cp1), (6, i6 x2), (7, i6 x3)] ?_
    refine OK.cd (decide (x3 < (a1.length : Int))) (fun hb => ?_) (fun hb => ?_)
    ·skip
     have hc := (of_decide_eq_true hb)
     rw [if_pos hc] at H
     clear hb
     refine OK.skt ?_
     refine OK.sq ?_
     refine OK.join (fun K' I' _ L' X' => ∃ (x4 : Int), K' = [(0, .slice Ap0 a0.length cp0), (1, .slice Ap1 a1.length cp1), (6, i6 x4), (7, i6 x3)] ∧ L' = [] ∧ X' = [] ∧ Imm.le I2 I' ∧ (armillaryref22_Value.l1 a0 a1 kq1 x4 (W .i64 (x3 + 1))) = some y1) ?_ ?_
     ·rintro _ I3 nx3 _ _ ⟨x4, rfl, rfl, rfl, hi3, H⟩
      replace H : (armillaryref22_Value.l1 a0 a1 kq1 x4 (W .i64 (x3 + 1))) = some y1 := H
      refine QN.then_ ?_
      refine OK.rg ?_
      refine RL.s 3 [(7, i6 (W .i64 (x3 + 1))), (0, .slice Ap0 a0.length cp0), (1, .slice Ap1 a1.length cp1), (6, i6 x4)] ?_
      refine RL.nil (by kernel_rfl) ?_
      exact QN.sb (hJ2 _ _ _ _ _ ⟨x4, W .i64 (x3 + 1), rfl, rfl, rfl, (Imm.le_trans hi2 hi3), H⟩) .slnil (.refl _)
     ·intro Q_2 hJ3 hQ3
      obtain ⟨y2, H, HK2⟩ := bnd H
      refine OK.bk 1 ?_
      refine OK.sq ?_
      refine OK.sr ?_
      refine RL.s 2 [(21, i6 x3), (20, .slice Ap1 a1.length cp1), (0, .slice Ap0 a0.length cp0), (1, .slice Ap1 a1.length cp1), (6, i6 x2), (7, i6 x3)] ?_
      obtain ⟨hib0, H⟩ := ifs H
      obtain ⟨hib1, H⟩ := ifs H
      obtain ⟨g1_, o1_, hA1_, hc1_⟩ := Ty.int_at (Rd.ext hi2 hrp1) x3 hib0 hib1
      refine RL.idx 1 .i64 x3 hA1_ a1.length cp1 (some 22) (by kernel_rfl) (by kernel_rfl) (T := 23) (e := 3) (by kernel_rfl) (by kernel_rfl) hib0 hib1 (K' := [(22, pt g1_ (o1_ + (x3).toNat * 1)), (21, i6 x3), (20, .slice Ap1 a1.length cp1), (0, .slice Ap0 a0.length cp0), (1, .slice Ap1 a1.length cp1), (6, i6 x2), (7, i6 x3)]) (by kernel_rfl) ?_
      refine RL.simK (K' := [(24, .bool ((a1.getD (x3).toNat 0) == (-1))), (0, .slice Ap0 a0.length cp0), (1, .slice Ap1 a1.length cp1), (6, i6 x2), (7, i6 x3)]) [(⟨g1_, o1_ + (x3).toNat * 1, none⟩, i6 (a1.getD (x3).toNat 0))] (RFacts.imm (hc1_ 0 _ rfl) (RFacts.nil _ _ _)) 2 [.r 0, .no] (by kernel_rfl) (by kernel_rfl) ?_
      refine RL.nt ?_
      refine OK.cd ((a1.getD (x3).toNat 0) == (-1)) (fun hb => ?_) (fun hb => ?_)
      ·skip
       have hc := (beq_iff_eq.1 hb)
       rw [if_pos hc] at H
       clear hb
       refine OK.ex 1 ?_
       refine QN.thenE ?_
       refine QN.blkE ?_
       obtain rfl := Option.some.inj H
       exact QN.sb (hJ3 _ _ _ _ _ ⟨x2, rfl, rfl, rfl, (Imm.le_refl _), HK2⟩) .slnil (.refl _)
      ·skip
       have hc := (beq_eq_false_iff_ne.1 hb)
       rw [if_neg hc] at H
       clear hb
       refine OK.skt ?_
       refine OK.sq ?_
       refine OK.sq ?_
       refine OK.join (fun K' I' _ L' X' => ∃ (x5 : Bool), K' = [(0, .slice Ap0 a0.length cp0), (1, .slice Ap1 a1.length cp1), (6, i6 x2), (7, i6 x3), (38, .bool x5)] ∧ L' = [] ∧ X' = [] ∧ Imm.le I2 I' ∧ armillaryref22_Value.k4 a0 a1 x2 x3 kq1 x5 = some y2) ?_ ?_
       ·rintro _ I4 nx4 _ _ ⟨x5, rfl, rfl, rfl, hi4, H⟩
        rw [armillaryref22_Value.k4] at H
        refine QN.then_ ?_
        refine OK.cd x5 (fun hb => ?_) (fun hb => ?_)
        ·skip
         have hc := hb
         rw [if_pos hc] at H
         clear hb
         refine OK.sr ?_
         refine RL.st 2 [(5, .bool false), (4, i6 0)] ?_
         refine OK.re ?_
         refine QN.thenR ?_
         refine QN.blkR ?_
         refine QN.outR hQ3 ?_
         refine QN.thenR ?_
         refine QN.outR hQ2 ?_
         refine QN.blkR ?_
         refine QN.outR hQ1 ?_
         refine QN.thenR ?_
         obtain rfl := Option.some.inj H
         replace H : some (Sum.inr (0, false)) = some y1 := HK2
         obtain rfl := Option.some.inj H
         replace H : some (0, false) = some r := HK1
         obtain rfl := Option.some.inj H
         refine QN.body rfl [] (RFacts.nil _ _ _) (.no) (.tuple #[i6 0, .bool false]) (by kernel_rfl) (by kernel_rfl) (by kernel_rfl) ?_ _ (.inr rfl)
         exact fun w' hs' => ⟨_, rfl, I4, rfl, hs'.got _ .slnil⟩
        ·skip
         have hc := (Bool.eq_false_iff.1 hb)
         rw [if_neg hc] at H
         clear hb
         refine OK.skt ?_
         refine OK.sq ?_
         refine OK.sr ?_
         refine RL.st 1 [(8, i6 0), (0, .slice Ap0 a0.length cp0), (1, .slice Ap1 a1.length cp1), (6, i6 x2), (7, i6 x3)] ?_
         refine OK.join (fun K' I' _ L' X' => K' = [(0, .slice Ap0 a0.length cp0), (1, .slice Ap1 a1.length cp1), (6, i6 x2), (7, i6 x3)] ∧ L' = [] ∧ X' = [] ∧ Imm.le I4 I' ∧ armillaryref22_Value.k3 a0 a1 x2 x3 (Sum.inl ()) = some y2) ?_ ?_
         ·rintro _ I5 nx5 _ _ ⟨rfl, rfl, rfl, hi5, H⟩
          rw [armillaryref22_Value.k3] at H
          refine QN.then_ ?_
          obtain ⟨hi0_1, H⟩ := ifs H
          obtain ⟨hi1_1, H⟩ := ifs H
          obtain ⟨g2_, o2_, hA2_, A2_, c2_, hl2_, hr2_, hc2_⟩ := Ty.slice_at (Rd.ext (Imm.le_trans (Imm.le_trans hi2 hi4) hi5) hrp0) x3 hi0_1 hi1_1
          obtain ⟨hi0_2, H⟩ := ifs H
          obtain ⟨hi1_2, H⟩ := ifs H
          obtain ⟨g3_, o3_, hA3_, hc3_⟩ := Ty.int_at (Rd.ext (Imm.le_trans (Imm.le_trans hi2 hi4) hi5) hrp1) x3 hi0_2 hi1_2
          obtain ⟨hi0_3, H⟩ := ifs H
          obtain ⟨hi1_3, H⟩ := ifs H
          obtain ⟨g4_, o4_, hA4_, hc4_⟩ := Ty.int_at hr2_ (a1.getD (x3).toNat 0) hi0_3 hi1_3
          refine OK.drawnC 15 11 O16_74 a16_74n (by kernel_rfl) (by kernel_rfl) u16d1l (u16d1g a1 x3 g2_ o2_ g3_ o3_ g4_ o4_) [(⟨g2_, o2_ + (x3).toNat * 1, none⟩, .slice A2_ ((a0.getD (x3).toNat []).length) c2_), (⟨g3_, o3_ + (x3).toNat * 1, none⟩, i6 (a1.getD (x3).toNat 0)), (⟨g4_, o4_ + ((a1.getD (x3).toNat 0)).toNat * 1, none⟩, i6 ((a0.getD (x3).toNat []).getD ((a1.getD (x3).toNat 0)).toNat 0))] (RI.cons (hc2_ 0 _ rfl) (RI.cons (hc3_ 0 _ rfl) (RI.cons (hc4_ 0 _ rfl) (RI.nil _)))) [.no, .no, .no, .no, .r 0, .no, .no, .no, .r 1, .no, .r 2] a16_74 a16_74o (by kernel_rfl) (by kernel_rfl) (u16d1s a0 Ap0 cp0 a1 Ap1 cp1 x2 x3 A2_ c2_ g2_ o2_ g3_ o3_ g4_ o4_) (u16d1f a0 Ap0 cp0 a1 Ap1 cp1 x2 x3 A2_ c2_ g2_ o2_ g3_ o3_ g4_ o4_ 11) (u16d1v a0 Ap0 cp0 a1 Ap1 cp1 x2 x3 A2_ c2_ g2_ o2_ g3_ o3_ g4_ o4_) (u16d1e a0 Ap0 cp0 a1 Ap1 cp1 x2 x3 A2_ c2_ g2_ o2_ g3_ o3_ g4_ o4_) [] framesOk.nil ?_ [u16d1f a0 Ap0 cp0 a1 Ap1 cp1 x2 x3 A2_ c2_ g2_ o2_ g3_ o3_ g4_ o4_ 3, u16d1f a0 Ap0 cp0 a1 Ap1 cp1 x2 x3 A2_ c2_ g2_ o2_ g3_ o3_ g4_ o4_ 7, u16d1f a0 Ap0 cp0 a1 Ap1 cp1 x2 x3 A2_ c2_ g2_ o2_ g3_ o3_ g4_ o4_ 9] (framesOk.cons (fun u => rfl) (framesOk.cons (fun u => rfl) (framesOk.cons (fun u => rfl) framesOk.nil))) ?_ ?_
          ·refine LoudsG.nil
          ·refine Givens.cons (fun u w =>  ?_) (fun _ _ _ => rfl) (Givens.cons (fun u w =>  ?_) (fun _ _ _ => rfl) (Givens.cons (fun u w =>  ?_) (fun _ _ _ => rfl) (Givens.nil)))
           ·exact giv_idx (T := 22) (e := 24) 1 .i64 x3 hA2_ a0.length cp0 (by kernel_rfl) (by kernel_rfl) (by kernel_rfl) hi0_1 hi1_1 w
           ·exact giv_idx (T := 23) (e := 3) 1 .i64 x3 hA3_ a1.length cp1 (by kernel_rfl) (by kernel_rfl) (by kernel_rfl) hi0_2 hi1_2 w
           ·exact giv_idx (T := 24) (e := 2) 1 .i64 (a1.getD (x3).toNat 0) hA4_ ((a0.getD (x3).toNat []).length) c2_ (by kernel_rfl) (by kernel_rfl) (by kernel_rfl) hi0_3 hi1_3 w
          intro u I6 nx6 hi6 hF
          clear hF
          refine RL.norm (K' := [(63, i6 ((a0.getD (x3).toNat []).getD ((a1.getD (x3).toNat 0)).toNat 0)), (62, pt g4_ (o4_ + ((a1.getD (x3).toNat 0)).toNat * 1)), (61, i6 (a1.getD (x3).toNat 0)), (60, pt g3_ (o3_ + (x3).toNat * 1)), (59, i6 x3), (58, .slice Ap1 a1.length cp1), (57, .slice A2_ ((a0.getD (x3).toNat []).length) c2_), (56, pt g2_ (o2_ + (x3).toNat * 1)), (55, i6 x3), (54, .slice Ap0 a0.length cp0), (53, i6 x2), (0, .slice Ap0 a0.length cp0), (1, .slice Ap1 a1.length cp1), (6, i6 x2), (7, i6 x3)]) (X' := []) (by kernel_rfl) rfl rfl rfl ?_
          refine RL.s 2 [(6, i6 (W .i64 (x2 + ((a0.getD (x3).toNat []).getD ((a1.getD (x3).toNat 0)).toNat 0)))), (0, .slice Ap0 a0.length cp0), (1, .slice Ap1 a1.length cp1), (7, i6 x3)] ?_
          refine RL.nil (by kernel_rfl) ?_
          refine QN.blkN ?_
          obtain rfl := Option.some.inj H
          exact QN.sb (hJ3 _ _ _ _ _ ⟨W .i64 (x2 + ((a0.getD (x3).toNat []).getD ((a1.getD (x3).toNat 0)).toNat 0)), rfl, rfl, rfl, (Imm.le_trans (Imm.le_trans hi4 hi5) hi6), HK2⟩) .slnil (.refl _)
         ·intro Q_3 hJ5 hQ5
          obtain ⟨y4, H, HK4⟩ := bnd H
          refine OK.bk 2 ?_
          refine OK.sub (K' := [(0, .slice Ap0 a0.length cp0), (1, .slice Ap1 a1.length cp1), (6, i6 x2), (7, i6 x3), (8, i6 0)]) (L' := []) (by kernel_rfl) .slnil (.refl _) ?_
          refine OK.lp (fun n_ K' I' _ L' X' => ∃ (x6 : Int), K' = [(0, .slice Ap0 a0.length cp0), (1, .slice Ap1 a1.length cp1), (6, i6 x2), (7, i6 x3), (8, i6 x6)] ∧ L' = [] ∧ X' = [] ∧ Imm.le I4 I' ∧ armillaryref22_Value.l2 a1 x3 n_ x6 = some y4) kq1 ⟨0, rfl, rfl, rfl, (Imm.le_refl _), H⟩ ?_ ?_
          ·rintro _ _ _ _ _ ⟨x6, rfl, rfl, rfl, _, H⟩
           cases H
          ·rintro kq2 _ I7 nx7 _ _ ⟨x6, rfl, rfl, rfl, hi7, H⟩ Q_l2 hJ6 hQ6
           rw [armillaryref22_Value.l2] at H
           refine OK.sq ?_
           refine OK.sr ?_
           refine RL.st 3 [(41, .bool (decide (x6 < x3))), (0, .slice Ap0 a0.length cp0), (1, .slice Ap1 a1.length cp1), (6, i6 x2), (7, i6 x3), (8, i6 x6)] ?_
           refine OK.cd (decide (x6 < x3)) (fun hb => ?_) (fun hb => ?_)
           ·skip
            have hc := (of_decide_eq_true hb)
            rw [if_pos hc] at H
            clear hb
            refine OK.skt ?_
            refine OK.sq ?_
            refine OK.bk 3 ?_
            refine OK.sq ?_
            obtain ⟨hi0_4, H⟩ := ifs H
            obtain ⟨hi1_4, H⟩ := ifs H
            obtain ⟨g5_, o5_, hA5_, hc5_⟩ := Ty.int_at (Rd.ext (Imm.le_trans (Imm.le_trans hi2 hi4) hi7) hrp1) x6 hi0_4 hi1_4
            obtain ⟨hi0_5, H⟩ := ifs H
            obtain ⟨hi1_5, H⟩ := ifs H
            obtain ⟨g6_, o6_, hA6_, hc6_⟩ := Ty.int_at (Rd.ext (Imm.le_trans (Imm.le_trans hi2 hi4) hi7) hrp1) x3 hi0_5 hi1_5
            refine OK.drawnC 13 8 O16_64 a16_64n (by kernel_rfl) (by kernel_rfl) u16d2l (u16d2g x3 x6 g5_ o5_ g6_ o6_) [(⟨g5_, o5_ + (x6).toNat * 1, none⟩, i6 (a1.getD (x6).toNat 0)), (⟨g6_, o6_ + (x3).toNat * 1, none⟩, i6 (a1.getD (x3).toNat 0))] (RI.cons (hc5_ 0 _ rfl) (RI.cons (hc6_ 0 _ rfl) (RI.nil _))) [.no, .no, .no, .r 0, .no, .no, .no, .r 1] a16_64 a16_64o (by kernel_rfl) (by kernel_rfl) (u16d2s a1 Ap1 cp1 x3 x6 g5_ o5_ g6_ o6_) (u16d2f a0 Ap0 cp0 a1 Ap1 cp1 x2 x3 x6 g5_ o5_ g6_ o6_ 8) (u16d2v a0 Ap0 cp0 a1 Ap1 cp1 x2 x3 x6 g5_ o5_ g6_ o6_) (u16d2e a0 Ap0 cp0 a1 Ap1 cp1 x2 x3 x6 g5_ o5_ g6_ o6_) [] framesOk.nil ?_ [u16d2f a0 Ap0 cp0 a1 Ap1 cp1 x2 x3 x6 g5_ o5_ g6_ o6_ 2, u16d2f a0 Ap0 cp0 a1 Ap1 cp1 x2 x3 x6 g5_ o5_ g6_ o6_ 6] (framesOk.cons (fun u => rfl) (framesOk.cons (fun u => rfl) framesOk.nil)) ?_ ?_
            ·refine LoudsG.nil
            ·refine Givens.cons (fun u w =>  ?_) (fun _ _ _ => rfl) (Givens.cons (fun u w =>  ?_) (fun _ _ _ => rfl) (Givens.nil))
             ·exact giv_idx (T := 23) (e := 3) 1 .i64 x6 hA5_ a1.length cp1 (by kernel_rfl) (by kernel_rfl) (by kernel_rfl) hi0_4 hi1_4 w
             ·exact giv_idx (T := 23) (e := 3) 1 .i64 x3 hA6_ a1.length cp1 (by kernel_rfl) (by kernel_rfl) (by kernel_rfl) hi0_5 hi1_5 w
            intro u I8 nx8 hi8 hF
            clear hF
            refine RL.norm (K' := [(51, i6 (a1.getD (x3).toNat 0)), (50, pt g6_ (o6_ + (x3).toNat * 1)), (49, i6 x3), (48, .slice Ap1 a1.length cp1), (47, i6 (a1.getD (x6).toNat 0)), (46, pt g5_ (o5_ + (x6).toNat * 1)), (45, i6 x6), (44, .slice Ap1 a1.length cp1), (41, .bool (decide (x6 < x3))), (0, .slice Ap0 a0.length cp0), (1, .slice Ap1 a1.length cp1), (6, i6 x2), (7, i6 x3), (8, i6 x6)]) (X' := []) (by kernel_rfl) rfl rfl rfl ?_
            refine RL.st 1 [(52, .bool ((a1.getD (x6).toNat 0) == (a1.getD (x3).toNat 0))), (0, .slice Ap0 a0.length cp0), (1, .slice Ap1 a1.length cp1), (6, i6 x2), (7, i6 x3), (8, i6 x6)] ?_
            refine OK.cd ((a1.getD (x6).toNat 0) == (a1.getD (x3).toNat 0)) (fun hb => ?_) (fun hb => ?_)
            ·skip
             have hc := (beq_iff_eq.1 hb)
             rw [if_pos hc] at H
             clear hb
             refine OK.sr ?_
             refine RL.st 2 [(5, .bool false), (4, i6 0)] ?_
             refine OK.re ?_
             refine QN.blkR ?_
             refine QN.thenR ?_
             refine QN.outR hQ6 ?_
             refine QN.blkR ?_
             refine QN.outR hQ5 ?_
             refine QN.thenR ?_
             refine QN.blkR ?_
             refine QN.outR hQ3 ?_
             refine QN.thenR ?_
             refine QN.outR hQ2 ?_
             refine QN.blkR ?_
             refine QN.outR hQ1 ?_
             refine QN.thenR ?_
             obtain rfl := Option.some.inj H
             replace H : some (Sum.inr (0, false)) = some y2 := HK4
             obtain rfl := Option.some.inj H
             replace H : some (Sum.inr (0, false)) = some y1 := HK2
             obtain rfl := Option.some.inj H
             replace H : some (0, false) = some r := HK1
             obtain rfl := Option.some.inj H
             refine QN.body rfl [] (RFacts.nil _ _ _) (.no) (.tuple #[i6 0, .bool false]) (by kernel_rfl) (by kernel_rfl) (by kernel_rfl) ?_ _ (.inr rfl)
             exact fun w' hs' => ⟨_, rfl, I8, rfl, hs'.got _ .slnil⟩
            ·skip
             have hc := (beq_eq_false_iff_ne.1 hb)
             rw [if_neg hc] at H
             clear hb
             refine OK.sk ?_
             refine QN.blkN ?_
             refine QN.then_ ?_
             refine OK.rg ?_
             refine RL.s 3 [(8, i6 (W .i64 (x6 + 1))), (0, .slice Ap0 a0.length cp0), (1, .slice Ap1 a1.length cp1), (6, i6 x2), (7, i6 x3)] ?_
             refine RL.nil (by kernel_rfl) ?_
             exact QN.sb (hJ6 _ _ _ _ _ ⟨W .i64 (x6 + 1), rfl, rfl, rfl, (Imm.le_trans hi7 hi8), H⟩) .slnil (.refl _)
           ·skip
            have hc := (of_decide_eq_false hb)
            rw [if_neg hc] at H
            clear hb
            refine OK.ex 2 ?_
            refine QN.thenE ?_
            refine QN.outE hQ6 ?_
            refine QN.blkE ?_
            obtain rfl := Option.some.inj H
            exact QN.sb (hJ5 _ _ _ _ _ ⟨rfl, rfl, rfl, hi7, HK4⟩) .slnil (.refl _)
       ·intro Q_4 hJ4 hQ4
        obtain ⟨y3, H, HK3⟩ := bnd H
        obtain ⟨hi0_6, H⟩ := ifs H
        obtain ⟨hi1_6, H⟩ := ifs H
        obtain ⟨g7_, o7_, hA7_, hc7_⟩ := Ty.int_at (Rd.ext hi2 hrp1) x3 hi0_6 hi1_6
        refine OK.cases (decide ((a1.getD (x3).toNat 0) < 0)) (fun hb1 => ?_) (fun hb1 => ?_)
        ·have hc1 := (of_decide_eq_true hb1)
         rw [if_pos hc1] at H
         refine OK.drawnC 8 12 O16_40 a16_40n (by kernel_rfl) (by kernel_rfl) u16d3l (u16d3g x3 g7_ o7_) [(⟨g7_, o7_ + (x3).toNat * 1, none⟩, i6 (a1.getD (x3).toNat 0))] (RI.cons (hc7_ 0 _ rfl) (RI.nil _)) [.no, .no, .no, .r 0, .no, .no, .no, .no, .no, .no, .no, .no] a16_40 a16_40o (by kernel_rfl) (by kernel_rfl) (u16d3s a1 Ap1 cp1 x3 g7_ o7_) (u16d3f a0 Ap0 cp0 a1 Ap1 cp1 x2 x3 g7_ o7_ 12) (u16d3v a0 Ap0 cp0 a1 Ap1 cp1 x2 x3 g7_ o7_) (u16d3e a0 Ap0 cp0 a1 Ap1 cp1 x2 x3 g7_ o7_) [] framesOk.nil ?_ [u16d3f a0 Ap0 cp0 a1 Ap1 cp1 x2 x3 g7_ o7_ 2, u16d3f a0 Ap0 cp0 a1 Ap1 cp1 x2 x3 g7_ o7_ 5] (framesOk.cons (fun u => rfl) (framesOk.cons (fun u => rfl) framesOk.nil)) ?_ ?_
         ·refine LoudsG.nil
         ·refine Givens.cons (fun u w =>  ?_) (fun _ _ _ => rfl) (Givens.cons (fun u w =>  ?_) (fun _ _ _ => rfl) (Givens.nil))
          ·exact giv_idx (T := 23) (e := 3) 1 .i64 x3 hA7_ a1.length cp1 (by kernel_rfl) (by kernel_rfl) (by kernel_rfl) hi0_6 hi1_6 w
          ·exact giv_run (v := .bool (decide ((a1.getD (x3).toNat 0) < 0))) (by kernel_rfl) (by rw [hb1]; try rfl) w
         intro u I9 nx9 hi9 hF
         clear hF
         refine RL.norm (K' := [(36, undef), (35, undef), (34, undef), (33, undef), (32, undef), (31, undef), (30, .bool true), (29, .bool (decide ((a1.getD (x3).toNat 0) < 0))), (28, i6 (a1.getD (x3).toNat 0)), (27, pt g7_ (o7_ + (x3).toNat * 1)), (26, i6 x3), (25, .slice Ap1 a1.length cp1), (24, .bool ((a1.getD (x3).toNat 0) == (-1))), (0, .slice Ap0 a0.length cp0), (1, .slice Ap1 a1.length cp1), (6, i6 x2), (7, i6 x3)]) (X' := []) (by kernel_rfl) rfl rfl rfl ?_
         refine RL.s 2 [(38, .bool true), (0, .slice Ap0 a0.length cp0), (1, .slice Ap1 a1.length cp1), (6, i6 x2), (7, i6 x3)] ?_
         refine RL.nil (by kernel_rfl) ?_
         obtain rfl := Option.some.inj H
         exact QN.sb (hJ4 _ _ _ _ _ ⟨true, rfl, rfl, rfl, hi9, HK3⟩) .slnil (.refl _)
        ·have hc1 := (of_decide_eq_false hb1)
         rw [if_neg hc1] at H
         obtain ⟨hi0_7, H⟩ := ifs H
         obtain ⟨hi1_7, H⟩ := ifs H
         obtain ⟨g8_, o8_, hA8_, hc8_⟩ := Ty.int_at (Rd.ext hi2 hrp1) x3 hi0_7 hi1_7
         obtain ⟨t1, hA1, H⟩ := bnd H
         refine OK.drawnC 8 12 O16_40 a16_40n (by kernel_rfl) (by kernel_rfl) (u16d4l t1) (u16d4g x3 g7_ o7_ g8_ o8_) [(⟨g7_, o7_ + (x3).toNat * 1, none⟩, i6 (a1.getD (x3).toNat 0)), (⟨g8_, o8_ + (x3).toNat * 1, none⟩, i6 (a1.getD (x3).toNat 0))] (RI.cons (hc7_ 0 _ rfl) (RI.cons (hc8_ 0 _ rfl) (RI.nil _))) [.no, .no, .no, .r 0, .no, .no, .no, .no, .no, .r 1, .no, .no] a16_40 a16_40o (by kernel_rfl) (by kernel_rfl) (u16d4s a0 Ap0 cp0 a1 Ap1 cp1 x3 g7_ o7_ g8_ o8_ t1) (u16d4f a0 Ap0 cp0 a1 Ap1 cp1 x2 x3 g7_ o7_ g8_ o8_ t1 12) (u16d4v a0 Ap0 cp0 a1 Ap1 cp1 x2 x3 g7_ o7_ g8_ o8_ t1) (u16d4e a0 Ap0 cp0 a1 Ap1 cp1 x2 x3 g7_ o7_ g8_ o8_ t1) [u16d4f a0 Ap0 cp0 a1 Ap1 cp1 x2 x3 g7_ o7_ g8_ o8_ t1 11] (framesOk.cons (fun u => rfl) framesOk.nil) ?_ [u16d4f a0 Ap0 cp0 a1 Ap1 cp1 x2 x3 g7_ o7_ g8_ o8_ t1 2, u16d4f a0 Ap0 cp0 a1 Ap1 cp1 x2 x3 g7_ o7_ g8_ o8_ t1 5, u16d4f a0 Ap0 cp0 a1 Ap1 cp1 x2 x3 g7_ o7_ g8_ o8_ t1 8] (framesOk.cons (fun u => rfl) (framesOk.cons (fun u => rfl) (framesOk.cons (fun u => rfl) framesOk.nil))) ?_ ?_
         ·refine LoudsG.cons ?_ (LoudsG.nil)
          ·intro D u J w hp hJ hs hF
           refine Does.call 21 [.slice Ap0 a0.length cp0] (by kernel_rfl) ((armillaryref22_Columns.calls J a0 Ap0 cp0 w hs.im hlp0 (Rd.ext (Imm.le_trans hi2 hJ) hrp0) t1 hA1).mono ?_)
           rintro e w' ⟨v, rfl, J2, rfl, hg⟩
           exact ⟨_, rfl, fun _ => (none, 0, []), J2, rfl, hg, trivial⟩
         ·refine Givens.cons (fun u w =>  ?_) (fun _ _ _ => rfl) (Givens.cons (fun u w =>  ?_) (fun _ _ _ => rfl) (Givens.cons (fun u w =>  ?_) (fun _ _ _ => rfl) (Givens.nil)))
          ·exact giv_idx (T := 23) (e := 3) 1 .i64 x3 hA7_ a1.length cp1 (by kernel_rfl) (by kernel_rfl) (by kernel_rfl) hi0_6 hi1_6 w
          ·exact giv_run (v := .bool (decide ((a1.getD (x3).toNat 0) < 0))) (by kernel_rfl) (by rw [hb1]; try rfl) w
          ·exact giv_idx (T := 23) (e := 3) 1 .i64 x3 hA8_ a1.length cp1 (by kernel_rfl) (by kernel_rfl) (by kernel_rfl) hi0_7 hi1_7 w
         intro u I10 nx10 hi10 hF
         clear hF
         refine RL.norm (K' := [(36, i6 t1), (35, .slice Ap0 a0.length cp0), (34, i6 (a1.getD (x3).toNat 0)), (33, pt g8_ (o8_ + (x3).toNat * 1)), (32, i6 x3), (31, .slice Ap1 a1.length cp1), (30, .bool false), (29, .bool (decide ((a1.getD (x3).toNat 0) < 0))), (28, i6 (a1.getD (x3).toNat 0)), (27, pt g7_ (o7_ + (x3).toNat * 1)), (26, i6 x3), (25, .slice Ap1 a1.length cp1), (24, .bool ((a1.getD (x3).toNat 0) == (-1))), (0, .slice Ap0 a0.length cp0), (1, .slice Ap1 a1.length cp1), (6, i6 x2), (7, i6 x3)]) (X' := []) (by kernel_rfl) rfl rfl rfl ?_
         refine RL.s 2 [(38, .bool (decide ((a1.getD (x3).toNat 0) ≥ t1))), (0, .slice Ap0 a0.length cp0), (1, .slice Ap1 a1.length cp1), (6, i6 x2), (7, i6 x3)] ?_
         refine RL.nil (by kernel_rfl) ?_
         obtain rfl := Option.some.inj H
         exact QN.sb (hJ4 _ _ _ _ _ ⟨(decide ((a1.getD (x3).toNat 0) ≥ t1)), rfl, rfl, rfl, hi10, HK3⟩) .slnil (.refl _)
    ·skip
     have hc := (of_decide_eq_false hb)
     rw [if_neg hc] at H
     clear hb
     refine OK.ex 0 ?_
     refine QN.thenE ?_
     refine QN.outE hQ2 ?_
     refine QN.blkE ?_
     obtain rfl := Option.some.inj H
     exact QN.sb (hJ1 _ _ _ _ _ ⟨x2, rfl, rfl, rfl, hi2, HK1⟩) .slnil (.refl _)

end Go.Proofs.Ytdmhbcgmimfjcaa
namespace Go.Proofs.Ytdmhbcgmimfjcaa
open Go Go.Proofs.Ytdmhbcgmimfjcaa.RW
set_option linter.unusedVariables false
set_option maxRecDepth 100000
set_option maxHeartbeats 8000000

/-! ### armillaryref22_VerifyDuals: function 19, armillary/armillaryref22.VerifyDuals -/
noncomputable def K19_0 : Code := cBody Try.f19
noncomputable def O19_8 : List Oper := cOps (cL (cL (cR (cR K19_0))))
noncomputable def O19_107 : List Oper := cOps (cL (cL (cL (cR (cL (cL (cR (cL (cL (cR (cL (cL (cR (cL (cR (cR (cR (cR (cR (cR K19_0))))))))))))))))))))
def armillaryref22_VerifyDuals.k1 (x3 : Int) : (Unit) ⊕ (Bool) → Option (Bool)
 | .inl () => (some (x3 == 0))
 | .inr r_ => some r_
def armillaryref22_VerifyDuals.k3  : (Unit) ⊕ (Bool) → Option ((Unit) ⊕ (Bool))
 | .inl () => (some (Sum.inl ()))
 | .inr r_ => some (Sum.inr r_)
def armillaryref22_VerifyDuals.l2 (a0 : List (List Int)) (a2 : S26) (x4 : Int) : Nat → Int → Option ((Unit) ⊕ (Bool))
 | 0, _ => none
 | k + 1, x5 => (if 0 ≤ x4 then (if x4 < (a0.length : Int) then (if x5 < ((a0.getD (x4).toNat []).length : Int) then (if 0 ≤ x4 then (if x4 < (a2.f0.length : Int) then (if 0 ≤ x5 then (if x5 < (a2.f1.length : Int) then (if 0 ≤ x4 then (if x4 < (a0.length : Int) then (if 0 ≤ x5 then (if x5 < ((a0.getD (x4).toNat []).length : Int) then (if (W .i64 ((a2.f0.getD (x4).toNat 0) + (a2.f1.getD (x5).toNat 0))) < ((a0.getD (x4).toNat []).getD (x5).toNat 0) then (some (Sum.inr false)) else (armillaryref22_VerifyDuals.l2 a0 a2 x4 k (W .i64 (x5 + 1)))) else none) else none) else none) else none) else none) else none) else none) else none) else (some (Sum.inl ()))) else none) else none)
def armillaryref22_VerifyDuals.l1 (a0 : List (List Int)) (a2 : S26) : Nat → Int → Option ((Unit) ⊕ (Bool))
 | 0, _ => none
 | k + 1, x4 => (if x4 < (a0.length : Int) then (((armillaryref22_VerifyDuals.l2 a0 a2 x4 k 0).bind (armillaryref22_VerifyDuals.k3)).bind (fun s_ => match s_ with | .inl _ => (armillaryref22_VerifyDuals.l1 a0 a2 k (W .i64 (x4 + 1))) | .inr r_ => some (Sum.inr r_))) else (some (Sum.inl ())))
def armillaryref22_VerifyDuals.k4 (k : Nat) (a0 : List (List Int)) (a2 : S26) : (Int) ⊕ (Bool) → Option (Bool)
 | .inl x3 => ((armillaryref22_VerifyDuals.l1 a0 a2 k 0).bind (armillaryref22_VerifyDuals.k1 x3))
 | .inr r_ => some r_
def armillaryref22_VerifyDuals.l3 (a2 : S26) : Nat → Int → Int → Option ((Int) ⊕ (Bool))
 | 0, _, _ => none
 | k + 1, x6, x7 => (if x7 < (a2.f1.length : Int) then ((if 0 ≤ x7 then (if x7 < (a2.f1.length : Int) then (if (a2.f1.getD (x7).toNat 0) < 0 then (some true) else (if 0 ≤ x7 then (if x7 < (a2.f1.length : Int) then (some (decide ((a2.f1.getD (x7).toNat 0) > x6))) else none) else none)) else none) else none).bind (fun x8 => (if x8 = true then (some (Sum.inr false)) else (if 0 ≤ x7 then (if x7 < (a2.f1.length : Int) then (armillaryref22_VerifyDuals.l3 a2 k (W .i64 (x6 - (a2.f1.getD (x7).toNat 0))) (W .i64 (x7 + 1))) else none) else none)))) else (some (Sum.inl x6)))
def armillaryref22_VerifyDuals.k6 (k : Nat) (a0 : List (List Int)) (a2 : S26) : (Int) ⊕ (Bool) → Option (Bool)
 | .inl x2 => ((armillaryref22_VerifyDuals.l3 a2 k x2 0).bind (armillaryref22_VerifyDuals.k4 k a0 a2))
 | .inr r_ => some r_
def armillaryref22_VerifyDuals.l4 (a2 : S26) : Nat → Int → Int → Option ((Int) ⊕ (Bool))
 | 0, _, _ => none
 | k + 1, x9, x10 => (if x10 < (a2.f0.length : Int) then ((if 0 ≤ x10 then (if x10 < (a2.f0.length : Int) then (if (a2.f0.getD (x10).toNat 0) < 0 then (some true) else (if 0 ≤ x10 then (if x10 < (a2.f0.length : Int) then (some (decide ((a2.f0.getD (x10).toNat 0) > x9))) else none) else none)) else none) else none).bind (fun x11 => (if x11 = true then (some (Sum.inr false)) else (if 0 ≤ x10 then (if x10 < (a2.f0.length : Int) then (armillaryref22_VerifyDuals.l4 a2 k (W .i64 (x9 - (a2.f0.getD (x10).toNat 0))) (W .i64 (x10 + 1))) else none) else none)))) else (some (Sum.inl x9)))
def armillaryref22_VerifyDuals.k8 (k : Nat) (a0 : List (List Int)) (a2 : S26) (t1 : Int × Bool) (x1 : Bool) : Option (Bool) := (if x1 = true then (some false) else ((armillaryref22_VerifyDuals.l4 a2 k t1.1 0).bind (armillaryref22_VerifyDuals.k6 k a0 a2)))
def armillaryref22_VerifyDuals.f (k : Nat) (a0 : List (List Int)) (a1 : List Int) (a2 : S26) : Option (Bool) := ((armillaryref22_Value.f k a0 a1).bind fun t1 => ((if t1.2 = true then (if (a2.f0.length : Int) ≠ (a0.length : Int) then (some true) else ((armillaryref22_Columns.f a0).bind fun t2 => (some ((a2.f1.length : Int) != t2)))) else (some true)).bind (armillaryref22_VerifyDuals.k8 k a0 a2 t1)))
def armillaryref22_VerifyDuals.Post (I : Imm) (w : World) (r : Bool) (v : Value) (w' : World) : Prop :=
 ∃ (J : Imm), v = .bool r ∧ Got w w' I J []
noncomputable def a19_107n : List Nat := [0, 1, 0, 7, 15, 0, 32, 0, 224, 480, 1023, 0, 0, 6144, 14336, 0, 63488, 129024, 262143]
theorem a19_107 : ancs O19_107 [] = a19_107n := by kernel_rfl
theorem a19_107o : drawOk O19_107 a19_107n 18 = true := by kernel_rfl
noncomputable def u19d1l  : List Ld :=
 []
noncomputable def u19d1g (x4 : Int) (x5 : Int) (g2_ : Nat) (o2_ : Nat) (g3_ : Nat) (o3_ : Nat) (g4_ : Nat) (o4_ : Nat) (g5_ : Nat) (o5_ : Nat) : List (Nat × ((Nat → Wt) → Value)) := [(3, fun u => pt g2_ (o2_ + (x4).toNat * 1)), (8, fun u => pt g3_ (o3_ + (x5).toNat * 1)), (13, fun u => pt g4_ (o4_ + (x4).toNat * 1)), (16, fun u => pt g5_ (o5_ + (x5).toNat * 1))]
noncomputable def u19d1q (a0 : List (List Int)) (Ap0 : Option Addr) (cp0 : Nat) (a2 : S26) (Ap2_0 : Option Addr) (cp2_0 : Nat) (Ap2_1 : Option Addr) (cp2_1 : Nat) (nx0 : Nat) (x3 : Int) (x4 : Int) (x5 : Int) (g2_ : Nat) (o2_ : Nat) (g3_ : Nat) (o3_ : Nat) (A4_ : Option Addr) (c4_ : Nat) (g4_ : Nat) (o4_ : Nat) (g5_ : Nat) (o5_ : Nat) (u : Nat → Wt) : Option (List Value × List (Nat × Value) × List (Nat × Nat)) := qSim Try.prog [(⟨g2_, o2_ + (x4).toNat * 1, none⟩, i6 (a2.f0.getD (x4).toNat 0)), (⟨g3_, o3_ + (x5).toNat * 1, none⟩, i6 (a2.f1.getD (x5).toNat 0)), (⟨g4_, o4_ + (x4).toNat * 1, none⟩, .slice A4_ ((a0.getD (x4).toNat []).length) c4_), (⟨g5_, o5_ + (x5).toNat * 1, none⟩, i6 ((a0.getD (x4).toNat []).getD (x5).toNat 0))] [⟨nx0, [.slice Ap2_0 a2.f0.length cp2_0, .slice Ap2_1 a2.f1.length cp2_1], 26⟩] O19_107 ⟨133, []⟩ (Ld.vl u19d1l) (u19d1g x4 x5 g2_ o2_ g3_ o3_ g4_ o4_ g5_ o5_) u [.no, .l 0, .no, .no, .r 0, .no, .l 0, .no, .no, .r 1, .no, .no, .no, .no, .r 2, .no, .no, .r 3] 0 (O19_107.take 18) [(109, .bool (decide (x5 < ((a0.getD (x4).toNat []).length : Int)))), (0, .slice Ap0 a0.length cp0), (5, pt nx0 0), (9, i6 x3), (12, i6 x4), (13, i6 x5)]
noncomputable def u19d1s (a0 : List (List Int)) (Ap0 : Option Addr) (cp0 : Nat) (a2 : S26) (Ap2_0 : Option Addr) (cp2_0 : Nat) (Ap2_1 : Option Addr) (cp2_1 : Nat) (nx0 : Nat) (x4 : Int) (x5 : Int) (g2_ : Nat) (o2_ : Nat) (g3_ : Nat) (o3_ : Nat) (A4_ : Option Addr) (c4_ : Nat) (g4_ : Nat) (o4_ : Nat) (g5_ : Nat) (o5_ : Nat) (u : Nat → Wt) : List Value := [pt nx0 0, .slice Ap2_0 a2.f0.length cp2_0, i6 x4, pt g2_ (o2_ + (x4).toNat * 1), i6 (a2.f0.getD (x4).toNat 0), pt nx0 1, .slice Ap2_1 a2.f1.length cp2_1, i6 x5, pt g3_ (o3_ + (x5).toNat * 1), i6 (a2.f1.getD (x5).toNat 0), i6 (W .i64 ((a2.f0.getD (x4).toNat 0) + (a2.f1.getD (x5).toNat 0))), .slice Ap0 a0.length cp0, i6 x4, pt g4_ (o4_ + (x4).toNat * 1), .slice A4_ ((a0.getD (x4).toNat []).length) c4_, i6 x5, pt g5_ (o5_ + (x5).toNat * 1), i6 ((a0.getD (x4).toNat []).getD (x5).toNat 0)]
noncomputable def u19d1f (a0 : List (List Int)) (Ap0 : Option Addr) (cp0 : Nat) (a2 : S26) (Ap2_0 : Option Addr) (cp2_0 : Nat) (Ap2_1 : Option Addr) (cp2_1 : Nat) (nx0 : Nat) (x3 : Int) (x4 : Int) (x5 : Int) (g2_ : Nat) (o2_ : Nat) (g3_ : Nat) (o3_ : Nat) (A4_ : Option Addr) (c4_ : Nat) (g4_ : Nat) (o4_ : Nat) (g5_ : Nat) (o5_ : Nat) (i : Nat) (u : Nat → Wt) : List (Nat × Value) := foldPut ⟨133, []⟩ [(109, .bool (decide (x5 < ((a0.getD (x4).toNat []).length : Int)))), (0, .slice Ap0 a0.length cp0), (5, pt nx0 0), (9, i6 x3), (12, i6 x4), (13, i6 x5)] (O19_107.take i) (((u19d1s a0 Ap0 cp0 a2 Ap2_0 cp2_0 Ap2_1 cp2_1 nx0 x4 x5 g2_ o2_ g3_ o3_ A4_ c4_ g4_ o4_ g5_ o5_) u).take i)
theorem u19d1v (a0 : List (List Int)) (Ap0 : Option Addr) (cp0 : Nat) (a2 : S26) (Ap2_0 : Option Addr) (cp2_0 : Nat) (Ap2_1 : Option Addr) (cp2_1 : Nat) (nx0 : Nat) (x3 : Int) (x4 : Int) (x5 : Int) (g2_ : Nat) (o2_ : Nat) (g3_ : Nat) (o3_ : Nat) (A4_ : Option Addr) (c4_ : Nat) (g4_ : Nat) (o4_ : Nat) (g5_ : Nat) (o5_ : Nat) (u : Nat → Wt) : (u19d1q a0 Ap0 cp0 a2 Ap2_0 cp2_0 Ap2_1 cp2_1 nx0 x3 x4 x5 g2_ o2_ g3_ o3_ A4_ c4_ g4_ o4_ g5_ o5_ u).map (fun x => (x.1, x.2.1)) = some ((u19d1s a0 Ap0 cp0 a2 Ap2_0 cp2_0 Ap2_1 cp2_1 nx0 x4 x5 g2_ o2_ g3_ o3_ A4_ c4_ g4_ o4_ g5_ o5_) u, (u19d1f a0 Ap0 cp0 a2 Ap2_0 cp2_0 Ap2_1 cp2_1 nx0 x3 x4 x5 g2_ o2_ g3_ o3_ A4_ c4_ g4_ o4_ g5_ o5_ 18) u) := by kernel_rfl
theorem u19d1e (a0 : List (List Int)) (Ap0 : Option Addr) (cp0 : Nat) (a2 : S26) (Ap2_0 : Option Addr) (cp2_0 : Nat) (Ap2_1 : Option Addr) (cp2_1 : Nat) (nx0 : Nat) (x3 : Int) (x4 : Int) (x5 : Int) (g2_ : Nat) (o2_ : Nat) (g3_ : Nat) (o3_ : Nat) (A4_ : Option Addr) (c4_ : Nat) (g4_ : Nat) (o4_ : Nat) (g5_ : Nat) (o5_ : Nat) (u : Nat → Wt) : (u19d1q a0 Ap0 cp0 a2 Ap2_0 cp2_0 Ap2_1 cp2_1 nx0 x3 x4 x5 g2_ o2_ g3_ o3_ A4_ c4_ g4_ o4_ g5_ o5_ u).map (fun x => x.2.2.map (·.1)) = (u19d1q a0 Ap0 cp0 a2 Ap2_0 cp2_0 Ap2_1 cp2_1 nx0 x3 x4 x5 g2_ o2_ g3_ o3_ A4_ c4_ g4_ o4_ g5_ o5_ u).map (fun x => x.2.2.map (·.2)) := by kernel_rfl
noncomputable def a19_8n : List Nat := [0, 1, 3, 7, 15, 31, 7, 71, 255, 511, 1023, 2047, 4095, 8191, 2047, 18431, 65535, 131071]
theorem a19_8 : ancs O19_8 [] = a19_8n := by kernel_rfl
theorem a19_8o : drawOk O19_8 a19_8n 16 = true := by kernel_rfl
noncomputable def u19d2l  : List Ld :=
 []
noncomputable def u19d2g  : List (Nat × ((Nat → Wt) → Value)) := [(2, fun u => .bool false), (10, fun u => .bool true)]
noncomputable def u19d2q (a0 : List (List Int)) (Ap0 : Option Addr) (cp0 : Nat) (a2 : S26) (Ap2_0 : Option Addr) (cp2_0 : Nat) (Ap2_1 : Option Addr) (cp2_1 : Nat) (nx0 : Nat) (t1 : Int × Bool) (u : Nat → Wt) : Option (List Value × List (Nat × Value) × List (Nat × Nat)) := qSim Try.prog [] [⟨nx0, [.slice Ap2_0 a2.f0.length cp2_0, .slice Ap2_1 a2.f1.length cp2_1], 26⟩] O19_8 ⟨133, []⟩ (Ld.vl u19d2l) u19d2g u [.no, .no, .no, .no, .l 0, .no, .no, .no, .no, .no, .no, .no, .no, .no, .no, .no] 0 (O19_8.take 16) [(8, .bool t1.2), (7, i6 t1.1), (5, pt nx0 0), (0, .slice Ap0 a0.length cp0)]
noncomputable def u19d2s (a0 : List (List Int)) (Ap0 : Option Addr) (cp0 : Nat) (a2 : S26) (Ap2_0 : Option Addr) (cp2_0 : Nat) (nx0 : Nat) (t1 : Int × Bool) (u : Nat → Wt) : List Value := [.bool t1.2, .bool (!t1.2), .bool false, pt nx0 0, .slice Ap2_0 a2.f0.length cp2_0, i6 (a2.f0.length : Int), .slice Ap0 a0.length cp0, i6 (a0.length : Int), .bool ((a2.f0.length : Int) != (a0.length : Int)), .bool ((a2.f0.length : Int) != (a0.length : Int)), .bool true, undef, undef, undef, undef, undef]
noncomputable def u19d2f (a0 : List (List Int)) (Ap0 : Option Addr) (cp0 : Nat) (a2 : S26) (Ap2_0 : Option Addr) (cp2_0 : Nat) (nx0 : Nat) (t1 : Int × Bool) (i : Nat) (u : Nat → Wt) : List (Nat × Value) := foldPut ⟨133, []⟩ [(8, .bool t1.2), (7, i6 t1.1), (5, pt nx0 0), (0, .slice Ap0 a0.length cp0)] (O19_8.take i) (((u19d2s a0 Ap0 cp0 a2 Ap2_0 cp2_0 nx0 t1) u).take i)
theorem u19d2v (a0 : List (List Int)) (Ap0 : Option Addr) (cp0 : Nat) (a2 : S26) (Ap2_0 : Option Addr) (cp2_0 : Nat) (Ap2_1 : Option Addr) (cp2_1 : Nat) (nx0 : Nat) (t1 : Int × Bool) (u : Nat → Wt) : (u19d2q a0 Ap0 cp0 a2 Ap2_0 cp2_0 Ap2_1 cp2_1 nx0 t1 u).map (fun x => (x.1, x.2.1)) = some ((u19d2s a0 Ap0 cp0 a2 Ap2_0 cp2_0 nx0 t1) u, (u19d2f a0 Ap0 cp0 a2 Ap2_0 cp2_0 nx0 t1 16) u) := by kernel_rfl
theorem u19d2e (a0 : List (List Int)) (Ap0 : Option Addr) (cp0 : Nat) (a2 : S26) (Ap2_0 : Option Addr) (cp2_0 : Nat) (Ap2_1 : Option Addr) (cp2_1 : Nat) (nx0 : Nat) (t1 : Int × Bool) (u : Nat → Wt) : (u19d2q a0 Ap0 cp0 a2 Ap2_0 cp2_0 Ap2_1 cp2_1 nx0 t1 u).map (fun x => x.2.2.map (·.1)) = (u19d2q a0 Ap0 cp0 a2 Ap2_0 cp2_0 Ap2_1 cp2_1 nx0 t1 u).map (fun x => x.2.2.map (·.2)) := by kernel_rfl
noncomputable def u19d3l (t2 : Int) : List Ld :=
 [⟨15, fun x => i6 t2, fun x => [], fun x J => True, fun x J J' h f => trivial⟩]
noncomputable def u19d3g  : List (Nat × ((Nat → Wt) → Value)) := [(2, fun u => .bool false), (10, fun u => .bool false)]
noncomputable def u19d3q (a0 : List (List Int)) (Ap0 : Option Addr) (cp0 : Nat) (a2 : S26) (Ap2_0 : Option Addr) (cp2_0 : Nat) (Ap2_1 : Option Addr) (cp2_1 : Nat) (nx0 : Nat) (t1 : Int × Bool) (t2 : Int) (u : Nat → Wt) : Option (List Value × List (Nat × Value) × List (Nat × Nat)) := qSim Try.prog [] [⟨nx0, [.slice Ap2_0 a2.f0.length cp2_0, .slice Ap2_1 a2.f1.length cp2_1], 26⟩] O19_8 ⟨133, []⟩ (Ld.vl (u19d3l t2)) u19d3g u [.no, .no, .no, .no, .l 0, .no, .no, .no, .no, .no, .no, .no, .l 0, .no, .no, .no] 0 (O19_8.take 16) [(8, .bool t1.2), (7, i6 t1.1), (5, pt nx0 0), (0, .slice Ap0 a0.length cp0)]
noncomputable def u19d3s (a0 : List (List Int)) (Ap0 : Option Addr) (cp0 : Nat) (a2 : S26) (Ap2_0 : Option Addr) (cp2_0 : Nat) (Ap2_1 : Option Addr) (cp2_1 : Nat) (nx0 : Nat) (t1 : Int × Bool) (t2 : Int) (u : Nat → Wt) : List Value := [.bool t1.2, .bool (!t1.2), .bool false, pt nx0 0, .slice Ap2_0 a2.f0.length cp2_0, i6 (a2.f0.length : Int), .slice Ap0 a0.length cp0, i6 (a0.length : Int), .bool ((a2.f0.length : Int) != (a0.length : Int)), .bool ((a2.f0.length : Int) != (a0.length : Int)), .bool false, pt nx0 1, .slice Ap2_1 a2.f1.length cp2_1, i6 (a2.f1.length : Int), .slice Ap0 a0.length cp0, i6 t2]
noncomputable def u19d3f (a0 : List (List Int)) (Ap0 : Option Addr) (cp0 : Nat) (a2 : S26) (Ap2_0 : Option Addr) (cp2_0 : Nat) (Ap2_1 : Option Addr) (cp2_1 : Nat) (nx0 : Nat) (t1 : Int × Bool) (t2 : Int) (i : Nat) (u : Nat → Wt) : List (Nat × Value) := foldPut ⟨133, []⟩ [(8, .bool t1.2), (7, i6 t1.1), (5, pt nx0 0), (0, .slice Ap0 a0.length cp0)] (O19_8.take i) (((u19d3s a0 Ap0 cp0 a2 Ap2_0 cp2_0 Ap2_1 cp2_1 nx0 t1 t2) u).take i)
theorem u19d3v (a0 : List (List Int)) (Ap0 : Option Addr) (cp0 : Nat) (a2 : S26) (Ap2_0 : Option Addr) (cp2_0 : Nat) (Ap2_1 : Option Addr) (cp2_1 : Nat) (nx0 : Nat) (t1 : Int × Bool) (t2 : Int) (u : Nat → Wt) : (u19d3q a0 Ap0 cp0 a2 Ap2_0 cp2_0 Ap2_1 cp2_1 nx0 t1 t2 u).map (fun x => (x.1, x.2.1)) = some ((u19d3s a0 Ap0 cp0 a2 Ap2_0 cp2_0 Ap2_1 cp2_1 nx0 t1 t2) u, (u19d3f a0 Ap0 cp0 a2 Ap2_0 cp2_0 Ap2_1 cp2_1 nx0 t1 t2 16) u) := by kernel_rfl
theorem u19d3e (a0 : List (List Int)) (Ap0 : Option Addr) (cp0 : Nat) (a2 : S26) (Ap2_0 : Option Addr) (cp2_0 : Nat) (Ap2_1 : Option Addr) (cp2_1 : Nat) (nx0 : Nat) (t1 : Int × Bool) (t2 : Int) (u : Nat → Wt) : (u19d3q a0 Ap0 cp0 a2 Ap2_0 cp2_0 Ap2_1 cp2_1 nx0 t1 t2 u).map (fun x => x.2.2.map (·.1)) = (u19d3q a0 Ap0 cp0 a2 Ap2_0 cp2_0 Ap2_1 cp2_1 nx0 t1 t2 u).map (fun x => x.2.2.map (·.2)) := by kernel_rfl
noncomputable def u19d4l  : List Ld :=
 []
noncomputable def u19d4g  : List (Nat × ((Nat → Wt) → Value)) := [(2, fun u => .bool true)]
noncomputable def u19d4q (a0 : List (List Int)) (Ap0 : Option Addr) (cp0 : Nat) (a2 : S26) (Ap2_0 : Option Addr) (cp2_0 : Nat) (Ap2_1 : Option Addr) (cp2_1 : Nat) (nx0 : Nat) (t1 : Int × Bool) (u : Nat → Wt) : Option (List Value × List (Nat × Value) × List (Nat × Nat)) := qSim Try.prog [] [⟨nx0, [.slice Ap2_0 a2.f0.length cp2_0, .slice Ap2_1 a2.f1.length cp2_1], 26⟩] O19_8 ⟨133, []⟩ (Ld.vl u19d4l) u19d4g u [.no, .no, .no, .no, .no, .no, .no, .no, .no, .no, .no, .no, .no, .no, .no, .no] 0 (O19_8.take 16) [(8, .bool t1.2), (7, i6 t1.1), (5, pt nx0 0), (0, .slice Ap0 a0.length cp0)]
noncomputable def u19d4s (t1 : Int × Bool) (u : Nat → Wt) : List Value := [.bool t1.2, .bool (!t1.2), .bool true, undef, undef, undef, undef, undef, undef, .bool true, .bool true, undef, undef, undef, undef, undef]
noncomputable def u19d4f (a0 : List (List Int)) (Ap0 : Option Addr) (cp0 : Nat) (nx0 : Nat) (t1 : Int × Bool) (i : Nat) (u : Nat → Wt) : List (Nat × Value) := foldPut ⟨133, []⟩ [(8, .bool t1.2), (7, i6 t1.1), (5, pt nx0 0), (0, .slice Ap0 a0.length cp0)] (O19_8.take i) (((u19d4s t1) u).take i)
theorem u19d4v (a0 : List (List Int)) (Ap0 : Option Addr) (cp0 : Nat) (a2 : S26) (Ap2_0 : Option Addr) (cp2_0 : Nat) (Ap2_1 : Option Addr) (cp2_1 : Nat) (nx0 : Nat) (t1 : Int × Bool) (u : Nat → Wt) : (u19d4q a0 Ap0 cp0 a2 Ap2_0 cp2_0 Ap2_1 cp2_1 nx0 t1 u).map (fun x => (x.1, x.2.1)) = some ((u19d4s t1) u, (u19d4f a0 Ap0 cp0 nx0 t1 16) u) := by kernel_rfl
theorem u19d4e (a0 : List (List Int)) (Ap0 : Option Addr) (cp0 : Nat) (a2 : S26) (Ap2_0 : Option Addr) (cp2_0 : Nat) (Ap2_1 : Option Addr) (cp2_1 : Nat) (nx0 : Nat) (t1 : Int × Bool) (u : Nat → Wt) : (u19d4q a0 Ap0 cp0 a2 Ap2_0 cp2_0 Ap2_1 cp2_1 nx0 t1 u).map (fun x => x.2.2.map (·.1)) = (u19d4q a0 Ap0 cp0 a2 Ap2_0 cp2_0 Ap2_1 cp2_1 nx0 t1 u).map (fun x => x.2.2.map (·.2)) := by kernel_rfl
theorem armillaryref22_VerifyDuals.calls (k : Nat) (I0 : Imm) (a0 : List (List Int)) (Ap0 : Option Addr) (cp0 : Nat) (a1 : List Int) (Ap1 : Option Addr) (cp1 : Nat) (a2 : S26) (Ap2_0 : Option Addr) (cp2_0 : Nat) (Ap2_1 : Option Addr) (cp2_1 : Nat) (w : World) (hI : I0.at_ w) (hlp0 : a0.length ≤ cp0) (hrp0 : Rd (Ty.slice (Ty.int .i64)) I0 Ap0 a0) (hlp1 : a1.length ≤ cp1) (hrp1 : Rd (Ty.int .i64) I0 Ap1 a1) (hlp2_0 : a2.f0.length ≤ cp2_0) (hrp2_0 : Rd (Ty.int .i64) I0 Ap2_0 a2.f0) (hlp2_1 : a2.f1.length ≤ cp2_1) (hrp2_1 : Rd (Ty.int .i64) I0 Ap2_1 a2.f1) (r : Bool) (h : armillaryref22_VerifyDuals.f k a0 a1 a2 = some r) :
  Calls Try.prog 19 [.slice Ap0 a0.length cp0, .slice Ap1 a1.length cp1, .agg #[.slice Ap2_0 a2.f0.length cp2_0, .slice Ap2_1 a2.f1.length cp2_1]].toArray w fun e w' => ∃ v, e = .returned v ∧ armillaryref22_VerifyDuals.Post I0 w r v w' := by
 have H : ((armillaryref22_Value.f k a0 a1).bind fun t1 => ((if t1.2 = true then (if (a2.f0.length : Int) ≠ (a0.length : Int) then (some true) else ((armillaryref22_Columns.f a0).bind fun t2 => (some ((a2.f1.length : Int) != t2)))) else (some true)).bind (armillaryref22_VerifyDuals.k8 k a0 a2 t1))) = some r := h
 clear h
 refine calls_body Try.func19 (by kernel_rfl) 133 (by kernel_rfl) (by kernel_rfl) ⟨w, fun _ => False, I0⟩ I0 [] [(0, .slice Ap0 a0.length cp0), (1, .slice Ap1 a1.length cp1), (2, .agg #[.slice Ap2_0 a2.f0.length cp2_0, .slice Ap2_1 a2.f1.length cp2_1])] (by kernel_rfl) (Sat.start w _ I0 hI) ?_
 generalize w.heap.size = nx0
 show OK _ K19_0 _ _ _ _ _ _ _ _
 refine OK.sr ?_
 refine RL.spt 2 [(5, pt nx0 0), (0, .slice Ap0 a0.length cp0), (1, .slice Ap1 a1.length cp1)] (nx0 + 1) [⟨nx0, [.slice Ap2_0 a2.f0.length cp2_0, .slice Ap2_1 a2.f1.length cp2_1], 26⟩] ?_
 refine OK.sr ?_
 refine RL.s 2 [(16, .slice Ap1 a1.length cp1), (15, .slice Ap0 a0.length cp0), (5, pt nx0 0), (0, .slice Ap0 a0.length cp0)] ?_
 obtain ⟨t1, hA1, H⟩ := bnd H
 refine RL.callP 16 [.slice Ap0 a0.length cp0, .slice Ap1 a1.length cp1] (some 17) (fun w => armillaryref22_Value.Post I0 w t1) (by kernel_rfl) (by kernel_rfl) (fun w hs => armillaryref22_Value.calls k I0 a0 Ap0 cp0 a1 Ap1 cp1 w hs.im hlp0 hrp0 hlp1 hrp1 t1 hA1) ?_
 rintro w v w' hs ⟨I1, rfl, hg⟩
 have hi1 := hg.le
 refine RL.resume (X' := []) rfl (hs.call hg) ?_
 clear hs hg
 generalize w'.heap.size = nx1
 clear w w'
 refine RL.st 5 [(8, .bool t1.2), (7, i6 t1.1), (5, pt nx0 0), (0, .slice Ap0 a0.length cp0)] ?_
 refine OK.sq ?_
 refine OK.sq ?_
 refine OK.join (fun K' I' _ L' X' => ∃ (x1 : Bool), K' = [(0, .slice Ap0 a0.length cp0), (5, pt nx0 0), (7, i6 t1.1), (37, .bool x1)] ∧ L' = [⟨nx0, [.slice Ap2_0 a2.f0.length cp2_0, .slice Ap2_1 a2.f1.length cp2_1], 26⟩] ∧ X' = [] ∧ Imm.le I1 I' ∧ armillaryref22_VerifyDuals.k8 k a0 a2 t1 x1 = some r) ?_ ?_
 ·rintro _ I2 nx2 _ _ ⟨x1, rfl, rfl, rfl, hi2, H⟩
  rw [armillaryref22_VerifyDuals.k8] at H
  refine QN.then_ ?_
  refine OK.cd x1 (fun hb => ?_) (fun hb => ?_)
  ·skip
   have hc := hb
   rw [if_pos hc] at H
   clear hb
   refine OK.sr ?_
   refine RL.st 1 [(6, .bool false)] ?_
   refine OK.re ?_
   refine QN.thenR ?_
   obtain rfl := Option.some.inj H
   refine QN.body rfl [] (RFacts.nil _ _ _) (.no) (.bool false) (by kernel_rfl) (by kernel_rfl) (by kernel_rfl) ?_ _ (.inr rfl)
   exact fun w' hs' => ⟨_, rfl, I2, rfl, hs'.got _ .slnil⟩
  ·skip
   have hc := (Bool.eq_false_iff.1 hb)
   rw [if_neg hc] at H
   clear hb
   refine OK.skt ?_
   refine OK.sr ?_
   refine RL.st 2 [(9, i6 t1.1), (0, .slice Ap0 a0.length cp0), (5, pt nx0 0)] ?_
   refine OK.sq ?_
   refine OK.sr ?_
   refine RL.st 1 [(10, i6 0), (9, i6 t1.1), (0, .slice Ap0 a0.length cp0), (5, pt nx0 0)] ?_
   refine OK.join (fun K' I' _ L' X' => ∃ (x2 : Int), K' = [(0, .slice Ap0 a0.length cp0), (5, pt nx0 0), (9, i6 x2)] ∧ L' = [⟨nx0, [.slice Ap2_0 a2.f0.length cp2_0, .slice Ap2_1 a2.f1.length cp2_1], 26⟩] ∧ X' = [] ∧ Imm.le I2 I' ∧ armillaryref22_VerifyDuals.k6 k a0 a2 (Sum.inl x2) = some r) ?_ ?_
   ·rintro _ I3 nx3 _ _ ⟨x2, rfl, rfl, rfl, hi3, H⟩
    rw [armillaryref22_VerifyDuals.k6] at H
    refine QN.then_ ?_
    refine OK.sq ?_
    refine OK.sr ?_
    refine RL.st 1 [(11, i6 0), (0, .slice Ap0 a0.length cp0), (5, pt nx0 0), (9, i6 x2)] ?_
    refine OK.join (fun K' I' _ L' X' => ∃ (x3 : Int), K' = [(0, .slice Ap0 a0.length cp0), (5, pt nx0 0), (9, i6 x3)] ∧ L' = [⟨nx0, [.slice Ap2_0 a2.f0.length cp2_0, .slice Ap2_1 a2.f1.length cp2_1], 26⟩] ∧ X' = [] ∧ Imm.le I3 I' ∧ armillaryref22_VerifyDuals.k4 k a0 a2 (Sum.inl x3) = some r) ?_ ?_
    ·rintro _ I4 nx4 _ _ ⟨x3, rfl, rfl, rfl, hi4, H⟩
     rw [armillaryref22_VerifyDuals.k4] at H
     refine QN.then_ ?_
     refine OK.sq ?_
     refine OK.sr ?_
     refine RL.st 1 [(12, i6 0), (0, .slice Ap0 a0.length cp0), (5, pt nx0 0), (9, i6 x3)] ?_
     refine OK.join (fun K' I' _ L' X' => K' = [(9, i6 x3)] ∧ L' = [⟨nx0, [.slice Ap2_0 a2.f0.length cp2_0, .slice Ap2_1 a2.f1.length cp2_1], 26⟩] ∧ X' = [] ∧ Imm.le I4 I' ∧ armillaryref22_VerifyDuals.k1 x3 (Sum.inl ()) = some r) ?_ ?_
     ·rintro _ I5 nx5 _ _ ⟨rfl, rfl, rfl, hi5, H⟩
      rw [armillaryref22_VerifyDuals.k1] at H
      refine QN.then_ ?_
      refine OK.sr ?_
      refine RL.st 3 [(6, .bool (x3 == 0))] ?_
      refine OK.re ?_
      obtain rfl := Option.some.inj H
      refine QN.body rfl [] (RFacts.nil _ _ _) (.no) (.bool (x3 == 0)) (by kernel_rfl) (by kernel_rfl) (by kernel_rfl) ?_ _ (.inr rfl)
      exact fun w' hs' => ⟨_, rfl, I5, rfl, hs'.got _ .slnil⟩
     ·intro Q_1 hJ4 hQ4
      obtain ⟨y4, H, HK4⟩ := bnd H
      refine OK.bk 4 ?_
      refine OK.sub (K' := [(0, .slice Ap0 a0.length cp0), (5, pt nx0 0), (9, i6 x3), (12, i6 0)]) (L' := [⟨nx0, [.slice Ap2_0 a2.f0.length cp2_0, .slice Ap2_1 a2.f1.length cp2_1], 26⟩]) (by kernel_rfl) (.cons_cons _ .slnil) (.refl _) ?_
      refine OK.lp (fun n_ K' I' _ L' X' => ∃ (x4 : Int), K' = [(0, .slice Ap0 a0.length cp0), (5, pt nx0 0), (9, i6 x3), (12, i6 x4)] ∧ L' = [⟨nx0, [.slice Ap2_0 a2.f0.length cp2_0, .slice Ap2_1 a2.f1.length cp2_1], 26⟩] ∧ X' = [] ∧ Imm.le I4 I' ∧ armillaryref22_VerifyDuals.l1 a0 a2 n_ x4 = some y4) k ⟨0, rfl, rfl, rfl, (Imm.le_refl _), H⟩ ?_ ?_
      ·rintro _ _ _ _ _ ⟨x4, rfl, rfl, rfl, _, H⟩
       cases H
      ·rintro kq1 _ I6 nx6 _ _ ⟨x4, rfl, rfl, rfl, hi6, H⟩ Q_l1 hJ5 hQ5
       rw [armillaryref22_VerifyDuals.l1] at H
       refine OK.sq ?_
       refine OK.sr ?_
       refine RL.st 4 [(100, .bool (decide (x4 < (a0.length : Int)))), (0, .slice Ap0 a0.length cp0), (5, pt nx0 0), (9, i6 x3), (12, i6 x4)] ?_
       refine OK.cd (decide (x4 < (a0.length : Int))) (fun hb => ?_) (fun hb => ?_)
       ·skip
        have hc := (of_decide_eq_true hb)
        rw [if_pos hc] at H
        clear hb
        refine OK.skt ?_
        refine OK.sq ?_
        refine OK.join (fun K' I' _ L' X' => K' = [(0, .slice Ap0 a0.length cp0), (5, pt nx0 0), (9, i6 x3), (12, i6 x4)] ∧ L' = [⟨nx0, [.slice Ap2_0 a2.f0.length cp2_0, .slice Ap2_1 a2.f1.length cp2_1], 26⟩] ∧ X' = [] ∧ Imm.le I6 I' ∧ (armillaryref22_VerifyDuals.l1 a0 a2 kq1 (W .i64 (x4 + 1))) = some y4) ?_ ?_
        ·rintro _ I7 nx7 _ _ ⟨rfl, rfl, rfl, hi7, H⟩
         replace H : (armillaryref22_VerifyDuals.l1 a0 a2 kq1 (W .i64 (x4 + 1))) = some y4 := H
         refine QN.then_ ?_
         refine OK.rg ?_
         refine RL.s 3 [(12, i6 (W .i64 (x4 + 1))), (0, .slice Ap0 a0.length cp0), (5, pt nx0 0), (9, i6 x3)] ?_
         refine RL.nil (by kernel_rfl) ?_
         exact QN.sb (hJ5 _ _ _ _ _ ⟨W .i64 (x4 + 1), rfl, rfl, rfl, (Imm.le_trans hi6 hi7), H⟩) (.cons_cons _ .slnil) (.refl _)
        ·intro Q_2 hJ6 hQ6
         obtain ⟨y5, H, HK5⟩ := bnd H
         refine OK.bk 5 ?_
         refine OK.sr ?_
         refine RL.st 1 [(13, i6 0), (0, .slice Ap0 a0.length cp0), (5, pt nx0 0), (9, i6 x3), (12, i6 x4)] ?_
         refine OK.join (fun K' I' _ L' X' => K' = [(0, .slice Ap0 a0.length cp0), (5, pt nx0 0), (9, i6 x3), (12, i6 x4)] ∧ L' = [⟨nx0, [.slice Ap2_0 a2.f0.length cp2_0, .slice Ap2_1 a2.f1.length cp2_1], 26⟩] ∧ X' = [] ∧ Imm.le I6 I' ∧ armillaryref22_VerifyDuals.k3 (Sum.inl ()) = some y5) ?_ ?_
         ·rintro _ I8 nx8 _ _ ⟨rfl, rfl, rfl, hi8, H⟩
          rw [armillaryref22_VerifyDuals.k3] at H
          refine QN.blkN ?_
          obtain rfl := Option.some.inj H
          exact QN.sb (hJ6 _ _ _ _ _ ⟨rfl, rfl, rfl, hi8, HK5⟩) (.cons_cons _ .slnil) (.refl _)
         ·intro Q_3 hJ7 hQ7
          obtain ⟨y6, H, HK6⟩ := bnd H
          refine OK.bk 6 ?_
          refine OK.sub (K' := [(0, .slice Ap0 a0.length cp0), (5, pt nx0 0), (9, i6 x3), (12, i6 x4), (13, i6 0)]) (L' := [⟨nx0, [.slice Ap2_0 a2.f0.length cp2_0, .slice Ap2_1 a2.f1.length cp2_1], 26⟩]) (by kernel_rfl) (.cons_cons _ .slnil) (.refl _) ?_
          refine OK.lp (fun n_ K' I' _ L' X' => ∃ (x5 : Int), K' = [(0, .slice Ap0 a0.length cp0), (5, pt nx0 0), (9, i6 x3), (12, i6 x4), (13, i6 x5)] ∧ L' = [⟨nx0, [.slice Ap2_0 a2.f0.length cp2_0, .slice Ap2_1 a2.f1.length cp2_1], 26⟩] ∧ X' = [] ∧ Imm.le I6 I' ∧ armillaryref22_VerifyDuals.l2 a0 a2 x4 n_ x5 = some y6) kq1 ⟨0, rfl, rfl, rfl, (Imm.le_refl _), H⟩ ?_ ?_
          ·rintro _ _ _ _ _ ⟨x5, rfl, rfl, rfl, _, H⟩
           cases H
          ·rintro kq2 _ I9 nx9 _ _ ⟨x5, rfl, rfl, rfl, hi9, H⟩ Q_l2 hJ8 hQ8
           rw [armillaryref22_VerifyDuals.l2] at H
           refine OK.sq ?_
           refine OK.sr ?_
           refine RL.s 3 [(105, i6 x4), (104, .slice Ap0 a0.length cp0), (103, i6 x5), (0, .slice Ap0 a0.length cp0), (5, pt nx0 0), (9, i6 x3), (12, i6 x4), (13, i6 x5)] ?_
           obtain ⟨hib0, H⟩ := ifs H
           obtain ⟨hib1, H⟩ := ifs H
           obtain ⟨g1_, o1_, hA1_, A1_, c1_, hl1_, hr1_, hc1_⟩ := Ty.slice_at (Rd.ext (Imm.le_trans (Imm.le_trans (Imm.le_trans (Imm.le_trans (Imm.le_trans hi1 hi2) hi3) hi4) hi6) hi9) hrp0) x4 hib0 hib1
           refine RL.idx 1 .i64 x4 hA1_ a0.length cp0 (some 106) (by kernel_rfl) (by kernel_rfl) (T := 22) (e := 24) (by kernel_rfl) (by kernel_rfl) hib0 hib1 (K' := [(106, pt g1_ (o1_ + (x4).toNat * 1)), (105, i6 x4), (104, .slice Ap0 a0.length cp0), (103, i6 x5), (0, .slice Ap0 a0.length cp0), (5, pt nx0 0), (9, i6 x3), (12, i6 x4), (13, i6 x5)]) (by kernel_rfl) ?_
           refine RL.simK (K' := [(109, .bool (decide (x5 < ((a0.getD (x4).toNat []).length : Int)))), (0, .slice Ap0 a0.length cp0), (5, pt nx0 0), (9, i6 x3), (12, i6 x4), (13, i6 x5)]) [(⟨g1_, o1_ + (x4).toNat * 1, none⟩, .slice A1_ ((a0.getD (x4).toNat []).length) c1_)] (RFacts.imm (hc1_ 0 _ rfl) (RFacts.nil _ _ _)) 3 [.r 0, .no, .no] (by kernel_rfl) (by kernel_rfl) ?_
           refine RL.nt ?_
           refine OK.cd (decide (x5 < ((a0.getD (x4).toNat []).length : Int))) (fun hb => ?_) (fun hb => ?_)
           ·skip
            have hc := (of_decide_eq_true hb)
            rw [if_pos hc] at H
            clear hb
            refine OK.skt ?_
            refine OK.sq ?_
            refine OK.bk 7 ?_
            refine OK.sq ?_
            obtain ⟨hi0_1, H⟩ := ifs H
            obtain ⟨hi1_1, H⟩ := ifs H
            obtain ⟨g2_, o2_, hA2_, hc2_⟩ := Ty.int_at (Rd.ext (Imm.le_trans (Imm.le_trans (Imm.le_trans (Imm.le_trans (Imm.le_trans hi1 hi2) hi3) hi4) hi6) hi9) hrp2_0) x4 hi0_1 hi1_1
            obtain ⟨hi0_2, H⟩ := ifs H
            obtain ⟨hi1_2, H⟩ := ifs H
            obtain ⟨g3_, o3_, hA3_, hc3_⟩ := Ty.int_at (Rd.ext (Imm.le_trans (Imm.le_trans (Imm.le_trans (Imm.le_trans (Imm.le_trans hi1 hi2) hi3) hi4) hi6) hi9) hrp2_1) x5 hi0_2 hi1_2
            obtain ⟨hi0_3, H⟩ := ifs H
            obtain ⟨hi1_3, H⟩ := ifs H
            obtain ⟨g4_, o4_, hA4_, A4_, c4_, hl4_, hr4_, hc4_⟩ := Ty.slice_at (Rd.ext (Imm.le_trans (Imm.le_trans (Imm.le_trans (Imm.le_trans (Imm.le_trans hi1 hi2) hi3) hi4) hi6) hi9) hrp0) x4 hi0_3 hi1_3
            obtain ⟨hi0_4, H⟩ := ifs H
            obtain ⟨hi1_4, H⟩ := ifs H
            obtain ⟨g5_, o5_, hA5_, hc5_⟩ := Ty.int_at hr4_ x5 hi0_4 hi1_4
            refine OK.drawnC 23 18 O19_107 a19_107n (by kernel_rfl) (by kernel_rfl) u19d1l (u19d1g x4 x5 g2_ o2_ g3_ o3_ g4_ o4_ g5_ o5_) [(⟨g2_, o2_ + (x4).toNat * 1, none⟩, i6 (a2.f0.getD (x4).toNat 0)), (⟨g3_, o3_ + (x5).toNat * 1, none⟩, i6 (a2.f1.getD (x5).toNat 0)), (⟨g4_, o4_ + (x4).toNat * 1, none⟩, .slice A4_ ((a0.getD (x4).toNat []).length) c4_), (⟨g5_, o5_ + (x5).toNat * 1, none⟩, i6 ((a0.getD (x4).toNat []).getD (x5).toNat 0))] (RI.cons (hc2_ 0 _ rfl) (RI.cons (hc3_ 0 _ rfl) (RI.cons (hc4_ 0 _ rfl) (RI.cons (hc5_ 0 _ rfl) (RI.nil _))))) [.no, .l 0, .no, .no, .r 0, .no, .l 0, .no, .no, .r 1, .no, .no, .no, .no, .r 2, .no, .no, .r 3] a19_107 a19_107o (by kernel_rfl) (by kernel_rfl) (u19d1s a0 Ap0 cp0 a2 Ap2_0 cp2_0 Ap2_1 cp2_1 nx0 x4 x5 g2_ o2_ g3_ o3_ A4_ c4_ g4_ o4_ g5_ o5_) (u19d1f a0 Ap0 cp0 a2 Ap2_0 cp2_0 Ap2_1 cp2_1 nx0 x3 x4 x5 g2_ o2_ g3_ o3_ A4_ c4_ g4_ o4_ g5_ o5_ 18) (u19d1v a0 Ap0 cp0 a2 Ap2_0 cp2_0 Ap2_1 cp2_1 nx0 x3 x4 x5 g2_ o2_ g3_ o3_ A4_ c4_ g4_ o4_ g5_ o5_) (u19d1e a0 Ap0 cp0 a2 Ap2_0 cp2_0 Ap2_1 cp2_1 nx0 x3 x4 x5 g2_ o2_ g3_ o3_ A4_ c4_ g4_ o4_ g5_ o5_) [] framesOk.nil ?_ [u19d1f a0 Ap0 cp0 a2 Ap2_0 cp2_0 Ap2_1 cp2_1 nx0 x3 x4 x5 g2_ o2_ g3_ o3_ A4_ c4_ g4_ o4_ g5_ o5_ 3, u19d1f a0 Ap0 cp0 a2 Ap2_0 cp2_0 Ap2_1 cp2_1 nx0 x3 x4 x5 g2_ o2_ g3_ o3_ A4_ c4_ g4_ o4_ g5_ o5_ 8, u19d1f a0 Ap0 cp0 a2 Ap2_0 cp2_0 Ap2_1 cp2_1 nx0 x3 x4 x5 g2_ o2_ g3_ o3_ A4_ c4_ g4_ o4_ g5_ o5_ 13, u19d1f a0 Ap0 cp0 a2 Ap2_0 cp2_0 Ap2_1 cp2_1 nx0 x3 x4 x5 g2_ o2_ g3_ o3_ A4_ c4_ g4_ o4_ g5_ o5_ 16] (framesOk.cons (fun u => rfl) (framesOk.cons (fun u => rfl) (framesOk.cons (fun u => rfl) (framesOk.cons (fun u => rfl) framesOk.nil)))) ?_ ?_
            ·refine LoudsG.nil
            ·refine Givens.cons (fun u w =>  ?_) (fun _ _ _ => rfl) (Givens.cons (fun u w =>  ?_) (fun _ _ _ => rfl) (Givens.cons (fun u w =>  ?_) (fun _ _ _ => rfl) (Givens.cons (fun u w =>  ?_) (fun _ _ _ => rfl) (Givens.nil))))
             ·exact giv_idx (T := 24) (e := 2) 1 .i64 x4 hA2_ a2.f0.length cp2_0 (by kernel_rfl) (by kernel_rfl) (by kernel_rfl) hi0_1 hi1_1 w
             ·exact giv_idx (T := 24) (e := 2) 1 .i64 x5 hA3_ a2.f1.length cp2_1 (by kernel_rfl) (by kernel_rfl) (by kernel_rfl) hi0_2 hi1_2 w
             ·exact giv_idx (T := 22) (e := 24) 1 .i64 x4 hA4_ a0.length cp0 (by kernel_rfl) (by kernel_rfl) (by kernel_rfl) hi0_3 hi1_3 w
             ·exact giv_idx (T := 24) (e := 2) 1 .i64 x5 hA5_ ((a0.getD (x4).toNat []).length) c4_ (by kernel_rfl) (by kernel_rfl) (by kernel_rfl) hi0_4 hi1_4 w
            intro u I10 nx10 hi10 hF
            clear hF
            refine RL.norm (K' := [(129, i6 ((a0.getD (x4).toNat []).getD (x5).toNat 0)), (128, pt g5_ (o5_ + (x5).toNat * 1)), (127, i6 x5), (126, .slice A4_ ((a0.getD (x4).toNat []).length) c4_), (125, pt g4_ (o4_ + (x4).toNat * 1)), (124, i6 x4), (123, .slice Ap0 a0.length cp0), (122, i6 (W .i64 ((a2.f0.getD (x4).toNat 0) + (a2.f1.getD (x5).toNat 0)))), (121, i6 (a2.f1.getD (x5).toNat 0)), (120, pt g3_ (o3_ + (x5).toNat * 1)), (119, i6 x5), (118, .slice Ap2_1 a2.f1.length cp2_1), (117, pt nx0 1), (116, i6 (a2.f0.getD (x4).toNat 0)), (115, pt g2_ (o2_ + (x4).toNat * 1)), (114, i6 x4), (113, .slice Ap2_0 a2.f0.length cp2_0), (112, pt nx0 0), (109, .bool (decide (x5 < ((a0.getD (x4).toNat []).length : Int)))), (0, .slice Ap0 a0.length cp0), (5, pt nx0 0), (9, i6 x3), (12, i6 x4), (13, i6 x5)]) (X' := []) (by kernel_rfl) rfl rfl rfl ?_
            refine RL.st 1 [(130, .bool (decide ((W .i64 ((a2.f0.getD (x4).toNat 0) + (a2.f1.getD (x5).toNat 0))) < ((a0.getD (x4).toNat []).getD (x5).toNat 0)))), (0, .slice Ap0 a0.length cp0), (5, pt nx0 0), (9, i6 x3), (12, i6 x4), (13, i6 x5)] ?_
            refine OK.cd (decide ((W .i64 ((a2.f0.getD (x4).toNat 0) + (a2.f1.getD (x5).toNat 0))) < ((a0.getD (x4).toNat []).getD (x5).toNat 0))) (fun hb => ?_) (fun hb => ?_)
            ·skip
             have hc := (of_decide_eq_true hb)
             rw [if_pos hc] at H
             clear hb
             refine OK.sr ?_
             refine RL.st 1 [(6, .bool false)] ?_
             refine OK.re ?_
             refine QN.blkR ?_
             refine QN.thenR ?_
             refine QN.outR hQ8 ?_
             refine QN.blkR ?_
             refine QN.outR hQ7 ?_
             refine QN.blkR ?_
             refine QN.outR hQ6 ?_
             refine QN.thenR ?_
             refine QN.outR hQ5 ?_
             refine QN.blkR ?_
             refine QN.outR hQ4 ?_
             refine QN.thenR ?_
             obtain rfl := Option.some.inj H
             replace H : some (Sum.inr false) = some y5 := HK6
             obtain rfl := Option.some.inj H
             replace H : some (Sum.inr false) = some y4 := HK5
             obtain rfl := Option.some.inj H
             replace H : some false = some r := HK4
             obtain rfl := Option.some.inj H
             refine QN.body rfl [] (RFacts.nil _ _ _) (.no) (.bool false) (by kernel_rfl) (by kernel_rfl) (by kernel_rfl) ?_ _ (.inr rfl)
             exact fun w' hs' => ⟨_, rfl, I10, rfl, hs'.got _ .slnil⟩
            ·skip
             have hc := (of_decide_eq_false hb)
             rw [if_neg hc] at H
             clear hb
             refine OK.sk ?_
             refine QN.blkN ?_
             refine QN.then_ ?_
             refine OK.rg ?_
             refine RL.s 3 [(13, i6 (W .i64 (x5 + 1))), (0, .slice Ap0 a0.length cp0), (5, pt nx0 0), (9, i6 x3), (12, i6 x4)] ?_
             refine RL.nil (by kernel_rfl) ?_
             exact QN.sb (hJ8 _ _ _ _ _ ⟨W .i64 (x5 + 1), rfl, rfl, rfl, (Imm.le_trans hi9 hi10), H⟩) (.cons_cons _ .slnil) (.refl _)
           ·skip
            have hc := (of_decide_eq_false hb)
            rw [if_neg hc] at H
            clear hb
            refine OK.ex 6 ?_
            refine QN.thenE ?_
            refine QN.outE hQ8 ?_
            refine QN.blkE ?_
            obtain rfl := Option.some.inj H
            exact QN.sb (hJ7 _ _ _ _ _ ⟨rfl, rfl, rfl, hi9, HK6⟩) (.cons_cons _ .slnil) (.refl _)
       ·skip
        have hc := (of_decide_eq_false hb)
        rw [if_neg hc] at H
        clear hb
        refine OK.ex 4 ?_
        refine QN.thenE ?_
        refine QN.outE hQ5 ?_
        refine QN.blkE ?_
        obtain rfl := Option.some.inj H
        exact QN.sb (hJ4 _ _ _ _ _ ⟨rfl, rfl, rfl, hi6, HK4⟩) (.cons_cons _ .slnil) (.refl _)
    ·intro Q_4 hJ3 hQ3
     obtain ⟨y3, H, HK3⟩ := bnd H
     refine OK.bk 2 ?_
     refine OK.sub (K' := [(0, .slice Ap0 a0.length cp0), (5, pt nx0 0), (9, i6 x2), (11, i6 0)]) (L' := [⟨nx0, [.slice Ap2_0 a2.f0.length cp2_0, .slice Ap2_1 a2.f1.length cp2_1], 26⟩]) (by kernel_rfl) (.cons_cons _ .slnil) (.refl _) ?_
     refine OK.lp (fun n_ K' I' _ L' X' => ∃ (x6 : Int) (x7 : Int), K' = [(0, .slice Ap0 a0.length cp0), (5, pt nx0 0), (9, i6 x6), (11, i6 x7)] ∧ L' = [⟨nx0, [.slice Ap2_0 a2.f0.length cp2_0, .slice Ap2_1 a2.f1.length cp2_1], 26⟩] ∧ X' = [] ∧ Imm.le I3 I' ∧ armillaryref22_VerifyDuals.l3 a2 n_ x6 x7 = some y3) k ⟨x2, 0, rfl, rfl, rfl, (Imm.le_refl _), H⟩ ?_ ?_
     ·rintro _ _ _ _ _ ⟨x6, x7, rfl, rfl, rfl, _, H⟩
      cases H
     ·rintro kq3 _ I11 nx11 _ _ ⟨x6, x7, rfl, rfl, rfl, hi11, H⟩ Q_l3 hJ9 hQ9
      rw [armillaryref22_VerifyDuals.l3] at H
      refine OK.sq ?_
      refine OK.sr ?_
      refine RL.simK (K' := [(72, .bool (decide (x7 < (a2.f1.length : Int)))), (0, .slice Ap0 a0.length cp0), (5, pt nx0 0), (9, i6 x6), (11, i6 x7)]) [] (RFacts.nil _ _ _) 5 [.no, .no, .l 0, .no, .no] (by kernel_rfl) (by kernel_rfl) ?_
      refine RL.nt ?_
      refine OK.cd (decide (x7 < (a2.f1.length : Int))) (fun hb => ?_) (fun hb => ?_)
      ·skip
       have hc := (of_decide_eq_true hb)
       rw [if_pos hc] at H
       clear hb
       refine OK.skt ?_
       refine OK.sq ?_
       refine OK.bk 3 ?_
       refine OK.sq ?_
       refine OK.sq ?_
       refine OK.join (fun K' I' _ L' X' => ∃ (x8 : Bool), K' = [(0, .slice Ap0 a0.length cp0), (5, pt nx0 0), (9, i6 x6), (11, i6 x7), (89, .bool x8)] ∧ L' = [⟨nx0, [.slice Ap2_0 a2.f0.length cp2_0, .slice Ap2_1 a2.f1.length cp2_1], 26⟩] ∧ X' = [] ∧ Imm.le I11 I' ∧ (if x8 = true then (some (Sum.inr false)) else (if 0 ≤ x7 then (if x7 < (a2.f1.length : Int) then (armillaryref22_VerifyDuals.l3 a2 kq3 (W .i64 (x6 - (a2.f1.getD (x7).toNat 0))) (W .i64 (x7 + 1))) else none) else none)) = some y3) ?_ ?_
       ·rintro _ I12 nx12 _ _ ⟨x8, rfl, rfl, rfl, hi12, H⟩
        replace H : (if x8 = true then (some (Sum.inr false)) else (if 0 ≤ x7 then (if x7 < (a2.f1.length : Int) then (armillaryref22_VerifyDuals.l3 a2 kq3 (W .i64 (x6 - (a2.f1.getD (x7).toNat 0))) (W .i64 (x7 + 1))) else none) else none)) = some y3 := H
        refine QN.then_ ?_
        refine OK.cd x8 (fun hb => ?_) (fun hb => ?_)
        ·skip
         have hc := hb
         rw [if_pos hc] at H
         clear hb
         refine OK.sr ?_
         refine RL.st 1 [(6, .bool false)] ?_
         refine OK.re ?_
         refine QN.thenR ?_
         refine QN.blkR ?_
         refine QN.thenR ?_
         refine QN.outR hQ9 ?_
         refine QN.blkR ?_
         refine QN.outR hQ3 ?_
         refine QN.thenR ?_
         obtain rfl := Option.some.inj H
         replace H : some false = some r := HK3
         obtain rfl := Option.some.inj H
         refine QN.body rfl [] (RFacts.nil _ _ _) (.no) (.bool false) (by kernel_rfl) (by kernel_rfl) (by kernel_rfl) ?_ _ (.inr rfl)
         exact fun w' hs' => ⟨_, rfl, I12, rfl, hs'.got _ .slnil⟩
        ·skip
         have hc := (Bool.eq_false_iff.1 hb)
         rw [if_neg hc] at H
         clear hb
         refine OK.skt ?_
         refine OK.rg ?_
         refine RL.simK (K' := [(93, i6 x7), (92, .slice Ap2_1 a2.f1.length cp2_1), (90, i6 x6), (0, .slice Ap0 a0.length cp0), (5, pt nx0 0), (9, i6 x6), (11, i6 x7)]) [] (RFacts.nil _ _ _) 4 [.no, .no, .l 0, .no] (by kernel_rfl) (by kernel_rfl) ?_
         obtain ⟨hib0, H⟩ := ifs H
         obtain ⟨hib1, H⟩ := ifs H
         obtain ⟨g6_, o6_, hA6_, hc6_⟩ := Ty.int_at (Rd.ext (Imm.le_trans (Imm.le_trans (Imm.le_trans (Imm.le_trans hi1 hi2) hi3) hi11) hi12) hrp2_1) x7 hib0 hib1
         refine RL.idx 1 .i64 x7 hA6_ a2.f1.length cp2_1 (some 94) (by kernel_rfl) (by kernel_rfl) (T := 24) (e := 2) (by kernel_rfl) (by kernel_rfl) hib0 hib1 (K' := [(94, pt g6_ (o6_ + (x7).toNat * 1)), (93, i6 x7), (92, .slice Ap2_1 a2.f1.length cp2_1), (90, i6 x6), (0, .slice Ap0 a0.length cp0), (5, pt nx0 0), (9, i6 x6), (11, i6 x7)]) (by kernel_rfl) ?_
         refine RL.simK (K' := [(9, i6 (W .i64 (x6 - (a2.f1.getD (x7).toNat 0)))), (0, .slice Ap0 a0.length cp0), (5, pt nx0 0), (11, i6 x7)]) [(⟨g6_, o6_ + (x7).toNat * 1, none⟩, i6 (a2.f1.getD (x7).toNat 0))] (RFacts.imm (hc6_ 0 _ rfl) (RFacts.nil _ _ _)) 3 [.r 0, .no, .no] (by kernel_rfl) (by kernel_rfl) ?_
         refine RL.nil (by kernel_rfl) ?_
         refine QN.blkN ?_
         refine QN.then_ ?_
         refine OK.rg ?_
         refine RL.s 3 [(11, i6 (W .i64 (x7 + 1))), (9, i6 (W .i64 (x6 - (a2.f1.getD (x7).toNat 0)))), (0, .slice Ap0 a0.length cp0), (5, pt nx0 0)] ?_
         refine RL.nil (by kernel_rfl) ?_
         exact QN.sb (hJ9 _ _ _ _ _ ⟨W .i64 (x6 - (a2.f1.getD (x7).toNat 0)), W .i64 (x7 + 1), rfl, rfl, rfl, (Imm.le_trans hi11 hi12), H⟩) (.cons_cons _ .slnil) (.refl _)
       ·intro Q_5 hJ10 hQ10
        obtain ⟨y7, H, HK7⟩ := bnd H
        refine OK.rg ?_
        refine RL.simK (K' := [(77, i6 x7), (76, .slice Ap2_1 a2.f1.length cp2_1), (0, .slice Ap0 a0.length cp0), (5, pt nx0 0), (9, i6 x6), (11, i6 x7)]) [] (RFacts.nil _ _ _) 3 [.no, .l 0, .no] (by kernel_rfl) (by kernel_rfl) ?_
        obtain ⟨hib0, H⟩ := ifs H
        obtain ⟨hib1, H⟩ := ifs H
        obtain ⟨g7_, o7_, hA7_, hc7_⟩ := Ty.int_at (Rd.ext (Imm.le_trans (Imm.le_trans (Imm.le_trans hi1 hi2) hi3) hi11) hrp2_1) x7 hib0 hib1
        refine RL.idx 1 .i64 x7 hA7_ a2.f1.length cp2_1 (some 78) (by kernel_rfl) (by kernel_rfl) (T := 24) (e := 2) (by kernel_rfl) (by kernel_rfl) hib0 hib1 (K' := [(78, pt g7_ (o7_ + (x7).toNat * 1)), (77, i6 x7), (76, .slice Ap2_1 a2.f1.length cp2_1), (0, .slice Ap0 a0.length cp0), (5, pt nx0 0), (9, i6 x6), (11, i6 x7)]) (by kernel_rfl) ?_
        refine RL.simK (K' := [(81, .bool (decide ((a2.f1.getD (x7).toNat 0) < 0))), (0, .slice Ap0 a0.length cp0), (5, pt nx0 0), (9, i6 x6), (11, i6 x7)]) [(⟨g7_, o7_ + (x7).toNat * 1, none⟩, i6 (a2.f1.getD (x7).toNat 0))] (RFacts.imm (hc7_ 0 _ rfl) (RFacts.nil _ _ _)) 3 [.r 0, .no, .no] (by kernel_rfl) (by kernel_rfl) ?_
        refine RL.cases (decide ((a2.f1.getD (x7).toNat 0) < 0)) (fun hb => ?_) (fun hb => ?_)
        ·have hc := (of_decide_eq_true hb)
         rw [hb]
         rw [if_pos hc] at H; clear hb
         refine RL.s 8 [(89, .bool true), (0, .slice Ap0 a0.length cp0), (5, pt nx0 0), (9, i6 x6), (11, i6 x7)] ?_
         refine RL.nil (by kernel_rfl) ?_
         obtain rfl := Option.some.inj H
         exact QN.sb (hJ10 _ _ _ _ _ ⟨true, rfl, rfl, rfl, (Imm.le_refl _), HK7⟩) (.cons_cons _ .slnil) (.refl _)
        ·have hc := (of_decide_eq_false hb)
         rw [hb]
         rw [if_neg hc] at H; clear hb
         refine RL.simK (K' := [(84, i6 x7), (83, .slice Ap2_1 a2.f1.length cp2_1), (81, .bool false), (0, .slice Ap0 a0.length cp0), (5, pt nx0 0), (9, i6 x6), (11, i6 x7)]) [] (RFacts.nil _ _ _) 3 [.no, .l 0, .no] (by kernel_rfl) (by kernel_rfl) ?_
         obtain ⟨hib0, H⟩ := ifs H
         obtain ⟨hib1, H⟩ := ifs H
         obtain ⟨g8_, o8_, hA8_, hc8_⟩ := Ty.int_at (Rd.ext (Imm.le_trans (Imm.le_trans (Imm.le_trans hi1 hi2) hi3) hi11) hrp2_1) x7 hib0 hib1
         refine RL.idx 1 .i64 x7 hA8_ a2.f1.length cp2_1 (some 85) (by kernel_rfl) (by kernel_rfl) (T := 24) (e := 2) (by kernel_rfl) (by kernel_rfl) hib0 hib1 (K' := [(85, pt g8_ (o8_ + (x7).toNat * 1)), (84, i6 x7), (83, .slice Ap2_1 a2.f1.length cp2_1), (81, .bool false), (0, .slice Ap0 a0.length cp0), (5, pt nx0 0), (9, i6 x6), (11, i6 x7)]) (by kernel_rfl) ?_
         refine RL.simK (K' := [(89, .bool (decide ((a2.f1.getD (x7).toNat 0) > x6))), (0, .slice Ap0 a0.length cp0), (5, pt nx0 0), (9, i6 x6), (11, i6 x7)]) [(⟨g8_, o8_ + (x7).toNat * 1, none⟩, i6 (a2.f1.getD (x7).toNat 0))] (RFacts.imm (hc8_ 0 _ rfl) (RFacts.nil _ _ _)) 4 [.r 0, .no, .no, .no] (by kernel_rfl) (by kernel_rfl) ?_
         refine RL.nil (by kernel_rfl) ?_
         obtain rfl := Option.some.inj H
         exact QN.sb (hJ10 _ _ _ _ _ ⟨(decide ((a2.f1.getD (x7).toNat 0) > x6)), rfl, rfl, rfl, (Imm.le_refl _), HK7⟩) (.cons_cons _ .slnil) (.refl _)
      ·skip
       have hc := (of_decide_eq_false hb)
       rw [if_neg hc] at H
       clear hb
       refine OK.ex 2 ?_
       refine QN.thenE ?_
       refine QN.outE hQ9 ?_
       refine QN.blkE ?_
       obtain rfl := Option.some.inj H
       exact QN.sb (hJ3 _ _ _ _ _ ⟨x6, rfl, rfl, rfl, hi11, HK3⟩) (.cons_cons _ .slnil) (.refl _)
   ·intro Q_6 hJ2 hQ2
    obtain ⟨y2, H, HK2⟩ := bnd H
    refine OK.bk 0 ?_
    refine OK.sub (K' := [(0, .slice Ap0 a0.length cp0), (5, pt nx0 0), (9, i6 t1.1), (10, i6 0)]) (L' := [⟨nx0, [.slice Ap2_0 a2.f0.length cp2_0, .slice Ap2_1 a2.f1.length cp2_1], 26⟩]) (by kernel_rfl) (.cons_cons _ .slnil) (.refl _) ?_
    refine OK.lp (fun n_ K' I' _ L' X' => ∃ (x9 : Int) (x10 : Int), K' = [(0, .slice Ap0 a0.length cp0), (5, pt nx0 0), (9, i6 x9), (10, i6 x10)] ∧ L' = [⟨nx0, [.slice Ap2_0 a2.f0.length cp2_0, .slice Ap2_1 a2.f1.length cp2_1], 26⟩] ∧ X' = [] ∧ Imm.le I2 I' ∧ armillaryref22_VerifyDuals.l4 a2 n_ x9 x10 = some y2) k ⟨t1.1, 0, rfl, rfl, rfl, (Imm.le_refl _), H⟩ ?_ ?_
    ·rintro _ _ _ _ _ ⟨x9, x10, rfl, rfl, rfl, _, H⟩
     cases H
    ·rintro kq4 _ I13 nx13 _ _ ⟨x9, x10, rfl, rfl, rfl, hi13, H⟩ Q_l4 hJ11 hQ11
     rw [armillaryref22_VerifyDuals.l4] at H
     refine OK.sq ?_
     refine OK.sr ?_
     refine RL.simK (K' := [(43, .bool (decide (x10 < (a2.f0.length : Int)))), (0, .slice Ap0 a0.length cp0), (5, pt nx0 0), (9, i6 x9), (10, i6 x10)]) [] (RFacts.nil _ _ _) 5 [.no, .no, .l 0, .no, .no] (by kernel_rfl) (by kernel_rfl) ?_
     refine RL.nt ?_
     refine OK.cd (decide (x10 < (a2.f0.length : Int))) (fun hb => ?_) (fun hb => ?_)
     ·skip
      have hc := (of_decide_eq_true hb)
      rw [if_pos hc] at H
      clear hb
      refine OK.skt ?_
      refine OK.sq ?_
      refine OK.bk 1 ?_
      refine OK.sq ?_
      refine OK.sq ?_
      refine OK.join (fun K' I' _ L' X' => ∃ (x11 : Bool), K' = [(0, .slice Ap0 a0.length cp0), (5, pt nx0 0), (9, i6 x9), (10, i6 x10), (60, .bool x11)] ∧ L' = [⟨nx0, [.slice Ap2_0 a2.f0.length cp2_0, .slice Ap2_1 a2.f1.length cp2_1], 26⟩] ∧ X' = [] ∧ Imm.le I13 I' ∧ (if x11 = true then (some (Sum.inr false)) else (if 0 ≤ x10 then (if x10 < (a2.f0.length : Int) then (armillaryref22_VerifyDuals.l4 a2 kq4 (W .i64 (x9 - (a2.f0.getD (x10).toNat 0))) (W .i64 (x10 + 1))) else none) else none)) = some y2) ?_ ?_
      ·rintro _ I14 nx14 _ _ ⟨x11, rfl, rfl, rfl, hi14, H⟩
       replace H : (if x11 = true then (some (Sum.inr false)) else (if 0 ≤ x10 then (if x10 < (a2.f0.length : Int) then (armillaryref22_VerifyDuals.l4 a2 kq4 (W .i64 (x9 - (a2.f0.getD (x10).toNat 0))) (W .i64 (x10 + 1))) else none) else none)) = some y2 := H
       refine QN.then_ ?_
       refine OK.cd x11 (fun hb => ?_) (fun hb => ?_)
       ·skip
        have hc := hb
        rw [if_pos hc] at H
        clear hb
        refine OK.sr ?_
        refine RL.st 1 [(6, .bool false)] ?_
        refine OK.re ?_
        refine QN.thenR ?_
        refine QN.blkR ?_
        refine QN.thenR ?_
        refine QN.outR hQ11 ?_
        refine QN.blkR ?_
        refine QN.outR hQ2 ?_
        refine QN.thenR ?_
        obtain rfl := Option.some.inj H
        replace H : some false = some r := HK2
        obtain rfl := Option.some.inj H
        refine QN.body rfl [] (RFacts.nil _ _ _) (.no) (.bool false) (by kernel_rfl) (by kernel_rfl) (by kernel_rfl) ?_ _ (.inr rfl)
        exact fun w' hs' => ⟨_, rfl, I14, rfl, hs'.got _ .slnil⟩
       ·skip
        have hc := (Bool.eq_false_iff.1 hb)
        rw [if_neg hc] at H
        clear hb
        refine OK.skt ?_
        refine OK.rg ?_
        refine RL.simK (K' := [(64, i6 x10), (63, .slice Ap2_0 a2.f0.length cp2_0), (61, i6 x9), (0, .slice Ap0 a0.length cp0), (5, pt nx0 0), (9, i6 x9), (10, i6 x10)]) [] (RFacts.nil _ _ _) 4 [.no, .no, .l 0, .no] (by kernel_rfl) (by kernel_rfl) ?_
        obtain ⟨hib0, H⟩ := ifs H
        obtain ⟨hib1, H⟩ := ifs H
        obtain ⟨g9_, o9_, hA9_, hc9_⟩ := Ty.int_at (Rd.ext (Imm.le_trans (Imm.le_trans (Imm.le_trans hi1 hi2) hi13) hi14) hrp2_0) x10 hib0 hib1
        refine RL.idx 1 .i64 x10 hA9_ a2.f0.length cp2_0 (some 65) (by kernel_rfl) (by kernel_rfl) (T := 24) (e := 2) (by kernel_rfl) (by kernel_rfl) hib0 hib1 (K' := [(65, pt g9_ (o9_ + (x10).toNat * 1)), (64, i6 x10), (63, .slice Ap2_0 a2.f0.length cp2_0), (61, i6 x9), (0, .slice Ap0 a0.length cp0), (5, pt nx0 0), (9, i6 x9), (10, i6 x10)]) (by kernel_rfl) ?_
        refine RL.simK (K' := [(9, i6 (W .i64 (x9 - (a2.f0.getD (x10).toNat 0)))), (0, .slice Ap0 a0.length cp0), (5, pt nx0 0), (10, i6 x10)]) [(⟨g9_, o9_ + (x10).toNat * 1, none⟩, i6 (a2.f0.getD (x10).toNat 0))] (RFacts.imm (hc9_ 0 _ rfl) (RFacts.nil _ _ _)) 3 [.r 0, .no, .no] (by kernel_rfl) (by kernel_rfl) ?_
        refine RL.nil (by kernel_rfl) ?_
        refine QN.blkN ?_
        refine QN.then_ ?_
        refine OK.rg ?_
        refine RL.s 3 [(10, i6 (W .i64 (x10 + 1))), (9, i6 (W .i64 (x9 - (a2.f0.getD (x10).toNat 0)))), (0, .slice Ap0 a0.length cp0), (5, pt nx0 0)] ?_
        refine RL.nil (by kernel_rfl) ?_
        exact QN.sb (hJ11 _ _ _ _ _ ⟨W .i64 (x9 - (a2.f0.getD (x10).toNat 0)), W .i64 (x10 + 1), rfl, rfl, rfl, (Imm.le_trans hi13 hi14), H⟩) (.cons_cons _ .slnil) (.refl _)
      ·intro Q_7 hJ12 hQ12
       obtain ⟨y8, H, HK8⟩ := bnd H
       refine OK.rg ?_
       refine RL.simK (K' := [(48, i6 x10), (47, .slice Ap2_0 a2.f0.length cp2_0), (0, .slice Ap0 a0.length cp0), (5, pt nx0 0), (9, i6 x9), (10, i6 x10)]) [] (RFacts.nil _ _ _) 3 [.no, .l 0, .no] (by kernel_rfl) (by kernel_rfl) ?_
       obtain ⟨hib0, H⟩ := ifs H
       obtain ⟨hib1, H⟩ := ifs H
       obtain ⟨g10_, o10_, hA10_, hc10_⟩ := Ty.int_at (Rd.ext (Imm.le_trans (Imm.le_trans hi1 hi2) hi13) hrp2_0) x10 hib0 hib1
       refine RL.idx 1 .i64 x10 hA10_ a2.f0.length cp2_0 (some 49) (by kernel_rfl) (by kernel_rfl) (T := 24) (e := 2) (by kernel_rfl) (by kernel_rfl) hib0 hib1 (K' := [(49, pt g10_ (o10_ + (x10).toNat * 1)), (48, i6 x10), (47, .slice Ap2_0 a2.f0.length cp2_0), (0, .slice Ap0 a0.length cp0), (5, pt nx0 0), (9, i6 x9), (10, i6 x10)]) (by kernel_rfl) ?_
       refine RL.simK (K' := [(52, .bool (decide ((a2.f0.getD (x10).toNat 0) < 0))), (0, .slice Ap0 a0.length cp0), (5, pt nx0 0), (9, i6 x9), (10, i6 x10)]) [(⟨g10_, o10_ + (x10).toNat * 1, none⟩, i6 (a2.f0.getD (x10).toNat 0))] (RFacts.imm (hc10_ 0 _ rfl) (RFacts.nil _ _ _)) 3 [.r 0, .no, .no] (by kernel_rfl) (by kernel_rfl) ?_
       refine RL.cases (decide ((a2.f0.getD (x10).toNat 0) < 0)) (fun hb => ?_) (fun hb => ?_)
       ·have hc := (of_decide_eq_true hb)
        rw [hb]
        rw [if_pos hc] at H; clear hb
        refine RL.s 8 [(60, .bool true), (0, .slice Ap0 a0.length cp0), (5, pt nx0 0), (9, i6 x9), (10, i6 x10)] ?_
        refine RL.nil (by kernel_rfl) ?_
        obtain rfl := Option.some.inj H
        exact QN.sb (hJ12 _ _ _ _ _ ⟨true, rfl, rfl, rfl, (Imm.le_refl _), HK8⟩) (.cons_cons _ .slnil) (.refl _)
       ·have hc := (of_decide_eq_false hb)
        rw [hb]
        rw [if_neg hc] at H; clear hb
        refine RL.simK (K' := [(55, i6 x10), (54, .slice Ap2_0 a2.f0.length cp2_0), (52, .bool false), (0, .slice Ap0 a0.length cp0), (5, pt nx0 0), (9, i6 x9), (10, i6 x10)]) [] (RFacts.nil _ _ _) 3 [.no, .l 0, .no] (by kernel_rfl) (by kernel_rfl) ?_
        obtain ⟨hib0, H⟩ := ifs H
        obtain ⟨hib1, H⟩ := ifs H
        obtain ⟨g11_, o11_, hA11_, hc11_⟩ := Ty.int_at (Rd.ext (Imm.le_trans (Imm.le_trans hi1 hi2) hi13) hrp2_0) x10 hib0 hib1
        refine RL.idx 1 .i64 x10 hA11_ a2.f0.length cp2_0 (some 56) (by kernel_rfl) (by kernel_rfl) (T := 24) (e := 2) (by kernel_rfl) (by kernel_rfl) hib0 hib1 (K' := [(56, pt g11_ (o11_ + (x10).toNat * 1)), (55, i6 x10), (54, .slice Ap2_0 a2.f0.length cp2_0), (52, .bool false), (0, .slice Ap0 a0.length cp0), (5, pt nx0 0), (9, i6 x9), (10, i6 x10)]) (by kernel_rfl) ?_
        refine RL.simK (K' := [(60, .bool (decide ((a2.f0.getD (x10).toNat 0) > x9))), (0, .slice Ap0 a0.length cp0), (5, pt nx0 0), (9, i6 x9), (10, i6 x10)]) [(⟨g11_, o11_ + (x10).toNat * 1, none⟩, i6 (a2.f0.getD (x10).toNat 0))] (RFacts.imm (hc11_ 0 _ rfl) (RFacts.nil _ _ _)) 4 [.r 0, .no, .no, .no] (by kernel_rfl) (by kernel_rfl) ?_
        refine RL.nil (by kernel_rfl) ?_
        obtain rfl := Option.some.inj H
        exact QN.sb (hJ12 _ _ _ _ _ ⟨(decide ((a2.f0.getD (x10).toNat 0) > x9)), rfl, rfl, rfl, (Imm.le_refl _), HK8⟩) (.cons_cons _ .slnil) (.refl _)
     ·skip
      have hc := (of_decide_eq_false hb)
      rw [if_neg hc] at H
      clear hb
      refine OK.ex 0 ?_
      refine QN.thenE ?_
      refine QN.outE hQ11 ?_
      refine QN.blkE ?_
      obtain rfl := Option.some.inj H
      exact QN.sb (hJ2 _ _ _ _ _ ⟨x9, rfl, rfl, rfl, hi13, HK2⟩) (.cons_cons _ .slnil) (.refl _)
 ·intro Q_8 hJ1 hQ1
  obtain ⟨y1, H, HK1⟩ := bnd H
  refine OK.cases t1.2 (fun hb1 => ?_) (fun hb1 => ?_)
  ·have hc1 := hb1
   rw [if_pos hc1] at H
   refine OK.cases ((a2.f0.length : Int) != (a0.length : Int)) (fun hb2 => ?_) (fun hb2 => ?_)
   ·have hc2 := (bne_iff_ne.1 hb2)
    rw [if_pos hc2] at H
    refine OK.drawnC 2 16 O19_8 a19_8n (by kernel_rfl) (by kernel_rfl) u19d2l u19d2g [] (RI.nil _) [.no, .no, .no, .no, .l 0, .no, .no, .no, .no, .no, .no, .no, .no, .no, .no, .no] a19_8 a19_8o (by kernel_rfl) (by kernel_rfl) (u19d2s a0 Ap0 cp0 a2 Ap2_0 cp2_0 nx0 t1) (u19d2f a0 Ap0 cp0 a2 Ap2_0 cp2_0 nx0 t1 16) (u19d2v a0 Ap0 cp0 a2 Ap2_0 cp2_0 Ap2_1 cp2_1 nx0 t1) (u19d2e a0 Ap0 cp0 a2 Ap2_0 cp2_0 Ap2_1 cp2_1 nx0 t1) [] framesOk.nil ?_ [u19d2f a0 Ap0 cp0 a2 Ap2_0 cp2_0 nx0 t1 2, u19d2f a0 Ap0 cp0 a2 Ap2_0 cp2_0 nx0 t1 10] (framesOk.cons (fun u => rfl) (framesOk.cons (fun u => rfl) framesOk.nil)) ?_ ?_
    ·refine LoudsG.nil
    ·refine Givens.cons (fun u w =>  ?_) (fun _ _ _ => rfl) (Givens.cons (fun u w =>  ?_) (fun _ _ _ => rfl) (Givens.nil))
     ·exact giv_run (v := .bool (!t1.2)) (by kernel_rfl) (by rw [hb1]; try rfl) w
     ·exact giv_run (v := .bool ((a2.f0.length : Int) != (a0.length : Int))) (by kernel_rfl) (by rw [hb2]; try rfl) w
    intro u I15 nx15 hi15 hF
    clear hF
    refine RL.norm (K' := [(35, undef), (34, undef), (33, undef), (32, undef), (31, undef), (30, .bool true), (29, .bool ((a2.f0.length : Int) != (a0.length : Int))), (28, .bool ((a2.f0.length : Int) != (a0.length : Int))), (27, i6 (a0.length : Int)), (26, .slice Ap0 a0.length cp0), (25, i6 (a2.f0.length : Int)), (24, .slice Ap2_0 a2.f0.length cp2_0), (23, pt nx0 0), (22, .bool false), (21, .bool (!t1.2)), (20, .bool t1.2), (8, .bool t1.2), (7, i6 t1.1), (5, pt nx0 0), (0, .slice Ap0 a0.length cp0)]) (X' := []) (by kernel_rfl) rfl rfl rfl ?_
    refine RL.s 2 [(37, .bool true), (7, i6 t1.1), (5, pt nx0 0), (0, .slice Ap0 a0.length cp0)] ?_
    refine RL.nil (by kernel_rfl) ?_
    obtain rfl := Option.some.inj H
    exact QN.sb (hJ1 _ _ _ _ _ ⟨true, rfl, rfl, rfl, hi15, HK1⟩) (.cons_cons _ .slnil) (.refl _)
   ·have hc2 := (not_not_intro (bne_eq_false_iff_eq.1 hb2))
    rw [if_neg hc2] at H
    obtain ⟨t2, hA2, H⟩ := bnd H
    refine OK.drawnC 2 16 O19_8 a19_8n (by kernel_rfl) (by kernel_rfl) (u19d3l t2) u19d3g [] (RI.nil _) [.no, .no, .no, .no, .l 0, .no, .no, .no, .no, .no, .no, .no, .l 0, .no, .no, .no] a19_8 a19_8o (by kernel_rfl) (by kernel_rfl) (u19d3s a0 Ap0 cp0 a2 Ap2_0 cp2_0 Ap2_1 cp2_1 nx0 t1 t2) (u19d3f a0 Ap0 cp0 a2 Ap2_0 cp2_0 Ap2_1 cp2_1 nx0 t1 t2 16) (u19d3v a0 Ap0 cp0 a2 Ap2_0 cp2_0 Ap2_1 cp2_1 nx0 t1 t2) (u19d3e a0 Ap0 cp0 a2 Ap2_0 cp2_0 Ap2_1 cp2_1 nx0 t1 t2) [u19d3f a0 Ap0 cp0 a2 Ap2_0 cp2_0 Ap2_1 cp2_1 nx0 t1 t2 15] (framesOk.cons (fun u => rfl) framesOk.nil) ?_ [u19d3f a0 Ap0 cp0 a2 Ap2_0 cp2_0 Ap2_1 cp2_1 nx0 t1 t2 2, u19d3f a0 Ap0 cp0 a2 Ap2_0 cp2_0 Ap2_1 cp2_1 nx0 t1 t2 10] (framesOk.cons (fun u => rfl) (framesOk.cons (fun u => rfl) framesOk.nil)) ?_ ?_
    ·refine LoudsG.cons ?_ (LoudsG.nil)
     ·intro D u J w hp hJ hs hF
      refine Does.call 21 [.slice Ap0 a0.length cp0] (by kernel_rfl) ((armillaryref22_Columns.calls J a0 Ap0 cp0 w hs.im hlp0 (Rd.ext (Imm.le_trans hi1 hJ) hrp0) t2 hA2).mono ?_)
      rintro e w' ⟨v, rfl, J2, rfl, hg⟩
      exact ⟨_, rfl, fun _ => (none, 0, []), J2, rfl, hg, trivial⟩
    ·refine Givens.cons (fun u w =>  ?_) (fun _ _ _ => rfl) (Givens.cons (fun u w =>  ?_) (fun _ _ _ => rfl) (Givens.nil))
     ·exact giv_run (v := .bool (!t1.2)) (by kernel_rfl) (by rw [hb1]; try rfl) w
     ·exact giv_run (v := .bool ((a2.f0.length : Int) != (a0.length : Int))) (by kernel_rfl) (by rw [hb2]; try rfl) w
    intro u I16 nx16 hi16 hF
    clear hF
    refine RL.norm (K' := [(35, i6 t2), (34, .slice Ap0 a0.length cp0), (33, i6 (a2.f1.length : Int)), (32, .slice Ap2_1 a2.f1.length cp2_1), (31, pt nx0 1), (30, .bool false), (29, .bool ((a2.f0.length : Int) != (a0.length : Int))), (28, .bool ((a2.f0.length : Int) != (a0.length : Int))), (27, i6 (a0.length : Int)), (26, .slice Ap0 a0.length cp0), (25, i6 (a2.f0.length : Int)), (24, .slice Ap2_0 a2.f0.length cp2_0), (23, pt nx0 0), (22, .bool false), (21, .bool (!t1.2)), (20, .bool t1.2), (8, .bool t1.2), (7, i6 t1.1), (5, pt nx0 0), (0, .slice Ap0 a0.length cp0)]) (X' := []) (by kernel_rfl) rfl rfl rfl ?_
    refine RL.s 2 [(37, .bool ((a2.f1.length : Int) != t2)), (7, i6 t1.1), (5, pt nx0 0), (0, .slice Ap0 a0.length cp0)] ?_
    refine RL.nil (by kernel_rfl) ?_
    obtain rfl := Option.some.inj H
    exact QN.sb (hJ1 _ _ _ _ _ ⟨((a2.f1.length : Int) != t2), rfl, rfl, rfl, hi16, HK1⟩) (.cons_cons _ .slnil) (.refl _)
  ·have hc1 := (Bool.eq_false_iff.1 hb1)
   rw [if_neg hc1] at H
   refine OK.drawnC 2 16 O19_8 a19_8n (by kernel_rfl) (by kernel_rfl) u19d4l u19d4g [] (RI.nil _) [.no, .no, .no, .no, .no, .no, .no, .no, .no, .no, .no, .no, .no, .no, .no, .no] a19_8 a19_8o (by kernel_rfl) (by kernel_rfl) (u19d4s t1) (u19d4f a0 Ap0 cp0 nx0 t1 16) (u19d4v a0 Ap0 cp0 a2 Ap2_0 cp2_0 Ap2_1 cp2_1 nx0 t1) (u19d4e a0 Ap0 cp0 a2 Ap2_0 cp2_0 Ap2_1 cp2_1 nx0 t1) [] framesOk.nil ?_ [u19d4f a0 Ap0 cp0 nx0 t1 2] (framesOk.cons (fun u => rfl) framesOk.nil) ?_ ?_
   ·refine LoudsG.nil
   ·refine Givens.cons (fun u w =>  ?_) (fun _ _ _ => rfl) (Givens.nil)
    ·exact giv_run (v := .bool (!t1.2)) (by kernel_rfl) (by rw [hb1]; try rfl) w
   intro u I17 nx17 hi17 hF
   clear hF
   refine RL.norm (K' := [(35, undef), (34, undef), (33, undef), (32, undef), (31, undef), (30, .bool true), (29, .bool true), (28, undef), (27, undef), (26, undef), (25, undef), (24, undef), (23, undef), (22, .bool true), (21, .bool (!t1.2)), (20, .bool t1.2), (8, .bool t1.2), (7, i6 t1.1), (5, pt nx0 0), (0, .slice Ap0 a0.length cp0)]) (X' := []) (by kernel_rfl) rfl rfl rfl ?_
   refine RL.s 2 [(37, .bool true), (7, i6 t1.1), (5, pt nx0 0), (0, .slice Ap0 a0.length cp0)] ?_
   refine RL.nil (by kernel_rfl) ?_
   obtain rfl := Option.some.inj H
   exact QN.sb (hJ1 _ _ _ _ _ ⟨true, rfl, rfl, rfl, hi17, HK1⟩) (.cons_cons _ .slnil) (.refl _)

end Go.Proofs.Ytdmhbcgmimfjcaa
namespace Go.Proofs.Ytdmhbcgmimfjcaa.hun
open Go Go.Proofs.Ytdmhbcgmimfjcaa Go.Proofs.Ytdmhbcgmimfjcaa.RW
set_option linter.unusedVariables false
set_option maxRecDepth 100000
set_option maxHeartbeats 4000000
section
variable {w : List (List Int)} {m : Nat}
/-! ### the value -/
theorem rtaken {l : List Int} {n : Nat} (h12 : n ≤ 12) (hn : n < l.length) : ∀ (d k q : Nat), d + q = n → d < k → ∃ s, armillaryref22_Value.l2 l (n : Int) k (q : Int) = some s ∧ ((s = .inl () ∧ ∀ c, q ≤ c → c < n → g l c ≠ g l n) ∨ (s = .inr (0, false) ∧ ∃ c, c < n ∧ g l c = g l n)) := by
  intro d
  induction d with
  | zero =>
    intro k q hd hk
    obtain ⟨k, rfl⟩ : ∃ m, k = m + 1 := ⟨k - 1, by omega⟩
    simp only [armillaryref22_Value.l2]
    rw [if_neg (by omega)]
    exact ⟨_, rfl, .inl ⟨rfl, fun c h1 h2 => by omega⟩⟩
  | succ d ih =>
    intro k q hd hk
    obtain ⟨k, rfl⟩ : ∃ m, k = m + 1 := ⟨k - 1, by omega⟩
    simp only [armillaryref22_Value.l2, tn]
    rw [if_pos (by omega), if_pos (by omega), if_pos (by omega), if_pos (by omega), if_pos (by omega), Wn (by omega)]
    by_cases e : l.getD q 0 = l.getD n 0
    · rw [if_pos e]
      exact ⟨_, rfl, .inr ⟨rfl, q, by omega, e⟩⟩
    · rw [if_neg e]
      obtain ⟨s, e2, h⟩ := ih k (q + 1) (by omega) (by omega)
      refine ⟨s, e2, h.imp (fun ⟨h1, h2⟩ => ⟨h1, fun c h3 h4 => ?_⟩) id⟩
      by_cases e3 : c = q
      · subst e3; exact e
      · exact h2 c (by omega) h4
theorem rvalue_loop (h : Vw w m) {l : List Int} (hl : l.length = w.length) : ∀ (d k n : Nat) (x : Int), d + n = w.length → d + 20 ≤ k → x = ahead w (g l) n → (∀ i, i < n → g l i = -1 ∨ (0 ≤ g l i ∧ g l i < (m : Int) ∧ taken (g l) i (g l i).toNat = false)) →
    (valid w m l → armillaryref22_Value.l1 w l k x (n : Int) = some (.inl (val w (g l)))) ∧ (¬ valid w m l → armillaryref22_Value.l1 w l k x (n : Int) = some (.inr (0, false))) := by
  have hn12 := h.nr
  have hm12 := h.mr
  intro d
  induction d with
  | zero =>
    intro k n x hd hk hx hv
    obtain ⟨k, rfl⟩ : ∃ m, k = m + 1 := ⟨k - 1, by omega⟩
    obtain rfl : n = w.length := by omega
    refine ⟨fun _ => ?_, fun hnv => absurd ⟨hl, hv⟩ hnv⟩
    simp only [armillaryref22_Value.l1]
    rw [if_neg (by omega), hx]
    rfl
  | succ d ih =>
    intro k n x hd hk hx hv
    obtain ⟨k, rfl⟩ : ∃ m, k = m + 1 := ⟨k - 1, by omega⟩
    have hn : n < w.length := by omega
    have hrl := h.rl n hn
    have hb := ahead_b h n (by omega) (fun i hi => (hv i hi).imp id (fun h1 => ⟨h1.1, h1.2.1⟩))
    have hlen : ((w.getD n []).length : Int) = (m : Int) := by show ((row w n).length : Int) = _; omega
    simp only [armillaryref22_Value.l1, tn]
    rw [if_pos (by omega), if_pos (by omega), if_pos (by omega), Wn (by omega)]
    by_cases e : g l n = -1
    · rw [if_pos e]
      simp only [Option.bind_some]
      refine ih k (n + 1) x (by omega) (by omega) ?_ (fun i hi => ?_)
      · rw [hx]
        show _ = sm _ (n + 1)
        simp only [sm]
        rw [if_pos e, Int.add_zero]
        rfl
      · by_cases e2 : i = n
        · rw [e2]; exact .inl e
        · exact hv i (by omega)
    · rw [if_neg e, if_pos (by omega), if_pos (by omega)]
      by_cases hr : 0 ≤ g l n ∧ g l n < (m : Int)
      · have hr0 : 0 ≤ l.getD n 0 ∧ l.getD n 0 < (m : Int) := hr
        rw [if_neg (by omega), if_pos (by omega), if_pos (by omega), columnsR h, Option.bind_some, decide_eq_false (by omega), Option.bind_some]
        simp only [armillaryref22_Value.k4, tn]
        rw [if_neg (by decide)]
        obtain ⟨s, e3, hs⟩ := rtaken (l := l) (n := n) (by omega) (by omega) n k 0 (by omega) (by omega)
        rw [show armillaryref22_Value.l2 l (n : Int) k 0 = some s from e3, Option.bind_some]
        rcases hs with ⟨rfl, hs⟩ | ⟨rfl, c, hc1, hc2⟩
        · have htf : taken (g l) n (g l n).toNat = false := by
            cases ht : taken (g l) n (g l n).toNat with
            | false => rfl
            | true =>
              obtain ⟨c, h3, h4⟩ := taken_iff.1 ht
              exact absurd (by omega : g l c = g l n) (hs c (by omega) h3)
          simp only [armillaryref22_Value.k3, tn, hlen]
          rw [if_pos (by omega), if_pos (by omega), if_pos (by omega), if_pos (by omega), if_pos (by omega), if_pos (by omega)]
          simp only [Option.bind_some]
          have h1 := h.eb n (g l n).toNat hn (by omega)
          rw [show W .i64 (x + (w.getD n []).getD (l.getD n 0).toNat 0) = x + we w n (g l n).toNat from W64 (by show _ ≤ x + we w n (g l n).toNat; omega) (by show x + we w n (g l n).toNat ≤ _; omega)]
          refine ih k (n + 1) _ (by omega) (by omega) ?_ (fun i hi => ?_)
          · rw [hx]
            show _ = sm _ (n + 1)
            simp only [sm]
            rw [if_neg e]
            rfl
          · by_cases e2 : i = n
            · rw [e2]
              exact .inr ⟨hr.1, hr.2, htf⟩
            · exact hv i (by omega)
        · simp only [armillaryref22_Value.k3, Option.bind_some]
          refine ⟨fun hval => ?_, fun _ => by first | rfl | trivial⟩
          have h1 := ((hval.2 n hn).resolve_left e).2.2
          rw [taken_iff.2 ⟨c, hc1, by omega⟩] at h1
          cases h1
      · have hbad : ∀ (z : Option Bool), z = some (decide (l.getD n 0 ≥ (m : Int))) → (if l.getD n 0 < 0 then some true else if 0 ≤ (n : Int) then if (n : Int) < (l.length : Int) then z else none else none) = some true := fun z hz => by
          by_cases e1 : l.getD n 0 < 0
          · rw [if_pos e1]
          · rw [if_neg e1, if_pos (by omega), if_pos (by omega), hz]
            have : ¬ (0 ≤ l.getD n 0 ∧ l.getD n 0 < (m : Int)) := hr
            rw [decide_eq_true (by omega)]
        rw [hbad _ (by rw [columnsR h, Option.bind_some]), Option.bind_some]
        simp only [armillaryref22_Value.k4, if_pos, Option.bind_some]
        refine ⟨fun hval => ?_, fun _ => by first | rfl | trivial⟩
        exact absurd ⟨((hval.2 n hn).resolve_left e).1, ((hval.2 n hn).resolve_left e).2.1⟩ hr
theorem rvalue_ok (h : Vw w m) {l : List Int} (hv : valid w m l) {k : Nat} (hk : 40 ≤ k) : armillaryref22_Value.f k w l = some (val w (g l), true) := by
  have hn12 := h.nr
  unfold armillaryref22_Value.f
  rw [if_neg (by rw [hv.1]; simp)]
  rw [show armillaryref22_Value.l1 w l k 0 0 = _ from (rvalue_loop h hv.1 w.length k 0 0 (by omega) (by omega) rfl (fun i hi => by omega)).1 hv]
  rfl
theorem rvalue_bad (h : Vw w m) {l : List Int} (hv : ¬ valid w m l) {k : Nat} (hk : 40 ≤ k) : armillaryref22_Value.f k w l = some (0, false) := by
  have hn12 := h.nr
  unfold armillaryref22_Value.f
  by_cases e : l.length = w.length
  · rw [if_neg (by rw [e]; simp)]
    rw [show armillaryref22_Value.l1 w l k 0 0 = _ from (rvalue_loop h e w.length k 0 0 (by omega) (by omega) rfl (fun i hi => by omega)).2 hv]
    rfl
  · rw [if_pos (by omega)]
/-! ### the test of duals -/
theorem restf0 {d : S26} (hl : d.f0.length ≤ 12) : ∀ (q k n : Nat) (x : Int), q + n = d.f0.length → q < k → 0 ≤ x → x ≤ 12884901888 →
    ∃ s, armillaryref22_VerifyDuals.l4 d k x (n : Int) = some s ∧ ((s = .inl (x - (sm (g d.f0) d.f0.length - sm (g d.f0) n)) ∧ (∀ i, n ≤ i → i < d.f0.length → 0 ≤ g d.f0 i) ∧ sm (g d.f0) d.f0.length - sm (g d.f0) n ≤ x) ∨ (s = .inr false ∧ ¬ ((∀ i, n ≤ i → i < d.f0.length → 0 ≤ g d.f0 i) ∧ sm (g d.f0) d.f0.length - sm (g d.f0) n ≤ x))) := by
  intro q
  induction q with
  | zero =>
    intro k n x hq hk h0 h1
    obtain ⟨k, rfl⟩ : ∃ m, k = m + 1 := ⟨k - 1, by omega⟩
    obtain rfl : n = d.f0.length := by omega
    simp only [armillaryref22_VerifyDuals.l4]
    rw [if_neg (by omega)]
    exact ⟨_, rfl, .inl ⟨by congr 1; omega, fun i h2 h3 => by omega, by omega⟩⟩
  | succ q ih =>
    intro k n x hq hk h0 h1
    obtain ⟨k, rfl⟩ : ∃ m, k = m + 1 := ⟨k - 1, by omega⟩
    have hn : n < d.f0.length := by omega
    have hsn : sm (g d.f0) (n + 1) = sm (g d.f0) n + g d.f0 n := rfl
    simp only [armillaryref22_VerifyDuals.l4, tn]
    rw [if_pos (by omega), if_pos (by omega), if_pos (by omega)]
    have hbad : ∀ z : Option Bool, (¬ (0 ≤ g d.f0 n ∧ g d.f0 n ≤ x)) → z = some (decide (d.f0.getD n 0 > x)) → (if d.f0.getD n 0 < 0 then some true else if 0 ≤ (n : Int) then if (n : Int) < (d.f0.length : Int) then z else none else none) = some true := fun z hr hz => by
      by_cases e1 : d.f0.getD n 0 < 0
      · rw [if_pos e1]
      · rw [if_neg e1, if_pos (by omega), if_pos (by omega), hz]
        have : ¬ (0 ≤ d.f0.getD n 0 ∧ d.f0.getD n 0 ≤ x) := hr
        rw [decide_eq_true (by omega)]
    by_cases e : 0 ≤ g d.f0 n ∧ g d.f0 n ≤ x
    · have e' : 0 ≤ d.f0.getD n 0 ∧ d.f0.getD n 0 ≤ x := e
      rw [if_neg (by omega), if_pos (by omega), if_pos (by omega), decide_eq_false (by omega), Option.bind_some, if_neg (by decide), if_pos (by omega), if_pos (by omega), Wn (by omega)]
      rw [show W .i64 (x - d.f0.getD n 0) = x - g d.f0 n from W64 (by show _ ≤ x - g d.f0 n; omega) (by show x - g d.f0 n ≤ _; omega)]
      obtain ⟨s, e2, h⟩ := ih k (n + 1) (x - g d.f0 n) (by omega) (by omega) (by omega) (by omega)
      refine ⟨s, e2, h.imp (fun ⟨h2, h3, h4⟩ => ⟨by rw [h2]; congr 1; omega, fun i h5 h6 => ?_, by omega⟩) (fun ⟨h2, h3⟩ => ⟨h2, fun ⟨h5, h6⟩ => h3 ⟨fun i h7 h8 => h5 i (by omega) h8, by omega⟩⟩)⟩
      by_cases e3 : i = n
      · subst e3; exact e.1
      · exact h3 i (by omega) h6
    · rw [hbad _ e rfl, Option.bind_some, if_pos rfl]
      refine ⟨_, rfl, .inr ⟨rfl, fun ⟨h2, h3⟩ => e ⟨h2 n (Nat.le_refl _) hn, ?_⟩⟩⟩
      have := sm_mono (f := g d.f0) d.f0.length (n + 1) (by omega) (fun j h4 h5 => h2 j (by omega) h5)
      omega
theorem restf1 {d : S26} (hl : d.f1.length ≤ 12) : ∀ (q k n : Nat) (x : Int), q + n = d.f1.length → q < k → 0 ≤ x → x ≤ 12884901888 →
    ∃ s, armillaryref22_VerifyDuals.l3 d k x (n : Int) = some s ∧ ((s = .inl (x - (sm (g d.f1) d.f1.length - sm (g d.f1) n)) ∧ (∀ i, n ≤ i → i < d.f1.length → 0 ≤ g d.f1 i) ∧ sm (g d.f1) d.f1.length - sm (g d.f1) n ≤ x) ∨ (s = .inr false ∧ ¬ ((∀ i, n ≤ i → i < d.f1.length → 0 ≤ g d.f1 i) ∧ sm (g d.f1) d.f1.length - sm (g d.f1) n ≤ x))) := by
  intro q
  induction q with
  | zero =>
    intro k n x hq hk h0 h1
    obtain ⟨k, rfl⟩ : ∃ m, k = m + 1 := ⟨k - 1, by omega⟩
    obtain rfl : n = d.f1.length := by omega
    simp only [armillaryref22_VerifyDuals.l3]
    rw [if_neg (by omega)]
    exact ⟨_, rfl, .inl ⟨by congr 1; omega, fun i h2 h3 => by omega, by omega⟩⟩
  | succ q ih =>
    intro k n x hq hk h0 h1
    obtain ⟨k, rfl⟩ : ∃ m, k = m + 1 := ⟨k - 1, by omega⟩
    have hn : n < d.f1.length := by omega
    have hsn : sm (g d.f1) (n + 1) = sm (g d.f1) n + g d.f1 n := rfl
    simp only [armillaryref22_VerifyDuals.l3, tn]
    rw [if_pos (by omega), if_pos (by omega), if_pos (by omega)]
    have hbad : ∀ z : Option Bool, (¬ (0 ≤ g d.f1 n ∧ g d.f1 n ≤ x)) → z = some (decide (d.f1.getD n 0 > x)) → (if d.f1.getD n 0 < 0 then some true else if 0 ≤ (n : Int) then if (n : Int) < (d.f1.length : Int) then z else none else none) = some true := fun z hr hz => by
      by_cases e1 : d.f1.getD n 0 < 0
      · rw [if_pos e1]
      · rw [if_neg e1, if_pos (by omega), if_pos (by omega), hz]
        have : ¬ (0 ≤ d.f1.getD n 0 ∧ d.f1.getD n 0 ≤ x) := hr
        rw [decide_eq_true (by omega)]
    by_cases e : 0 ≤ g d.f1 n ∧ g d.f1 n ≤ x
    · have e' : 0 ≤ d.f1.getD n 0 ∧ d.f1.getD n 0 ≤ x := e
      rw [if_neg (by omega), if_pos (by omega), if_pos (by omega), decide_eq_false (by omega), Option.bind_some, if_neg (by decide), if_pos (by omega), if_pos (by omega), Wn (by omega)]
      rw [show W .i64 (x - d.f1.getD n 0) = x - g d.f1 n from W64 (by show _ ≤ x - g d.f1 n; omega) (by show x - g d.f1 n ≤ _; omega)]
      obtain ⟨s, e2, h⟩ := ih k (n + 1) (x - g d.f1 n) (by omega) (by omega) (by omega) (by omega)
      refine ⟨s, e2, h.imp (fun ⟨h2, h3, h4⟩ => ⟨by rw [h2]; congr 1; omega, fun i h5 h6 => ?_, by omega⟩) (fun ⟨h2, h3⟩ => ⟨h2, fun ⟨h5, h6⟩ => h3 ⟨fun i h7 h8 => h5 i (by omega) h8, by omega⟩⟩)⟩
      by_cases e3 : i = n
      · subst e3; exact e.1
      · exact h3 i (by omega) h6
    · rw [hbad _ e rfl, Option.bind_some, if_pos rfl]
      refine ⟨_, rfl, .inr ⟨rfl, fun ⟨h2, h3⟩ => e ⟨h2 n (Nat.le_refl _) hn, ?_⟩⟩⟩
      have := sm_mono (f := g d.f1) d.f1.length (n + 1) (by omega) (fun j h4 h5 => h2 j (by omega) h5)
      omega
theorem rfeas_row (h : Vw w m) {d : S26} (hu : d.f0.length = w.length) (hv : d.f1.length = m) (hub : ∀ i, i < w.length → 0 ≤ g d.f0 i ∧ g d.f0 i ≤ 12884901888) (hvb : ∀ j, j < m → 0 ≤ g d.f1 j ∧ g d.f1 j ≤ 12884901888) {i : Nat} (hi : i < w.length) : ∀ (q k n : Nat), q + n = m → q < k →
    ∃ s, armillaryref22_VerifyDuals.l2 w d (i : Int) k (n : Int) = some s ∧ ((s = .inl () ∧ ∀ j, n ≤ j → j < m → we w i j ≤ g d.f0 i + g d.f1 j) ∨ (s = .inr false ∧ ¬ ∀ j, n ≤ j → j < m → we w i j ≤ g d.f0 i + g d.f1 j)) := by
  have hrl := h.rl i hi
  have hm := h.mr
  have hlen : ((w.getD i []).length : Int) = (m : Int) := by show ((row w i).length : Int) = _; omega
  intro q
  induction q with
  | zero =>
    intro k n hq hk
    obtain ⟨k, rfl⟩ : ∃ m, k = m + 1 := ⟨k - 1, by omega⟩
    simp only [armillaryref22_VerifyDuals.l2, tn, hlen]
    rw [if_pos (by omega), if_pos (by omega), if_neg (by omega)]
    exact ⟨_, rfl, .inl ⟨rfl, fun j h1 h2 => by omega⟩⟩
  | succ q ih =>
    intro k n hq hk
    obtain ⟨k, rfl⟩ : ∃ m, k = m + 1 := ⟨k - 1, by omega⟩
    have hn : n < m := by omega
    have h1 := hub i hi
    have h2 := hvb n hn
    simp only [armillaryref22_VerifyDuals.l2, tn, hlen]
    rw [if_pos (by omega), if_pos (by omega), if_pos (by omega), if_pos (by omega), if_pos (by omega), if_pos (by omega), if_pos (by omega), if_pos (by omega), if_pos (by omega), if_pos (by omega), if_pos (by omega), Wn (by omega)]
    rw [show W .i64 (d.f0.getD i 0 + d.f1.getD n 0) = g d.f0 i + g d.f1 n from W64 (by show _ ≤ g d.f0 i + g d.f1 n; omega) (by show g d.f0 i + g d.f1 n ≤ _; omega)]
    by_cases e : g d.f0 i + g d.f1 n < we w i n
    · rw [if_pos (show g d.f0 i + g d.f1 n < (w.getD i []).getD n 0 from e)]
      exact ⟨_, rfl, .inr ⟨rfl, fun h3 => by have := h3 n (Nat.le_refl _) hn; omega⟩⟩
    · rw [if_neg (show ¬ g d.f0 i + g d.f1 n < (w.getD i []).getD n 0 from e)]
      obtain ⟨s, e2, h3⟩ := ih k (n + 1) (by omega) (by omega)
      refine ⟨s, e2, h3.imp (fun ⟨h4, h5⟩ => ⟨h4, fun j h6 h7 => ?_⟩) (fun ⟨h4, h5⟩ => ⟨h4, fun h6 => h5 fun j h7 h8 => h6 j (by omega) h8⟩)⟩
      by_cases e3 : j = n
      · subst e3; omega
      · exact h5 j (by omega) h7
theorem rfeas_all (h : Vw w m) {d : S26} (hu : d.f0.length = w.length) (hv : d.f1.length = m) (hub : ∀ i, i < w.length → 0 ≤ g d.f0 i ∧ g d.f0 i ≤ 12884901888) (hvb : ∀ j, j < m → 0 ≤ g d.f1 j ∧ g d.f1 j ≤ 12884901888) : ∀ (q k n : Nat), q + n = w.length → q + 20 ≤ k →
    ∃ s, armillaryref22_VerifyDuals.l1 w d k (n : Int) = some s ∧ ((s = .inl () ∧ ∀ i j, n ≤ i → i < w.length → j < m → we w i j ≤ g d.f0 i + g d.f1 j) ∨ (s = .inr false ∧ ¬ ∀ i j, n ≤ i → i < w.length → j < m → we w i j ≤ g d.f0 i + g d.f1 j)) := by
  have hn12 := h.nr
  have hm := h.mr
  intro q
  induction q with
  | zero =>
    intro k n hq hk
    obtain ⟨k, rfl⟩ : ∃ m, k = m + 1 := ⟨k - 1, by omega⟩
    simp only [armillaryref22_VerifyDuals.l1]
    rw [if_neg (by omega)]
    exact ⟨_, rfl, .inl ⟨rfl, fun i j h1 h2 => by omega⟩⟩
  | succ q ih =>
    intro k n hq hk
    obtain ⟨k, rfl⟩ : ∃ m, k = m + 1 := ⟨k - 1, by omega⟩
    have hn : n < w.length := by omega
    simp only [armillaryref22_VerifyDuals.l1]
    rw [if_pos (by omega), Wn (by omega)]
    obtain ⟨s, e, h1⟩ := rfeas_row h hu hv hub hvb hn m k 0 (by omega) (by omega)
    rw [show armillaryref22_VerifyDuals.l2 w d (n : Int) k 0 = some s from e, Option.bind_some]
    rcases h1 with ⟨rfl, h1⟩ | ⟨rfl, h1⟩
    · simp only [armillaryref22_VerifyDuals.k3, Option.bind_some]
      obtain ⟨s, e2, h3⟩ := ih k (n + 1) (by omega) (by omega)
      refine ⟨s, e2, h3.imp (fun ⟨h4, h5⟩ => ⟨h4, fun i j h6 h7 h8 => ?_⟩) (fun ⟨h4, h5⟩ => ⟨h4, fun h6 => h5 fun i j h7 h8 h9 => h6 i j (by omega) h8 h9⟩)⟩
      by_cases e3 : i = n
      · subst e3; exact h1 j (by omega) h8
      · exact h5 i j (by omega) h7 h8
    · simp only [armillaryref22_VerifyDuals.k3, Option.bind_some]
      exact ⟨_, rfl, .inr ⟨rfl, fun h2 => h1 fun j h3 h4 => h2 n j (Nat.le_refl _) hn h4⟩⟩
theorem verifyR (h : Vw w m) (l : List Int) (d : S26) {k : Nat} (hk : 60 ≤ k) : ∃ b, armillaryref22_VerifyDuals.f k w l d = some b ∧ (b = true ↔ VD w m l d) := by
  have hn12 := h.nr
  have hm12 := h.mr
  have no : ¬ VD w m l d → (false = true ↔ VD w m l d) := fun h => ⟨fun h2 => (nomatch h2), fun h2 => absurd h2 h⟩
  unfold armillaryref22_VerifyDuals.f
  by_cases hva : valid w m l
  · rw [rvalue_ok h hva (k := k) (by omega), Option.bind_some, if_pos rfl]
    have hvb := val_b h hva
    by_cases hul : d.f0.length = w.length
    · rw [if_neg (by rw [hul]; simp), columnsR h, Option.bind_some, Option.bind_some]
      by_cases hvl : d.f1.length = m
      · have : ((d.f1.length : Int) != (m : Int)) = false := by rw [hvl]; simp
        rw [this]
        simp only [armillaryref22_VerifyDuals.k8]
        rw [if_neg (by decide)]
        obtain ⟨s, e, h1⟩ := restf0 (d := d) (by omega) d.f0.length k 0 (val w (g l)) (by omega) (by omega) hvb.1 hvb.2
        rw [show armillaryref22_VerifyDuals.l4 d k (val w (g l)) 0 = some s from e, Option.bind_some]
        have s0 : ∀ f : Nat → Int, sm f 0 = 0 := fun _ => rfl
        rw [s0, hul] at h1
        rcases h1 with ⟨rfl, h1, h2⟩ | ⟨rfl, h1⟩
        · simp only [armillaryref22_VerifyDuals.k6]
          have hs0 : 0 ≤ sm (g d.f0) w.length := sm_mono (f := g d.f0) w.length 0 (by omega) (fun j h3 h4 => h1 j h3 h4)
          obtain ⟨s, e2, h3⟩ := restf1 (d := d) (by omega) d.f1.length k 0 (val w (g l) - (sm (g d.f0) w.length - 0)) (by omega) (by omega) (by omega) (by omega)
          rw [show armillaryref22_VerifyDuals.l3 d k (val w (g l) - (sm (g d.f0) w.length - 0)) 0 = some s from e2, Option.bind_some]
          rw [s0, hvl] at h3
          rcases h3 with ⟨rfl, h3, h4⟩ | ⟨rfl, h3⟩
          · simp only [armillaryref22_VerifyDuals.k4]
            have hs1 : 0 ≤ sm (g d.f1) m := sm_mono (f := g d.f1) m 0 (by omega) (fun j h3' h4 => h3 j h3' h4)
            obtain ⟨s, e3, h5⟩ := rfeas_all h hul hvl (fun i hi => ⟨h1 i (by omega) hi, by have := sm_one (f := g d.f0) w.length i hi (fun j hj => h1 j (by omega) hj); omega⟩) (fun j hj => ⟨h3 j (by omega) hj, by have := sm_one (f := g d.f1) m j hj (fun j hj => h3 j (by omega) hj); omega⟩) w.length k 0 (by omega) (by omega)
            rw [show armillaryref22_VerifyDuals.l1 w d k 0 = some s from e3, Option.bind_some]
            rcases h5 with ⟨rfl, h5⟩ | ⟨rfl, h5⟩
            · simp only [armillaryref22_VerifyDuals.k1]
              refine ⟨_, rfl, fun h6 => ⟨hva, hul, hvl, fun i hi => h1 i (by omega) hi, fun j hj => h3 j (by omega) hj, fun i j hi hj => h5 i j (by omega) hi hj, ?_⟩, fun h6 => ?_⟩
              · have := eq_of_beq h6
                omega
              · have := h6.sum
                exact beq_iff_eq.2 (by omega)
            · exact ⟨_, rfl, no fun h6 => h5 fun i j _ hi hj => h6.feas i j hi hj⟩
          · refine ⟨_, rfl, no fun h6 => h3 ⟨fun j _ hj => h6.vp j hj, ?_⟩⟩
            have := h6.sum
            omega
        · refine ⟨_, rfl, no fun h6 => h1 ⟨fun j _ hj => h6.up j hj, ?_⟩⟩
          have := h6.sum
          have : 0 ≤ sm (g d.f1) m := sm_mono (f := g d.f1) m 0 (by omega) (fun j h3' h4 => h6.vp j h4)
          omega
      · have : ((d.f1.length : Int) != (m : Int)) = true := by simp; omega
        rw [this]
        exact ⟨_, rfl, no fun h6 => hvl h6.vl⟩
    · rw [if_pos (by omega), Option.bind_some]
      exact ⟨_, rfl, no fun h6 => hul h6.ul⟩
  · rw [rvalue_bad h hva (k := k) (by omega), Option.bind_some, if_neg (by decide), Option.bind_some]
    exact ⟨_, rfl, no fun h6 => hva h6.va⟩
end
/-! ### the test of a matrix -/
theorem rrow (raw : List (List Int)) {i : Nat} (hi : i < raw.length) (hl : (row raw i).length ≤ 12) : ∀ (d k n : Nat), d + n = (row raw i).length → d < k → ∃ s, armillaryref22_Valid.l2 raw (i : Int) k (n : Int) = some s ∧ ((s = .inl () ∧ ∀ j, n ≤ j → j < (row raw i).length → 0 ≤ we raw i j ∧ we raw i j ≤ 1073741824) ∨ (s = .inr false ∧ ¬ ∀ j, n ≤ j → j < (row raw i).length → 0 ≤ we raw i j ∧ we raw i j ≤ 1073741824)) := by
  intro d
  induction d with
  | zero =>
    intro k n hd hk
    obtain ⟨k, rfl⟩ : ∃ m, k = m + 1 := ⟨k - 1, by omega⟩
    simp only [armillaryref22_Valid.l2, tn]
    rw [if_pos (by omega), if_pos (by omega), if_neg (by show ¬ (n : Int) < ((row raw i).length : Int); omega)]
    exact ⟨_, rfl, .inl ⟨rfl, fun j h1 h2 => by omega⟩⟩
  | succ d ih =>
    intro k n hd hk
    obtain ⟨k, rfl⟩ : ∃ m, k = m + 1 := ⟨k - 1, by omega⟩
    have hn : (n : Int) < ((raw.getD i []).length : Int) := by show (n : Int) < ((row raw i).length : Int); omega
    simp only [armillaryref22_Valid.l2, tn]
    rw [if_pos (by omega), if_pos (by omega), if_pos hn, if_pos (by omega), if_pos (by omega), if_pos (by omega), if_pos hn]
    have bad : ¬ (0 ≤ we raw i n ∧ we raw i n ≤ 1073741824) → ∃ s, some (Sum.inr false : Unit ⊕ Bool) = some s ∧ ((s = .inl () ∧ ∀ j, n ≤ j → j < (row raw i).length → 0 ≤ we raw i j ∧ we raw i j ≤ 1073741824) ∨ (s = .inr false ∧ ¬ ∀ j, n ≤ j → j < (row raw i).length → 0 ≤ we raw i j ∧ we raw i j ≤ 1073741824)) := fun h => ⟨_, rfl, .inr ⟨rfl, fun h2 => h (h2 n (Nat.le_refl _) (by omega))⟩⟩
    by_cases e : we raw i n < 0
    · rw [if_pos (show (raw.getD i []).getD n 0 < 0 from e), Option.bind_some, if_pos rfl]
      exact bad fun h => by omega
    · rw [if_neg (show ¬ (raw.getD i []).getD n 0 < 0 from e), if_pos (by omega), if_pos (by omega), if_pos (by omega), if_pos hn, Option.bind_some]
      by_cases e2 : we raw i n > 1073741824
      · rw [if_pos (decide_eq_true (show (raw.getD i []).getD n 0 > 1073741824 from e2))]
        exact bad fun h => by omega
      · rw [if_neg (fun h => e2 (of_decide_eq_true h)), Wn (by omega)]
        obtain ⟨s, e3, h⟩ := ih k (n + 1) (by omega) (by omega)
        refine ⟨s, e3, h.imp (fun ⟨h1, h2⟩ => ⟨h1, fun j h3 h4 => ?_⟩) (fun ⟨h1, h2⟩ => ⟨h1, fun h3 => h2 fun j h4 h5 => h3 j (by omega) h5⟩)⟩
        by_cases e4 : j = n
        · subst e4; omega
        · exact h2 j (by omega) h4
theorem rrows (raw : List (List Int)) (hl : raw.length ≤ 12) : ∀ (d k n : Nat), d + n = raw.length → d + 20 ≤ k → ∃ s, armillaryref22_Valid.l1 raw k (n : Int) = some s ∧ ((s = .inl () ∧ ∀ i, n ≤ i → i < raw.length → Rok raw i) ∨ (s = .inr false ∧ ¬ ∀ i, n ≤ i → i < raw.length → Rok raw i)) := by
  intro d
  induction d with
  | zero =>
    intro k n hd hk
    obtain ⟨k, rfl⟩ : ∃ m, k = m + 1 := ⟨k - 1, by omega⟩
    simp only [armillaryref22_Valid.l1]
    rw [if_neg (by omega)]
    exact ⟨_, rfl, .inl ⟨rfl, fun j h1 h2 => by omega⟩⟩
  | succ d ih =>
    intro k n hd hk
    obtain ⟨k, rfl⟩ : ∃ m, k = m + 1 := ⟨k - 1, by omega⟩
    have bad : ¬ Rok raw n → ∃ s, some (Sum.inr false : Unit ⊕ Bool) = some s ∧ ((s = .inl () ∧ ∀ i, n ≤ i → i < raw.length → Rok raw i) ∨ (s = .inr false ∧ ¬ ∀ i, n ≤ i → i < raw.length → Rok raw i)) := fun h => ⟨_, rfl, .inr ⟨rfl, fun h2 => h (h2 n (Nat.le_refl _) (by omega))⟩⟩
    simp only [armillaryref22_Valid.l1, tn]
    rw [if_pos (by omega), if_pos (by omega), if_pos (by omega), if_pos (by omega)]
    by_cases h1 : ((raw.getD n []).length : Int) ≠ ((raw.getD (0 : Int).toNat []).length : Int)
    · rw [if_pos h1, Option.bind_some]
      simp only [armillaryref22_Valid.k5, if_pos, Option.bind_some]
      exact bad fun h => h1 (by rw [show (raw.getD n []).length = _ from h.1]; rfl)
    · rw [if_neg h1, if_pos (by omega), if_pos (by omega), Option.bind_some]
      by_cases h2 : ((raw.getD n []).length : Int) > 12
      · rw [decide_eq_true h2]
        simp only [armillaryref22_Valid.k5, if_pos, Option.bind_some]
        exact bad fun h => by have : (raw.getD n []).length ≤ 12 := h.2.1; omega
      · rw [decide_eq_false h2]
        simp only [armillaryref22_Valid.k5]
        rw [if_neg (by decide)]
        have hle : (row raw n).length ≤ 12 := by show (raw.getD n []).length ≤ 12; omega
        obtain ⟨s, e, hs⟩ := rrow raw (i := n) (by omega) hle (row raw n).length k 0 (by omega) (by omega)
        rw [show armillaryref22_Valid.l2 raw (n : Int) k 0 = some s from e, Option.bind_some]
        rcases hs with ⟨rfl, hs⟩ | ⟨rfl, hs⟩
        · simp only [armillaryref22_Valid.k3, Option.bind_some]
          rw [Wn (by omega)]
          have hn : Rok raw n := ⟨by have := Decidable.not_not.1 h1; show (raw.getD n []).length = (raw.getD (0 : Int).toNat []).length; omega, by show (raw.getD n []).length ≤ 12; omega, fun j hj => hs j (by omega) hj⟩
          obtain ⟨s, e2, h⟩ := ih k (n + 1) (by omega) (by omega)
          refine ⟨s, e2, h.imp (fun h => ⟨h.1, fun i h3 h4 => ?_⟩) (fun ⟨h3, h4⟩ => ⟨h3, fun h5 => h4 fun i h6 h7 => h5 i (by omega) h7⟩)⟩
          by_cases e3 : i = n
          · subst e3; exact hn
          · exact h.2 i (by omega) h4
        · simp only [armillaryref22_Valid.k3, Option.bind_some]
          exact bad fun h => hs fun j _ hj => h.2.2 j hj
theorem validR (raw : List (List Int)) {k : Nat} (hk : 40 ≤ k) : ∃ b, armillaryref22_Valid.f k raw = some b ∧ (b = true ↔ Mok raw) := by
  unfold armillaryref22_Valid.f
  by_cases h : (raw.length : Int) > 12
  · rw [if_pos h]
    exact ⟨_, rfl, ⟨fun h2 => (nomatch h2), fun h2 => by have := h2.1; omega⟩⟩
  · rw [if_neg h]
    obtain ⟨s, e, h1⟩ := rrows raw (by omega) raw.length k 0 (by omega) (by omega)
    rw [show armillaryref22_Valid.l1 raw k 0 = some s from e, Option.bind_some]
    rcases h1 with ⟨rfl, h1⟩ | ⟨rfl, h1⟩
    · exact ⟨_, rfl, ⟨fun _ => ⟨by omega, fun i hi => h1 i (by omega) hi⟩, fun _ => rfl⟩⟩
    · exact ⟨_, rfl, ⟨fun h2 => (nomatch h2), fun h2 => absurd (fun i _ hi => h2.2 i hi) h1⟩⟩
end Go.Proofs.Ytdmhbcgmimfjcaa.hun
namespace Go.Proofs.Ytdmhbcgmimfjcaa
open Go Go.Proofs.Ytdmhbcgmimfjcaa.RW
set_option linter.unusedVariables false
set_option maxRecDepth 100000
set_option maxHeartbeats 8000000

/-! ### armillaryref22_Best: function 24, armillary/armillaryref22.Best -/
noncomputable def K24_0 : Code := cBody Try.f24
noncomputable def O24_55 : List Oper := cOps (cL (cR (cL (cL (cR (cL (cL (cR (cL (cL (cR (cL (cL (cR (cL (cR (cR (cR (cR (cR K24_0))))))))))))))))))))
def armillaryref22_Best.k1  (x1 : List Int) : Option (List Int) := (some x1)
def armillaryref22_Best.k3  (x5 : List Int) : Option (List Int) := (some x5)
def armillaryref22_Best.l2 (a0 : List (List Int)) (a1 : Int) (t2 : List Int) (x3 : Int) : Nat → (List Int) → Int → Option (List Int)
 | 0, _, _ => none
 | k + 1, x6, x7 => (if 0 ≤ a1 then (if a1 < (a0.length : Int) then (if x7 < ((a0.getD (a1).toNat []).length : Int) then (if 0 ≤ x7 then ((if (bAnd .i64 (Int.fdiv x3 (2 ^ (min (x7).toNat 64))) 1) = 0 then (if 0 ≤ x3 then (if x3 < (x6.length : Int) then (if 0 ≤ a1 then (if a1 < (a0.length : Int) then (if 0 ≤ x7 then (if x7 < ((a0.getD (a1).toNat []).length : Int) then (if 0 ≤ x7 then (if 0 ≤ (bOr .i64 x3 (W .i64 (1 * 2 ^ (min (x7).toNat 64)))) then (if (bOr .i64 x3 (W .i64 (1 * 2 ^ (min (x7).toNat 64)))) < (t2.length : Int) then (if 0 ≤ x3 then (if x3 < (x6.length : Int) then (some (x6.set (x3).toNat (iMax (x6.getD (x3).toNat 0) (W .i64 (((a0.getD (a1).toNat []).getD (x7).toNat 0) + (t2.getD (bOr .i64 x3 (W .i64 (1 * 2 ^ (min (x7).toNat 64)))).toNat 0)))))) else none) else none) else none) else none) else none) else none) else none) else none) else none) else none) else none) else (some x6)).bind (fun x8 => (armillaryref22_Best.l2 a0 a1 t2 x3 k x8 (W .i64 (x7 + 1))))) else none) else (some x6)) else none) else none)
def armillaryref22_Best.l1 (a0 : List (List Int)) (a1 : Int) (t1 : Int) (t2 : List Int) : Nat → (List Int) → Int → Option (List Int)
 | 0, _, _ => none
 | k + 1, x2, x3 => (if x3 < (W .i64 (1 * 2 ^ (min (t1).toNat 64))) then (((armillaryref22_Best.l2 a0 a1 t2 x3 k x2 0).bind (armillaryref22_Best.k3)).bind (fun x4 => (armillaryref22_Best.l1 a0 a1 t1 t2 k x4 (W .i64 (x3 + 1))))) else (some x2))
def armillaryref22_Best.body (k : Nat) (rec_ : (List (List Int)) → Int → Option (List Int)) (a0 : List (List Int)) (a1 : Int) : Option (List Int) := ((armillaryref22_Columns.f a0).bind fun t1 => (if 0 ≤ t1 then (if a1 ≥ (a0.length : Int) then (if 0 ≤ (W .i64 (1 * 2 ^ (min (t1).toNat 64))) then (if (W .i64 (1 * 2 ^ (min (t1).toNat 64))) ≤ 35184372088832 then (some (List.replicate (W .i64 (1 * 2 ^ (min (t1).toNat 64))).toNat (0 : Int))) else none) else none) else ((rec_ a0 (W .i64 (a1 + 1))).bind fun t2 => (if (([] : List Int).length + t2.length) * 8 ≤ 140737488355328 then ((armillaryref22_Best.l1 a0 a1 t1 t2 k (([] : List Int) ++ t2) 0).bind (armillaryref22_Best.k1)) else none))) else none))
def armillaryref22_Best.f : Nat → (List (List Int)) → Int → Option (List Int)
 | 0, _, _ => none
 | k + 1, a0, a1 => armillaryref22_Best.body k (armillaryref22_Best.f k) a0 a1
def armillaryref22_Best.Post (I : Imm) (w : World) (r : List Int) (v : Value) (w' : World) : Prop :=
 ∃ (J : Imm) (A0 : Option Addr) (c0 : Nat) (cs0 : List Value), v = .slice A0 r.length c0 ∧ Got w w' I J [orow 2 1 A0 r.length c0 cs0] ∧ Reps (Ty.int .i64) J r cs0
noncomputable def a24_55n : List Nat := [0, 0, 0, 0, 12, 28, 0, 0, 192, 448, 0, 1984, 4032, 0, 0, 0, 32768, 114688, 253952, 516096, 1048512, 2097148, 4194303, 8388607]
theorem a24_55 : ancs O24_55 [] = a24_55n := by kernel_rfl
theorem a24_55o : drawOk O24_55 a24_55n 22 = true := by kernel_rfl
noncomputable def u24d1l  : List Ld :=
 []
noncomputable def u24d1g (a1 : Int) (x3 : Int) (x7 : Int) (g2_ : Nat) (g3_ : Nat) (o3_ : Nat) (g4_ : Nat) (o4_ : Nat) (g5_ : Nat) (o5_ : Nat) : List (Nat × ((Nat → Wt) → Value)) := [(4, fun u => pt g2_ (0 + (x3).toNat * 1)), (8, fun u => pt g3_ (o3_ + (a1).toNat * 1)), (11, fun u => pt g4_ (o4_ + (x7).toNat * 1)), (16, fun u => i6 (W .i64 (1 * 2 ^ (min (x7).toNat 64)))), (18, fun u => pt g5_ (o5_ + (bOr .i64 x3 (W .i64 (1 * 2 ^ (min (x7).toNat 64)))).toNat * 1))]
noncomputable def u24d1q (a0 : List (List Int)) (Ap0 : Option Addr) (cp0 : Nat) (a1 : Int) (t1 : Int) (t2 : List Int) (A1 : Option Addr) (c1 : Nat) (x3 : Int) (x6 : List Int) (A7 : Option Addr) (c7 : Nat) (x7 : Int) (g2_ : Nat) (A3_ : Option Addr) (c3_ : Nat) (g3_ : Nat) (o3_ : Nat) (g4_ : Nat) (o4_ : Nat) (g5_ : Nat) (o5_ : Nat) (u : Nat → Wt) : Option (List Value × List (Nat × Value) × List (Nat × Nat)) := qSim Try.prog [(⟨g2_, 0 + (x3).toNat * 1, none⟩, i6 (x6.getD (x3).toNat 0)), (⟨g3_, o3_ + (a1).toNat * 1, none⟩, .slice A3_ ((a0.getD (a1).toNat []).length) c3_), (⟨g4_, o4_ + (x7).toNat * 1, none⟩, i6 ((a0.getD (a1).toNat []).getD (x7).toNat 0)), (⟨g5_, o5_ + (bOr .i64 x3 (W .i64 (1 * 2 ^ (min (x7).toNat 64)))).toNat * 1, none⟩, i6 (t2.getD (bOr .i64 x3 (W .i64 (1 * 2 ^ (min (x7).toNat 64)))).toNat 0))] [] O24_55 ⟨69, []⟩ (Ld.vl u24d1l) (u24d1g a1 x3 x7 g2_ g3_ o3_ g4_ o4_ g5_ o5_) u [.no, .no, .no, .no, .no, .r 0, .no, .no, .no, .r 1, .no, .no, .r 2, .no, .no, .no, .no, .no, .no, .r 3, .no, .no] 0 (O24_55.take 22) [(44, .bool ((bAnd .i64 (Int.fdiv x3 (2 ^ (min (x7).toNat 64))) 1) == 0)), (0, .slice Ap0 a0.length cp0), (1, i6 a1), (5, i6 (W .i64 (1 * 2 ^ (min (t1).toNat 64)))), (6, .slice A1 t2.length c1), (7, .slice A7 x6.length c7), (8, i6 x3), (9, i6 x7)]
noncomputable def u24d1s (a0 : List (List Int)) (Ap0 : Option Addr) (cp0 : Nat) (a1 : Int) (t2 : List Int) (A1 : Option Addr) (c1 : Nat) (x3 : Int) (x6 : List Int) (A7 : Option Addr) (c7 : Nat) (x7 : Int) (g2_ : Nat) (A3_ : Option Addr) (c3_ : Nat) (g3_ : Nat) (o3_ : Nat) (g4_ : Nat) (o4_ : Nat) (g5_ : Nat) (o5_ : Nat) (u : Nat → Wt) : List Value := [.slice A7 x6.length c7, i6 x3, .slice A7 x6.length c7, i6 x3, pt g2_ (0 + (x3).toNat * 1), i6 (x6.getD (x3).toNat 0), .slice Ap0 a0.length cp0, i6 a1, pt g3_ (o3_ + (a1).toNat * 1), .slice A3_ ((a0.getD (a1).toNat []).length) c3_, i6 x7, pt g4_ (o4_ + (x7).toNat * 1), i6 ((a0.getD (a1).toNat []).getD (x7).toNat 0), .slice A1 t2.length c1, i6 x3, i6 x7, i6 (W .i64 (1 * 2 ^ (min (x7).toNat 64))), i6 (bOr .i64 x3 (W .i64 (1 * 2 ^ (min (x7).toNat 64)))), pt g5_ (o5_ + (bOr .i64 x3 (W .i64 (1 * 2 ^ (min (x7).toNat 64)))).toNat * 1), i6 (t2.getD (bOr .i64 x3 (W .i64 (1 * 2 ^ (min (x7).toNat 64)))).toNat 0), i6 (W .i64 (((a0.getD (a1).toNat []).getD (x7).toNat 0) + (t2.getD (bOr .i64 x3 (W .i64 (1 * 2 ^ (min (x7).toNat 64)))).toNat 0))), i6 (iMax (x6.getD (x3).toNat 0) (W .i64 (((a0.getD (a1).toNat []).getD (x7).toNat 0) + (t2.getD (bOr .i64 x3 (W .i64 (1 * 2 ^ (min (x7).toNat 64)))).toNat 0))))]
noncomputable def u24d1f (a0 : List (List Int)) (Ap0 : Option Addr) (cp0 : Nat) (a1 : Int) (t1 : Int) (t2 : List Int) (A1 : Option Addr) (c1 : Nat) (x3 : Int) (x6 : List Int) (A7 : Option Addr) (c7 : Nat) (x7 : Int) (g2_ : Nat) (A3_ : Option Addr) (c3_ : Nat) (g3_ : Nat) (o3_ : Nat) (g4_ : Nat) (o4_ : Nat) (g5_ : Nat) (o5_ : Nat) (i : Nat) (u : Nat → Wt) : List (Nat × Value) := foldPut ⟨69, []⟩ [(44, .bool ((bAnd .i64 (Int.fdiv x3 (2 ^ (min (x7).toNat 64))) 1) == 0)), (0, .slice Ap0 a0.length cp0), (1, i6 a1), (5, i6 (W .i64 (1 * 2 ^ (min (t1).toNat 64)))), (6, .slice A1 t2.length c1), (7, .slice A7 x6.length c7), (8, i6 x3), (9, i6 x7)] (O24_55.take i) (((u24d1s a0 Ap0 cp0 a1 t2 A1 c1 x3 x6 A7 c7 x7 g2_ A3_ c3_ g3_ o3_ g4_ o4_ g5_ o5_) u).take i)
theorem u24d1v (a0 : List (List Int)) (Ap0 : Option Addr) (cp0 : Nat) (a1 : Int) (t1 : Int) (t2 : List Int) (A1 : Option Addr) (c1 : Nat) (x3 : Int) (x6 : List Int) (A7 : Option Addr) (c7 : Nat) (x7 : Int) (g2_ : Nat) (A3_ : Option Addr) (c3_ : Nat) (g3_ : Nat) (o3_ : Nat) (g4_ : Nat) (o4_ : Nat) (g5_ : Nat) (o5_ : Nat) (u : Nat → Wt) : (u24d1q a0 Ap0 cp0 a1 t1 t2 A1 c1 x3 x6 A7 c7 x7 g2_ A3_ c3_ g3_ o3_ g4_ o4_ g5_ o5_ u).map (fun x => (x.1, x.2.1)) = some ((u24d1s a0 Ap0 cp0 a1 t2 A1 c1 x3 x6 A7 c7 x7 g2_ A3_ c3_ g3_ o3_ g4_ o4_ g5_ o5_) u, (u24d1f a0 Ap0 cp0 a1 t1 t2 A1 c1 x3 x6 A7 c7 x7 g2_ A3_ c3_ g3_ o3_ g4_ o4_ g5_ o5_ 22) u) := by kernel_rfl
theorem u24d1e (a0 : List (List Int)) (Ap0 : Option Addr) (cp0 : Nat) (a1 : Int) (t1 : Int) (t2 : List Int) (A1 : Option Addr) (c1 : Nat) (x3 : Int) (x6 : List Int) (A7 : Option Addr) (c7 : Nat) (x7 : Int) (g2_ : Nat) (A3_ : Option Addr) (c3_ : Nat) (g3_ : Nat) (o3_ : Nat) (g4_ : Nat) (o4_ : Nat) (g5_ : Nat) (o5_ : Nat) (u : Nat → Wt) : (u24d1q a0 Ap0 cp0 a1 t1 t2 A1 c1 x3 x6 A7 c7 x7 g2_ A3_ c3_ g3_ o3_ g4_ o4_ g5_ o5_ u).map (fun x => x.2.2.map (·.1)) = (u24d1q a0 Ap0 cp0 a1 t1 t2 A1 c1 x3 x6 A7 c7 x7 g2_ A3_ c3_ g3_ o3_ g4_ o4_ g5_ o5_ u).map (fun x => x.2.2.map (·.2)) := by kernel_rfl
theorem armillaryref22_Best.bodyCalls (k : Nat) (rec_ : (List (List Int)) → Int → Option (List Int)) (hrec : ∀ (I0 : Imm) (a0 : List (List Int)) (Ap0 : Option Addr) (cp0 : Nat) (a1 : Int) (w : World) (hI : I0.at_ w) (hlp0 : a0.length ≤ cp0) (hrp0 : Rd (Ty.slice (Ty.int .i64)) I0 Ap0 a0) (r : List Int) (h : rec_ a0 a1 = some r), Calls Try.prog 24 [.slice Ap0 a0.length cp0, i6 a1].toArray w fun e w' => ∃ v, e = .returned v ∧ armillaryref22_Best.Post I0 w r v w') (I0 : Imm) (a0 : List (List Int)) (Ap0 : Option Addr) (cp0 : Nat) (a1 : Int) (w : World) (hI : I0.at_ w) (hlp0 : a0.length ≤ cp0) (hrp0 : Rd (Ty.slice (Ty.int .i64)) I0 Ap0 a0) (r : List Int) (h : armillaryref22_Best.body k rec_ a0 a1 = some r) : Calls Try.prog 24 [.slice Ap0 a0.length cp0, i6 a1].toArray w fun e w' => ∃ v, e = .returned v ∧ armillaryref22_Best.Post I0 w r v w' := by
 have H : ((armillaryref22_Columns.f a0).bind fun t1 => (if 0 ≤ t1 then (if a1 ≥ (a0.length : Int) then (if 0 ≤ (W .i64 (1 * 2 ^ (min (t1).toNat 64))) then (if (W .i64 (1 * 2 ^ (min (t1).toNat 64))) ≤ 35184372088832 then (some (List.replicate (W .i64 (1 * 2 ^ (min (t1).toNat 64))).toNat (0 : Int))) else none) else none) else ((rec_ a0 (W .i64 (a1 + 1))).bind fun t2 => (if (([] : List Int).length + t2.length) * 8 ≤ 140737488355328 then ((armillaryref22_Best.l1 a0 a1 t1 t2 k (([] : List Int) ++ t2) 0).bind (armillaryref22_Best.k1)) else none))) else none)) = some r := h
 clear h
 refine calls_body Try.func24 (by kernel_rfl) 69 (by kernel_rfl) (by kernel_rfl) ⟨w, fun _ => False, I0⟩ I0 [] [(0, .slice Ap0 a0.length cp0), (1, i6 a1)] (by kernel_rfl) (Sat.start w _ I0 hI) ?_
 generalize w.heap.size = nx0
 show OK _ K24_0 _ _ _ _ _ _ _ _
 refine OK.sr ?_
 refine RL.st 1 [(0, .slice Ap0 a0.length cp0), (1, i6 a1)] ?_
 refine OK.sr ?_
 refine RL.s 1 [(10, .slice Ap0 a0.length cp0), (0, .slice Ap0 a0.length cp0), (1, i6 a1)] ?_
 obtain ⟨t1, hA1, H⟩ := bnd H
 refine RL.callP 21 [.slice Ap0 a0.length cp0] (some 11) (fun w => armillaryref22_Columns.Post I0 w t1) (by kernel_rfl) (by kernel_rfl) (fun w hs => armillaryref22_Columns.calls I0 a0 Ap0 cp0 w hs.im hlp0 hrp0 t1 hA1) ?_
 rintro w v w' hs ⟨I1, rfl, hg⟩
 have hi1 := hg.le
 refine RL.resume (X' := []) rfl (hs.call hg) ?_
 clear hs hg
 generalize w'.heap.size = nx1
 clear w w'
 obtain ⟨hc, H⟩ := ifs H
 refine RL.shl .i64 .i64 1 t1 (some 12) (by kernel_rfl) (by kernel_rfl) hc (K' := [(12, i6 (W .i64 (1 * 2 ^ (min (t1).toNat 64)))), (11, i6 t1), (10, .slice Ap0 a0.length cp0), (0, .slice Ap0 a0.length cp0), (1, i6 a1)]) (by kernel_rfl) ?_
 refine RL.st 1 [(5, i6 (W .i64 (1 * 2 ^ (min (t1).toNat 64)))), (0, .slice Ap0 a0.length cp0), (1, i6 a1)] ?_
 refine OK.sq ?_
 refine OK.sr ?_
 refine RL.st 4 [(16, .bool (decide (a1 ≥ (a0.length : Int)))), (5, i6 (W .i64 (1 * 2 ^ (min (t1).toNat 64)))), (0, .slice Ap0 a0.length cp0), (1, i6 a1)] ?_
 refine OK.cd (decide (a1 ≥ (a0.length : Int))) (fun hb => ?_) (fun hb => ?_)
 ·skip
  have hc := (of_decide_eq_true hb)
  rw [if_pos hc] at H
  clear hb
  refine OK.sr ?_
  refine RL.s 1 [(17, i6 (W .i64 (1 * 2 ^ (min (t1).toNat 64))))] ?_
  obtain ⟨hm1, H⟩ := ifs H
  obtain ⟨hm2, H⟩ := ifs H
  refine RL.makeL (T := 24) (e := 2) (W .i64 (1 * 2 ^ (min (t1).toNat 64))) .i64 .i64 (some 18) (i6 0) (0) (Ty.int .i64) 8 (by kernel_rfl) (by kernel_rfl) (by kernel_rfl) (by kernel_rfl) (by kernel_rfl) rfl hm1 (by omega) (by omega) (fun nx2 hp1 => ?_)
  refine RL.norm (K' := [(18, .slice (some ⟨nx1, 0, none⟩) ((List.replicate (W .i64 (1 * 2 ^ (min (t1).toNat 64))).toNat (0 : Int)).length) ((List.replicate (W .i64 (1 * 2 ^ (min (t1).toNat 64))).toNat (0 : Int)).length)), (17, i6 (W .i64 (1 * 2 ^ (min (t1).toNat 64))))]) (X' := [orow 2 1 (some ⟨nx1, 0, none⟩) ((List.replicate (W .i64 (1 * 2 ^ (min (t1).toNat 64))).toNat (0 : Int)).length) ((List.replicate (W .i64 (1 * 2 ^ (min (t1).toNat 64))).toNat (0 : Int)).length) (List.replicate (W .i64 (1 * 2 ^ (min (t1).toNat 64))).toNat (i6 0))]) (by kernel_rfl) rfl rfl (by kernel_rfl) ?_
  refine RL.st 1 [(4, .slice (some ⟨nx1, 0, none⟩) ((List.replicate (W .i64 (1 * 2 ^ (min (t1).toNat 64))).toNat (0 : Int)).length) ((List.replicate (W .i64 (1 * 2 ^ (min (t1).toNat 64))).toNat (0 : Int)).length))] ?_
  refine OK.re ?_
  refine QN.thenR ?_
  obtain rfl := Option.some.inj H
  refine QN.body rfl [] (RFacts.nil _ _ _) (.no) (.slice (some ⟨nx1, 0, none⟩) ((List.replicate (W .i64 (1 * 2 ^ (min (t1).toNat 64))).toNat (0 : Int)).length) ((List.replicate (W .i64 (1 * 2 ^ (min (t1).toNat 64))).toNat (0 : Int)).length)) (by kernel_rfl) (by kernel_rfl) (by kernel_rfl) ?_ _ (.inr rfl)
  exact fun w' hs' => ⟨_, rfl, I1, (some ⟨nx1, 0, none⟩), (List.replicate (W .i64 (1 * 2 ^ (min (t1).toNat 64))).toNat (0 : Int)).length, (List.replicate (W .i64 (1 * 2 ^ (min (t1).toNat 64))).toNat (i6 0)), rfl, hs'.got _ (.cons_cons _ .slnil), hp1⟩
 ·skip
  have hc := (of_decide_eq_false hb)
  rw [if_neg hc] at H
  clear hb
  refine OK.skt ?_
  refine OK.sr ?_
  refine RL.s 3 [(21, i6 (W .i64 (a1 + 1))), (19, .slice Ap0 a0.length cp0), (5, i6 (W .i64 (1 * 2 ^ (min (t1).toNat 64)))), (0, .slice Ap0 a0.length cp0), (1, i6 a1)] ?_
  obtain ⟨t2, hA2, H⟩ := bnd H
  refine RL.callP 24 [.slice Ap0 a0.length cp0, i6 (W .i64 (a1 + 1))] (some 22) (fun w => armillaryref22_Best.Post I1 w t2) (by kernel_rfl) (by kernel_rfl) (fun w hs => hrec I1 a0 Ap0 cp0 (W .i64 (a1 + 1)) w hs.im hlp0 (Rd.ext hi1 hrp0) t2 hA2) ?_
  rintro w v w' hs ⟨I2, A1, c1, cs1, rfl, hg, hp2⟩
  have hi2 := hg.le
  refine RL.resume (X' := [orow 2 1 A1 t2.length c1 cs1]) rfl (hs.call hg) ?_
  clear hs hg
  generalize w'.heap.size = nx3
  clear w w'
  refine RL.st 1 [(6, .slice A1 t2.length c1), (5, i6 (W .i64 (1 * 2 ^ (min (t1).toNat 64)))), (0, .slice Ap0 a0.length cp0), (1, i6 a1)] ?_
  refine OK.sr ?_
  refine RL.sp 2 [(24, .slice A1 t2.length c1), (23, .slice (some ⟨nx3, 0, none⟩) 0 0), (6, .slice A1 t2.length c1), (5, i6 (W .i64 (1 * 2 ^ (min (t1).toNat 64)))), (0, .slice Ap0 a0.length cp0), (1, i6 a1)] (nx3 + 1) [⟨nx3, [], 2⟩] ?_
  refine RL.freeze (e := 2) (sz := 1) (S := A1) (n := t2.length) (cap := c1) 0 (by kernel_rfl) hp2 rfl (fun I3 hi3 hl1 hr1 => ?_)
  skip
  refine RL.toRow (b := ⟨nx3, [], 2⟩) 0 0 1 (by kernel_rfl) (by kernel_rfl) (by decide) ?_
  have hp3 : Reps (Ty.int .i64) I3 ([] : List Int) [] := rfl
  refine RL.norm (L' := []) (X' := [orow 2 1 (some ⟨nx3, 0, none⟩) (([] : List Int).length) 0 []]) rfl rfl (by kernel_rfl) (by kernel_rfl) ?_
  obtain ⟨hz1, H⟩ := ifs H
  refine RL.appendR (T := 24) (e := 2) (S := (some ⟨nx3, 0, none⟩)) (S2 := A1) 1 8 24 0 c1 [] (Ty.int .i64) ([] : List Int) t2 0 (some 25) (by kernel_rfl) (by kernel_rfl) (by kernel_rfl) (by kernel_rfl) (by kernel_rfl) (by decide) (by kernel_rfl) hp3 hr1 hz1 (by omega) (fun A2 c2 nx4 cs2 hp4 => ?_)
  refine RL.sub (K' := [(25, .slice A2 ((([] : List Int) ++ t2).length) c2), (24, .slice A1 t2.length c1), (23, .slice (some ⟨nx3, 0, none⟩) 0 0), (6, .slice A1 t2.length c1), (5, i6 (W .i64 (1 * 2 ^ (min (t1).toNat 64)))), (0, .slice Ap0 a0.length cp0), (1, i6 a1)]) (L' := []) (X' := [orow 2 1 A2 ((([] : List Int) ++ t2).length) c2 cs2]) (by kernel_rfl) (.refl _) (.refl _) ?_
  refine RL.st 1 [(7, .slice A2 ((([] : List Int) ++ t2).length) c2), (6, .slice A1 t2.length c1), (5, i6 (W .i64 (1 * 2 ^ (min (t1).toNat 64)))), (0, .slice Ap0 a0.length cp0), (1, i6 a1)] ?_
  refine OK.sq ?_
  refine OK.sr ?_
  refine RL.st 1 [(8, i6 0), (7, .slice A2 ((([] : List Int) ++ t2).length) c2), (6, .slice A1 t2.length c1), (5, i6 (W .i64 (1 * 2 ^ (min (t1).toNat 64)))), (0, .slice Ap0 a0.length cp0), (1, i6 a1)] ?_
  refine OK.join (fun K' I' _ L' X' => ∃ (x1 : List Int) (A3 : Option Addr) (c3 : Nat) (cs3 : List Value), K' = [(7, .slice A3 x1.length c3)] ∧ L' = [] ∧ X' = [orow 2 1 A3 x1.length c3 cs3] ∧ Imm.le I3 I' ∧ Reps (Ty.int .i64) I' x1 cs3 ∧ armillaryref22_Best.k1 x1 = some r) ?_ ?_
  ·rintro _ I4 nx5 _ _ ⟨x1, A3, c3, cs3, rfl, rfl, rfl, hi4, hp5, H⟩
   rw [armillaryref22_Best.k1] at H
   refine QN.then_ ?_
   refine OK.sr ?_
   refine RL.st 2 [(4, .slice A3 x1.length c3)] ?_
   refine OK.re ?_
   obtain rfl := Option.some.inj H
   refine QN.body rfl [] (RFacts.nil _ _ _) (.no) (.slice A3 x1.length c3) (by kernel_rfl) (by kernel_rfl) (by kernel_rfl) ?_ _ (.inr rfl)
   exact fun w' hs' => ⟨_, rfl, I4, A3, c3, cs3, rfl, hs'.got _ (.cons_cons _ .slnil), hp5⟩
  ·intro Q_1 hJ1 hQ1
   obtain ⟨y1, H, HK1⟩ := bnd H
   refine OK.bk 0 ?_
   refine OK.sub (K' := [(0, .slice Ap0 a0.length cp0), (1, i6 a1), (5, i6 (W .i64 (1 * 2 ^ (min (t1).toNat 64)))), (6, .slice A1 t2.length c1), (7, .slice A2 ((([] : List Int) ++ t2).length) c2), (8, i6 0)]) (L' := []) (by kernel_rfl) .slnil (.refl _) ?_
   refine OK.lp (fun n_ K' I' _ L' X' => ∃ (x2 : List Int) (x3 : Int) (A4 : Option Addr) (c4 : Nat) (cs4 : List Value), K' = [(0, .slice Ap0 a0.length cp0), (1, i6 a1), (5, i6 (W .i64 (1 * 2 ^ (min (t1).toNat 64)))), (6, .slice A1 t2.length c1), (7, .slice A4 x2.length c4), (8, i6 x3)] ∧ L' = [] ∧ X' = [orow 2 1 A4 x2.length c4 cs4] ∧ Imm.le I3 I' ∧ Reps (Ty.int .i64) I' x2 cs4 ∧ armillaryref22_Best.l1 a0 a1 t1 t2 n_ x2 x3 = some y1) k ⟨(([] : List Int) ++ t2), 0, A2, c2, cs2, rfl, rfl, rfl, (Imm.le_refl _), hp4, H⟩ ?_ ?_
   ·rintro _ _ _ _ _ ⟨x2, x3, A4, c4, cs4, rfl, rfl, rfl, _, hp6, H⟩
    cases H
   ·rintro kq1 _ I5 nx6 _ _ ⟨x2, x3, A4, c4, cs4, rfl, rfl, rfl, hi5, hp6, H⟩ Q_l1 hJ2 hQ2
    rw [armillaryref22_Best.l1] at H
    refine OK.sq ?_
    refine OK.sr ?_
    refine RL.st 3 [(28, .bool (decide (x3 < (W .i64 (1 * 2 ^ (min (t1).toNat 64)))))), (0, .slice Ap0 a0.length cp0), (1, i6 a1), (5, i6 (W .i64 (1 * 2 ^ (min (t1).toNat 64)))), (6, .slice A1 t2.length c1), (7, .slice A4 x2.length c4), (8, i6 x3)] ?_
    refine OK.cd (decide (x3 < (W .i64 (1 * 2 ^ (min (t1).toNat 64))))) (fun hb => ?_) (fun hb => ?_)
    ·skip
     have hc := (of_decide_eq_true hb)
     rw [if_pos hc] at H
     clear hb
     refine OK.skt ?_
     refine OK.sq ?_
     refine OK.join (fun K' I' _ L' X' => ∃ (x4 : List Int) (A5 : Option Addr) (c5 : Nat) (cs5 : List Value), K' = [(0, .slice Ap0 a0.length cp0), (1, i6 a1), (5, i6 (W .i64 (1 * 2 ^ (min (t1).toNat 64)))), (6, .slice A1 t2.length c1), (7, .slice A5 x4.length c5), (8, i6 x3)] ∧ L' = [] ∧ X' = [orow 2 1 A5 x4.length c5 cs5] ∧ Imm.le I5 I' ∧ Reps (Ty.int .i64) I' x4 cs5 ∧ (armillaryref22_Best.l1 a0 a1 t1 t2 kq1 x4 (W .i64 (x3 + 1))) = some y1) ?_ ?_
     ·rintro _ I6 nx7 _ _ ⟨x4, A5, c5, cs5, rfl, rfl, rfl, hi6, hp7, H⟩
      replace H : (armillaryref22_Best.l1 a0 a1 t1 t2 kq1 x4 (W .i64 (x3 + 1))) = some y1 := H
      refine QN.then_ ?_
      refine OK.rg ?_
      refine RL.s 3 [(8, i6 (W .i64 (x3 + 1))), (0, .slice Ap0 a0.length cp0), (1, i6 a1), (5, i6 (W .i64 (1 * 2 ^ (min (t1).toNat 64)))), (6, .slice A1 t2.length c1), (7, .slice A5 x4.length c5)] ?_
      refine RL.nil (by kernel_rfl) ?_
      exact QN.sb (hJ2 _ _ _ _ _ ⟨x4, W .i64 (x3 + 1), A5, c5, cs5, rfl, rfl, rfl, (Imm.le_trans hi5 hi6), hp7, H⟩) .slnil (.refl _)
     ·intro Q_2 hJ3 hQ3
      obtain ⟨y2, H, HK2⟩ := bnd H
      refine OK.bk 1 ?_
      refine OK.sr ?_
      refine RL.st 1 [(9, i6 0), (0, .slice Ap0 a0.length cp0), (1, i6 a1), (5, i6 (W .i64 (1 * 2 ^ (min (t1).toNat 64)))), (6, .slice A1 t2.length c1), (7, .slice A4 x2.length c4), (8, i6 x3)] ?_
      refine OK.join (fun K' I' _ L' X' => ∃ (x5 : List Int) (A6 : Option Addr) (c6 : Nat) (cs6 : List Value), K' = [(0, .slice Ap0 a0.length cp0), (1, i6 a1), (5, i6 (W .i64 (1 * 2 ^ (min (t1).toNat 64)))), (6, .slice A1 t2.length c1), (7, .slice A6 x5.length c6), (8, i6 x3)] ∧ L' = [] ∧ X' = [orow 2 1 A6 x5.length c6 cs6] ∧ Imm.le I5 I' ∧ Reps (Ty.int .i64) I' x5 cs6 ∧ armillaryref22_Best.k3 x5 = some y2) ?_ ?_
      ·rintro _ I7 nx8 _ _ ⟨x5, A6, c6, cs6, rfl, rfl, rfl, hi7, hp8, H⟩
       rw [armillaryref22_Best.k3] at H
       refine QN.blkN ?_
       obtain rfl := Option.some.inj H
       exact QN.sb (hJ3 _ _ _ _ _ ⟨x5, A6, c6, cs6, rfl, rfl, rfl, hi7, hp8, HK2⟩) .slnil (.refl _)
      ·intro Q_3 hJ4 hQ4
       obtain ⟨y3, H, HK3⟩ := bnd H
       refine OK.bk 2 ?_
       refine OK.sub (K' := [(0, .slice Ap0 a0.length cp0), (1, i6 a1), (5, i6 (W .i64 (1 * 2 ^ (min (t1).toNat 64)))), (6, .slice A1 t2.length c1), (7, .slice A4 x2.length c4), (8, i6 x3), (9, i6 0)]) (L' := []) (by kernel_rfl) .slnil (.refl _) ?_
       refine OK.lp (fun n_ K' I' _ L' X' => ∃ (x6 : List Int) (x7 : Int) (A7 : Option Addr) (c7 : Nat) (cs7 : List Value), K' = [(0, .slice Ap0 a0.length cp0), (1, i6 a1), (5, i6 (W .i64 (1 * 2 ^ (min (t1).toNat 64)))), (6, .slice A1 t2.length c1), (7, .slice A7 x6.length c7), (8, i6 x3), (9, i6 x7)] ∧ L' = [] ∧ X' = [orow 2 1 A7 x6.length c7 cs7] ∧ Imm.le I5 I' ∧ Reps (Ty.int .i64) I' x6 cs7 ∧ armillaryref22_Best.l2 a0 a1 t2 x3 n_ x6 x7 = some y3) kq1 ⟨x2, 0, A4, c4, cs4, rfl, rfl, rfl, (Imm.le_refl _), hp6, H⟩ ?_ ?_
       ·rintro _ _ _ _ _ ⟨x6, x7, A7, c7, cs7, rfl, rfl, rfl, _, hp9, H⟩
        cases H
       ·rintro kq2 _ I8 nx9 _ _ ⟨x6, x7, A7, c7, cs7, rfl, rfl, rfl, hi8, hp9, H⟩ Q_l2 hJ5 hQ5
        rw [armillaryref22_Best.l2] at H
        refine OK.sq ?_
        refine OK.sr ?_
        refine RL.s 3 [(33, i6 a1), (32, .slice Ap0 a0.length cp0), (31, i6 x7), (0, .slice Ap0 a0.length cp0), (1, i6 a1), (5, i6 (W .i64 (1 * 2 ^ (min (t1).toNat 64)))), (6, .slice A1 t2.length c1), (7, .slice A7 x6.length c7), (8, i6 x3), (9, i6 x7)] ?_
        obtain ⟨hib0, H⟩ := ifs H
        obtain ⟨hib1, H⟩ := ifs H
        obtain ⟨g1_, o1_, hA1_, A1_, c1_, hl1_, hr1_, hc1_⟩ := Ty.slice_at (Rd.ext (Imm.le_trans (Imm.le_trans (Imm.le_trans (Imm.le_trans hi1 hi2) hi3) hi5) hi8) hrp0) a1 hib0 hib1
        refine RL.idx 1 .i64 a1 hA1_ a0.length cp0 (some 34) (by kernel_rfl) (by kernel_rfl) (T := 22) (e := 24) (by kernel_rfl) (by kernel_rfl) hib0 hib1 (K' := [(34, pt g1_ (o1_ + (a1).toNat * 1)), (33, i6 a1), (32, .slice Ap0 a0.length cp0), (31, i6 x7), (0, .slice Ap0 a0.length cp0), (1, i6 a1), (5, i6 (W .i64 (1 * 2 ^ (min (t1).toNat 64)))), (6, .slice A1 t2.length c1), (7, .slice A7 x6.length c7), (8, i6 x3), (9, i6 x7)]) (by kernel_rfl) ?_
        refine RL.simK (K' := [(37, .bool (decide (x7 < ((a0.getD (a1).toNat []).length : Int)))), (0, .slice Ap0 a0.length cp0), (1, i6 a1), (5, i6 (W .i64 (1 * 2 ^ (min (t1).toNat 64)))), (6, .slice A1 t2.length c1), (7, .slice A7 x6.length c7), (8, i6 x3), (9, i6 x7)]) [(⟨g1_, o1_ + (a1).toNat * 1, none⟩, .slice A1_ ((a0.getD (a1).toNat []).length) c1_)] (RFacts.imm (hc1_ 0 _ rfl) (RFacts.nil _ _ _)) 3 [.r 0, .no, .no] (by kernel_rfl) (by kernel_rfl) ?_
        refine RL.nt ?_
        refine OK.cd (decide (x7 < ((a0.getD (a1).toNat []).length : Int))) (fun hb => ?_) (fun hb => ?_)
        ·skip
         have hc := (of_decide_eq_true hb)
         rw [if_pos hc] at H
         clear hb
         refine OK.skt ?_
         refine OK.sq ?_
         refine OK.bk 3 ?_
         refine OK.sr ?_
         refine RL.s 2 [(41, i6 x7), (40, i6 x3), (0, .slice Ap0 a0.length cp0), (1, i6 a1), (5, i6 (W .i64 (1 * 2 ^ (min (t1).toNat 64)))), (6, .slice A1 t2.length c1), (7, .slice A7 x6.length c7), (8, i6 x3), (9, i6 x7)] ?_
         obtain ⟨hc, H⟩ := ifs H
         refine RL.shr .i64 .i64 x3 x7 (some 42) (by kernel_rfl) (by kernel_rfl) hc (K' := [(42, i6 (Int.fdiv x3 (2 ^ (min (x7).toNat 64)))), (41, i6 x7), (40, i6 x3), (0, .slice Ap0 a0.length cp0), (1, i6 a1), (5, i6 (W .i64 (1 * 2 ^ (min (t1).toNat 64)))), (6, .slice A1 t2.length c1), (7, .slice A7 x6.length c7), (8, i6 x3), (9, i6 x7)]) (by kernel_rfl) ?_
         refine RL.st 2 [(44, .bool ((bAnd .i64 (Int.fdiv x3 (2 ^ (min (x7).toNat 64))) 1) == 0)), (0, .slice Ap0 a0.length cp0), (1, i6 a1), (5, i6 (W .i64 (1 * 2 ^ (min (t1).toNat 64)))), (6, .slice A1 t2.length c1), (7, .slice A7 x6.length c7), (8, i6 x3), (9, i6 x7)] ?_
         refine OK.join (fun K' I' _ L' X' => ∃ (x8 : List Int) (A8 : Option Addr) (c8 : Nat) (cs8 : List Value), K' = [(0, .slice Ap0 a0.length cp0), (1, i6 a1), (5, i6 (W .i64 (1 * 2 ^ (min (t1).toNat 64)))), (6, .slice A1 t2.length c1), (7, .slice A8 x8.length c8), (8, i6 x3), (9, i6 x7)] ∧ L' = [] ∧ X' = [orow 2 1 A8 x8.length c8 cs8] ∧ Imm.le I8 I' ∧ Reps (Ty.int .i64) I' x8 cs8 ∧ (armillaryref22_Best.l2 a0 a1 t2 x3 kq2 x8 (W .i64 (x7 + 1))) = some y3) ?_ ?_
         ·rintro _ I9 nx10 _ _ ⟨x8, A8, c8, cs8, rfl, rfl, rfl, hi9, hp10, H⟩
          replace H : (armillaryref22_Best.l2 a0 a1 t2 x3 kq2 x8 (W .i64 (x7 + 1))) = some y3 := H
          refine QN.blkN ?_
          refine QN.then_ ?_
          refine OK.rg ?_
          refine RL.s 3 [(9, i6 (W .i64 (x7 + 1))), (0, .slice Ap0 a0.length cp0), (1, i6 a1), (5, i6 (W .i64 (1 * 2 ^ (min (t1).toNat 64)))), (6, .slice A1 t2.length c1), (7, .slice A8 x8.length c8), (8, i6 x3)] ?_
          refine RL.nil (by kernel_rfl) ?_
          exact QN.sb (hJ5 _ _ _ _ _ ⟨x8, W .i64 (x7 + 1), A8, c8, cs8, rfl, rfl, rfl, (Imm.le_trans hi8 hi9), hp10, H⟩) .slnil (.refl _)
         ·intro Q_4 hJ6 hQ6
          obtain ⟨y4, H, HK4⟩ := bnd H
          refine OK.cd ((bAnd .i64 (Int.fdiv x3 (2 ^ (min (x7).toNat 64))) 1) == 0) (fun hb => ?_) (fun hb => ?_)
          ·skip
           have hc := (beq_iff_eq.1 hb)
           rw [if_pos hc] at H
           clear hb
           obtain ⟨hi0_1, H⟩ := ifs H
           obtain ⟨hi1_1, H⟩ := ifs H
           refine OK.ownAddr (e := 2) (sz := 1) (S := A7) (n := x6.length) (cap := c7) (cs := cs7) 0 (by kernel_rfl) (by omega) (fun g2_ hA2_ => ?_)
           have hc2_ := Ty.int_own hp9 x3 hi0_1 hi1_1
           have hx02_ := hi0_1; have hx12_ := hi1_1
           obtain ⟨hi0_2, H⟩ := ifs H
           obtain ⟨hi1_2, H⟩ := ifs H
           obtain ⟨g3_, o3_, hA3_, A3_, c3_, hl3_, hr3_, hc3_⟩ := Ty.slice_at (Rd.ext (Imm.le_trans (Imm.le_trans (Imm.le_trans (Imm.le_trans hi1 hi2) hi3) hi5) hi8) hrp0) a1 hi0_2 hi1_2
           obtain ⟨hi0_3, H⟩ := ifs H
           obtain ⟨hi1_3, H⟩ := ifs H
           obtain ⟨g4_, o4_, hA4_, hc4_⟩ := Ty.int_at hr3_ x7 hi0_3 hi1_3
           obtain ⟨hc1, H⟩ := ifs H
           obtain ⟨hi0_4, H⟩ := ifs H
           obtain ⟨hi1_4, H⟩ := ifs H
           obtain ⟨g5_, o5_, hA5_, hc5_⟩ := Ty.int_at (Rd.ext (Imm.le_trans hi5 hi8) hr1) (bOr .i64 x3 (W .i64 (1 * 2 ^ (min (x7).toNat 64)))) hi0_4 hi1_4
           refine OK.drawnC 13 22 O24_55 a24_55n (by kernel_rfl) (by kernel_rfl) u24d1l (u24d1g a1 x3 x7 g2_ g3_ o3_ g4_ o4_ g5_ o5_) [(⟨g2_, 0 + (x3).toNat * 1, none⟩, i6 (x6.getD (x3).toNat 0)), (⟨g3_, o3_ + (a1).toNat * 1, none⟩, .slice A3_ ((a0.getD (a1).toNat []).length) c3_), (⟨g4_, o4_ + (x7).toNat * 1, none⟩, i6 ((a0.getD (a1).toNat []).getD (x7).toNat 0)), (⟨g5_, o5_ + (bOr .i64 x3 (W .i64 (1 * 2 ^ (min (x7).toNat 64)))).toNat * 1, none⟩, i6 (t2.getD (bOr .i64 x3 (W .i64 (1 * 2 ^ (min (x7).toNat 64)))).toNat 0))] (RI.own (e := 2) (sz := 1) (S := A7) (n := x6.length) (cap := c7) (cs := cs7) 0 (by kernel_rfl) hA2_ (0 + (x3).toNat * 1) ((x3).toNat * 1 + 0) (by omega) (hc2_ 0 _ rfl) (RI.cons (hc3_ 0 _ rfl) (RI.cons (hc4_ 0 _ rfl) (RI.cons (hc5_ 0 _ rfl) (RI.nil _))))) [.no, .no, .no, .no, .no, .r 0, .no, .no, .no, .r 1, .no, .no, .r 2, .no, .no, .no, .no, .no, .no, .r 3, .no, .no] a24_55 a24_55o (by kernel_rfl) (by kernel_rfl) (u24d1s a0 Ap0 cp0 a1 t2 A1 c1 x3 x6 A7 c7 x7 g2_ A3_ c3_ g3_ o3_ g4_ o4_ g5_ o5_) (u24d1f a0 Ap0 cp0 a1 t1 t2 A1 c1 x3 x6 A7 c7 x7 g2_ A3_ c3_ g3_ o3_ g4_ o4_ g5_ o5_ 22) (u24d1v a0 Ap0 cp0 a1 t1 t2 A1 c1 x3 x6 A7 c7 x7 g2_ A3_ c3_ g3_ o3_ g4_ o4_ g5_ o5_) (u24d1e a0 Ap0 cp0 a1 t1 t2 A1 c1 x3 x6 A7 c7 x7 g2_ A3_ c3_ g3_ o3_ g4_ o4_ g5_ o5_) [] framesOk.nil ?_ [u24d1f a0 Ap0 cp0 a1 t1 t2 A1 c1 x3 x6 A7 c7 x7 g2_ A3_ c3_ g3_ o3_ g4_ o4_ g5_ o5_ 4, u24d1f a0 Ap0 cp0 a1 t1 t2 A1 c1 x3 x6 A7 c7 x7 g2_ A3_ c3_ g3_ o3_ g4_ o4_ g5_ o5_ 8, u24d1f a0 Ap0 cp0 a1 t1 t2 A1 c1 x3 x6 A7 c7 x7 g2_ A3_ c3_ g3_ o3_ g4_ o4_ g5_ o5_ 11, u24d1f a0 Ap0 cp0 a1 t1 t2 A1 c1 x3 x6 A7 c7 x7 g2_ A3_ c3_ g3_ o3_ g4_ o4_ g5_ o5_ 16, u24d1f a0 Ap0 cp0 a1 t1 t2 A1 c1 x3 x6 A7 c7 x7 g2_ A3_ c3_ g3_ o3_ g4_ o4_ g5_ o5_ 18] (framesOk.cons (fun u => rfl) (framesOk.cons (fun u => rfl) (framesOk.cons (fun u => rfl) (framesOk.cons (fun u => rfl) (framesOk.cons (fun u => rfl) framesOk.nil))))) ?_ ?_
           ·refine LoudsG.nil
           ·refine Givens.cons (fun u w =>  ?_) (fun _ _ _ => rfl) (Givens.cons (fun u w =>  ?_) (fun _ _ _ => rfl) (Givens.cons (fun u w =>  ?_) (fun _ _ _ => rfl) (Givens.cons (fun u w =>  ?_) (fun _ _ _ => rfl) (Givens.cons (fun u w =>  ?_) (fun _ _ _ => rfl) (Givens.nil)))))
            ·exact giv_idx (T := 24) (e := 2) 1 .i64 x3 hA2_ x6.length c7 (by kernel_rfl) (by kernel_rfl) (by kernel_rfl) hi0_1 hi1_1 w
            ·exact giv_idx (T := 22) (e := 24) 1 .i64 a1 hA3_ a0.length cp0 (by kernel_rfl) (by kernel_rfl) (by kernel_rfl) hi0_2 hi1_2 w
            ·exact giv_idx (T := 24) (e := 2) 1 .i64 x7 hA4_ ((a0.getD (a1).toNat []).length) c3_ (by kernel_rfl) (by kernel_rfl) (by kernel_rfl) hi0_3 hi1_3 w
            ·exact giv_shl .i64 .i64 1 x7 (by kernel_rfl) hc1 w
            ·exact giv_idx (T := 24) (e := 2) 1 .i64 (bOr .i64 x3 (W .i64 (1 * 2 ^ (min (x7).toNat 64)))) hA5_ t2.length c1 (by kernel_rfl) (by kernel_rfl) (by kernel_rfl) hi0_4 hi1_4 w
           intro u I10 nx11 hi10 hF
           clear hF
           refine RL.norm (K' := ((66, i6 (iMax (x6.getD (x3).toNat 0) (W .i64 (((a0.getD (a1).toNat []).getD (x7).toNat 0) + (t2.getD (bOr .i64 x3 (W .i64 (1 * 2 ^ (min (x7).toNat 64)))).toNat 0))))) :: (65, i6 (W .i64 (((a0.getD (a1).toNat []).getD (x7).toNat 0) + (t2.getD (bOr .i64 x3 (W .i64 (1 * 2 ^ (min (x7).toNat 64)))).toNat 0)))) :: (64, i6 (t2.getD (bOr .i64 x3 (W .i64 (1 * 2 ^ (min (x7).toNat 64)))).toNat 0)) :: (63, pt g5_ (o5_ + (bOr .i64 x3 (W .i64 (1 * 2 ^ (min (x7).toNat 64)))).toNat * 1)) :: (62, i6 (bOr .i64 x3 (W .i64 (1 * 2 ^ (min (x7).toNat 64))))) :: (61, i6 (W .i64 (1 * 2 ^ (min (x7).toNat 64)))) :: (60, i6 x7) :: (59, i6 x3) :: (58, .slice A1 t2.length c1) :: (57, i6 ((a0.getD (a1).toNat []).getD (x7).toNat 0)) :: (56, pt g4_ (o4_ + (x7).toNat * 1)) :: (55, i6 x7) :: (54, .slice A3_ ((a0.getD (a1).toNat []).length) c3_) :: (53, pt g3_ (o3_ + (a1).toNat * 1)) :: (52, i6 a1) :: (51, .slice Ap0 a0.length cp0) :: (50, i6 (x6.getD (x3).toNat 0)) :: (49, pt g2_ (0 + (x3).toNat * 1)) :: (48, i6 x3) :: (47, .slice A7 x6.length c7) :: (46, i6 x3) :: (45, .slice A7 x6.length c7) :: (44, .bool ((bAnd .i64 (Int.fdiv x3 (2 ^ (min (x7).toNat 64))) 1) == 0)) :: (0, .slice Ap0 a0.length cp0) :: (1, i6 a1) :: (5, i6 (W .i64 (1 * 2 ^ (min (t1).toNat 64)))) :: (6, .slice A1 t2.length c1) :: (7, .slice A7 x6.length c7) :: (8, i6 x3) :: (9, i6 x7) :: [])) (X' := [orow 2 1 A7 x6.length c7 cs7]) (by kernel_rfl) rfl rfl rfl ?_
           obtain ⟨hib0, H⟩ := ifs H
           obtain ⟨hib1, H⟩ := ifs H
           have hx06_ := hib0; have hx16_ := hib1
           refine RL.ownAddr (e := 2) (sz := 1) (S := A7) (n := x6.length) (cap := c7) (cs := cs7) 0 (by kernel_rfl) (by omega) (fun g6_ hA6_ => ?_)
           have hc6_ := Ty.int_own (Reps.ext hi10 hp9) x3 hib0 hib1
           refine RL.idx 1 .i64 x3 hA6_ x6.length c7 (some 67) (by kernel_rfl) (by kernel_rfl) (T := 24) (e := 2) (by kernel_rfl) (by kernel_rfl) hib0 hib1 (K' := ((67, pt g6_ (0 + (x3).toNat * 1)) :: (66, i6 (iMax (x6.getD (x3).toNat 0) (W .i64 (((a0.getD (a1).toNat []).getD (x7).toNat 0) + (t2.getD (bOr .i64 x3 (W .i64 (1 * 2 ^ (min (x7).toNat 64)))).toNat 0))))) :: (65, i6 (W .i64 (((a0.getD (a1).toNat []).getD (x7).toNat 0) + (t2.getD (bOr .i64 x3 (W .i64 (1 * 2 ^ (min (x7).toNat 64)))).toNat 0)))) :: (64, i6 (t2.getD (bOr .i64 x3 (W .i64 (1 * 2 ^ (min (x7).toNat 64)))).toNat 0)) :: (63, pt g5_ (o5_ + (bOr .i64 x3 (W .i64 (1 * 2 ^ (min (x7).toNat 64)))).toNat * 1)) :: (62, i6 (bOr .i64 x3 (W .i64 (1 * 2 ^ (min (x7).toNat 64))))) :: (61, i6 (W .i64 (1 * 2 ^ (min (x7).toNat 64)))) :: (60, i6 x7) :: (59, i6 x3) :: (58, .slice A1 t2.length c1) :: (57, i6 ((a0.getD (a1).toNat []).getD (x7).toNat 0)) :: (56, pt g4_ (o4_ + (x7).toNat * 1)) :: (55, i6 x7) :: (54, .slice A3_ ((a0.getD (a1).toNat []).length) c3_) :: (53, pt g3_ (o3_ + (a1).toNat * 1)) :: (52, i6 a1) :: (51, .slice Ap0 a0.length cp0) :: (50, i6 (x6.getD (x3).toNat 0)) :: (49, pt g2_ (0 + (x3).toNat * 1)) :: (48, i6 x3) :: (47, .slice A7 x6.length c7) :: (46, i6 x3) :: (45, .slice A7 x6.length c7) :: (44, .bool ((bAnd .i64 (Int.fdiv x3 (2 ^ (min (x7).toNat 64))) 1) == 0)) :: (0, .slice Ap0 a0.length cp0) :: (1, i6 a1) :: (5, i6 (W .i64 (1 * 2 ^ (min (t1).toNat 64)))) :: (6, .slice A1 t2.length c1) :: (7, .slice A7 x6.length c7) :: (8, i6 x3) :: (9, i6 x7) :: [])) (by kernel_rfl) ?_
           refine RL.storeL (T := 2) (e := 2) 1 0 hA6_ c7 x3 cs7 [i6 (iMax (x6.getD (x3).toNat 0) (W .i64 (((a0.getD (a1).toNat []).getD (x7).toNat 0) + (t2.getD (bOr .i64 x3 (W .i64 (1 * 2 ^ (min (x7).toNat 64)))).toNat 0))))] (i6 (iMax (x6.getD (x3).toNat 0) (W .i64 (((a0.getD (a1).toNat []).getD (x7).toNat 0) + (t2.getD (bOr .i64 x3 (W .i64 (1 * 2 ^ (min (x7).toNat 64)))).toNat 0))))) (Ty.int .i64) x6 (iMax (x6.getD (x3).toNat 0) (W .i64 (((a0.getD (a1).toNat []).getD (x7).toNat 0) + (t2.getD (bOr .i64 x3 (W .i64 (1 * 2 ^ (min (x7).toNat 64)))).toNat 0)))) (by kernel_rfl) (by kernel_rfl) (by kernel_rfl) (by kernel_rfl) (by kernel_rfl) rfl (by kernel_rfl) (Reps.ext hi10 hp9) hx06_ hx16_ (fun cs9 hp11 => ?_)
           refine RL.sub (K' := ((66, i6 (iMax (x6.getD (x3).toNat 0) (W .i64 (((a0.getD (a1).toNat []).getD (x7).toNat 0) + (t2.getD (bOr .i64 x3 (W .i64 (1 * 2 ^ (min (x7).toNat 64)))).toNat 0))))) :: (65, i6 (W .i64 (((a0.getD (a1).toNat []).getD (x7).toNat 0) + (t2.getD (bOr .i64 x3 (W .i64 (1 * 2 ^ (min (x7).toNat 64)))).toNat 0)))) :: (64, i6 (t2.getD (bOr .i64 x3 (W .i64 (1 * 2 ^ (min (x7).toNat 64)))).toNat 0)) :: (63, pt g5_ (o5_ + (bOr .i64 x3 (W .i64 (1 * 2 ^ (min (x7).toNat 64)))).toNat * 1)) :: (62, i6 (bOr .i64 x3 (W .i64 (1 * 2 ^ (min (x7).toNat 64))))) :: (61, i6 (W .i64 (1 * 2 ^ (min (x7).toNat 64)))) :: (60, i6 x7) :: (59, i6 x3) :: (58, .slice A1 t2.length c1) :: (57, i6 ((a0.getD (a1).toNat []).getD (x7).toNat 0)) :: (56, pt g4_ (o4_ + (x7).toNat * 1)) :: (55, i6 x7) :: (54, .slice A3_ ((a0.getD (a1).toNat []).length) c3_) :: (53, pt g3_ (o3_ + (a1).toNat * 1)) :: (52, i6 a1) :: (51, .slice Ap0 a0.length cp0) :: (50, i6 (x6.getD (x3).toNat 0)) :: (48, i6 x3) :: (47, .slice A7 x6.length c7) :: (46, i6 x3) :: (45, .slice A7 x6.length c7) :: (44, .bool ((bAnd .i64 (Int.fdiv x3 (2 ^ (min (x7).toNat 64))) 1) == 0)) :: (0, .slice Ap0 a0.length cp0) :: (1, i6 a1) :: (5, i6 (W .i64 (1 * 2 ^ (min (t1).toNat 64)))) :: (6, .slice A1 t2.length c1) :: (7, .slice A7 x6.length c7) :: (8, i6 x3) :: (9, i6 x7) :: [])) (L' := []) (X' := [orow 2 1 A7 ((x6.set (x3).toNat (iMax (x6.getD (x3).toNat 0) (W .i64 (((a0.getD (a1).toNat []).getD (x7).toNat 0) + (t2.getD (bOr .i64 x3 (W .i64 (1 * 2 ^ (min (x7).toNat 64)))).toNat 0))))).length) c7 cs9]) (by kernel_rfl) (.refl _) (.refl _) ?_
           refine RL.norm (K' := ((66, i6 (iMax (x6.getD (x3).toNat 0) (W .i64 (((a0.getD (a1).toNat []).getD (x7).toNat 0) + (t2.getD (bOr .i64 x3 (W .i64 (1 * 2 ^ (min (x7).toNat 64)))).toNat 0))))) :: (65, i6 (W .i64 (((a0.getD (a1).toNat []).getD (x7).toNat 0) + (t2.getD (bOr .i64 x3 (W .i64 (1 * 2 ^ (min (x7).toNat 64)))).toNat 0)))) :: (64, i6 (t2.getD (bOr .i64 x3 (W .i64 (1 * 2 ^ (min (x7).toNat 64)))).toNat 0)) :: (63, pt g5_ (o5_ + (bOr .i64 x3 (W .i64 (1 * 2 ^ (min (x7).toNat 64)))).toNat * 1)) :: (62, i6 (bOr .i64 x3 (W .i64 (1 * 2 ^ (min (x7).toNat 64))))) :: (61, i6 (W .i64 (1 * 2 ^ (min (x7).toNat 64)))) :: (60, i6 x7) :: (59, i6 x3) :: (58, .slice A1 t2.length c1) :: (57, i6 ((a0.getD (a1).toNat []).getD (x7).toNat 0)) :: (56, pt g4_ (o4_ + (x7).toNat * 1)) :: (55, i6 x7) :: (54, .slice A3_ ((a0.getD (a1).toNat []).length) c3_) :: (53, pt g3_ (o3_ + (a1).toNat * 1)) :: (52, i6 a1) :: (51, .slice Ap0 a0.length cp0) :: (50, i6 (x6.getD (x3).toNat 0)) :: (48, i6 x3) :: (47, .slice A7 ((x6.set (x3).toNat (iMax (x6.getD (x3).toNat 0) (W .i64 (((a0.getD (a1).toNat []).getD (x7).toNat 0) + (t2.getD (bOr .i64 x3 (W .i64 (1 * 2 ^ (min (x7).toNat 64)))).toNat 0))))).length) c7) :: (46, i6 x3) :: (45, .slice A7 ((x6.set (x3).toNat (iMax (x6.getD (x3).toNat 0) (W .i64 (((a0.getD (a1).toNat []).getD (x7).toNat 0) + (t2.getD (bOr .i64 x3 (W .i64 (1 * 2 ^ (min (x7).toNat 64)))).toNat 0))))).length) c7) :: (44, .bool ((bAnd .i64 (Int.fdiv x3 (2 ^ (min (x7).toNat 64))) 1) == 0)) :: (0, .slice Ap0 a0.length cp0) :: (1, i6 a1) :: (5, i6 (W .i64 (1 * 2 ^ (min (t1).toNat 64)))) :: (6, .slice A1 t2.length c1) :: (7, .slice A7 ((x6.set (x3).toNat (iMax (x6.getD (x3).toNat 0) (W .i64 (((a0.getD (a1).toNat []).getD (x7).toNat 0) + (t2.getD (bOr .i64 x3 (W .i64 (1 * 2 ^ (min (x7).toNat 64)))).toNat 0))))).length) c7) :: (8, i6 x3) :: (9, i6 x7) :: [])) (L' := []) (by simp only [List.length_set]) rfl (by first | rfl | simp only [List.length_set]) rfl ?_
           refine RL.nil (by kernel_rfl) ?_
           refine QN.sub (K' := [(0, .slice Ap0 a0.length cp0), (1, i6 a1), (5, i6 (W .i64 (1 * 2 ^ (min (t1).toNat 64)))), (6, .slice A1 t2.length c1), (7, .slice A7 ((x6.set (x3).toNat (iMax (x6.getD (x3).toNat 0) (W .i64 (((a0.getD (a1).toNat []).getD (x7).toNat 0) + (t2.getD (bOr .i64 x3 (W .i64 (1 * 2 ^ (min (x7).toNat 64)))).toNat 0))))).length) c7), (8, i6 x3), (9, i6 x7)]) (L' := []) (by kernel_rfl) .slnil (.refl _) ?_
           obtain rfl := Option.some.inj H
           exact QN.sb (hJ6 _ _ _ _ _ ⟨x6.set (x3).toNat (iMax (x6.getD (x3).toNat 0) (W .i64 (((a0.getD (a1).toNat []).getD (x7).toNat 0) + (t2.getD (bOr .i64 x3 (W .i64 (1 * 2 ^ (min (x7).toNat 64)))).toNat 0)))), A7, c7, cs9, rfl, rfl, rfl, hi10, hp11, HK4⟩) .slnil (.refl _)
          ·skip
           have hc := (beq_eq_false_iff_ne.1 hb)
           rw [if_neg hc] at H
           clear hb
           refine OK.sk ?_
           obtain rfl := Option.some.inj H
           exact QN.sb (hJ6 _ _ _ _ _ ⟨x6, A7, c7, cs7, rfl, rfl, rfl, (Imm.le_refl _), hp9, HK4⟩) .slnil (.refl _)
        ·skip
         have hc := (of_decide_eq_false hb)
         rw [if_neg hc] at H
         clear hb
         refine OK.ex 2 ?_
         refine QN.thenE ?_
         refine QN.outE hQ5 ?_
         refine QN.blkE ?_
         obtain rfl := Option.some.inj H
         exact QN.sb (hJ4 _ _ _ _ _ ⟨x6, A7, c7, cs7, rfl, rfl, rfl, hi8, hp9, HK3⟩) .slnil (.refl _)
    ·skip
     have hc := (of_decide_eq_false hb)
     rw [if_neg hc] at H
     clear hb
     refine OK.ex 0 ?_
     refine QN.thenE ?_
     refine QN.outE hQ2 ?_
     refine QN.blkE ?_
     obtain rfl := Option.some.inj H
     exact QN.sb (hJ1 _ _ _ _ _ ⟨x2, A4, c4, cs4, rfl, rfl, rfl, hi5, hp6, HK1⟩) .slnil (.refl _)
theorem armillaryref22_Best.calls (k : Nat) : ∀ (I0 : Imm) (a0 : List (List Int)) (Ap0 : Option Addr) (cp0 : Nat) (a1 : Int) (w : World) (hI : I0.at_ w) (hlp0 : a0.length ≤ cp0) (hrp0 : Rd (Ty.slice (Ty.int .i64)) I0 Ap0 a0) (r : List Int) (h : armillaryref22_Best.f k a0 a1 = some r), Calls Try.prog 24 [.slice Ap0 a0.length cp0, i6 a1].toArray w fun e w' => ∃ v, e = .returned v ∧ armillaryref22_Best.Post I0 w r v w' := by
 induction k with
 | zero => intro I0 a0 Ap0 cp0 a1 w hI hlp0 hrp0 r h; cases h
 | succ k ih => intro I0 a0 Ap0 cp0 a1 w hI hlp0 hrp0 r h; exact armillaryref22_Best.bodyCalls k (armillaryref22_Best.f k) ih I0 a0 Ap0 cp0 a1 w hI hlp0 hrp0 r h

end Go.Proofs.Ytdmhbcgmimfjcaa
namespace Go.Proofs.Ytdmhbcgmimfjcaa.hun
open Go Go.Proofs.Ytdmhbcgmimfjcaa Go.Proofs.Ytdmhbcgmimfjcaa.RW
set_option linter.unusedVariables false
set_option maxRecDepth 100000
set_option maxHeartbeats 4000000
/-! ### bits -/
theorem bitA : ∀ x, x < 64 → ∀ j, j < 6 → bAnd .i64 (Int.fdiv ((x : Nat) : Int) (2 ^ (min j 64))) 1 = if x.testBit j = true then 1 else 0 := by decide +kernel
theorem bitO : ∀ x, x < 64 → ∀ j, j < 6 → bOr .i64 ((x : Nat) : Int) (W .i64 (1 * 2 ^ (min j 64))) = ((x ||| 2 ^ j : Nat) : Int) := by decide +kernel
theorem bitP : ∀ m, m < 7 → W .i64 (1 * 2 ^ (min m 64)) = ((2 ^ m : Nat) : Int) ∧ 2 ^ m ≤ 64 := by decide +kernel
theorem bitL {m x j : Nat} (hx : x < 2 ^ m) (hj : j < m) : x ||| 2 ^ j < 2 ^ m := Nat.or_lt_two_pow hx (Nat.pow_lt_pow_right (by omega) hj)
theorem bitT (x j : Nat) : (x ||| 2 ^ j).testBit = plus x.testBit j := by
  funext q
  rw [Nat.testBit_or, Nat.testBit_two_pow]
  show _ = if q = j then true else x.testBit q
  by_cases e : q = j
  · rw [if_pos e, decide_eq_true e.symm, Bool.or_true]
  · rw [if_neg e, decide_eq_false (fun h => e h.symm), Bool.or_false]
section
variable {w : List (List Int)} {m : Nat}
theorem opt_at (h : Vw w m) {i : Nat} (hi : i ≤ w.length) (t : Nat → Bool) : ∃ V, Opt w m i t V ∧ 0 ≤ V ∧ V ≤ 12884901888 := by
  obtain ⟨V, _, h1, h2⟩ := best_spec h (used := (List.range m).map t) (by simp) (first := i) (k := 1000) (by omega) hi
  refine ⟨V, h1.congr (fun j hj => ?_), h2⟩
  show ((List.range m).map t).getD j false = t j
  rw [List.getD_eq_getElem?_getD, List.getElem?_map, List.getElem?_range hj]
  rfl
theorem Opt.weaken {i : Nat} {t : Nat → Bool} {V V' : Int} (h : Opt w m i t V) (h' : Opt w m (i + 1) t V') : V' ≤ V := by
  obtain ⟨a, ha, hv⟩ := h'.2
  have := h.1 a ⟨fun i' hi' => (ha.rg i' hi').imp id (fun ⟨h1, h2⟩ => ⟨by omega, h2⟩), ha.inj⟩
  omega
theorem Opt.max (h : Vw w m) {i : Nat} {t : Nat → Bool} {V0 M : Int} (hi : i < w.length) (h0 : Opt w m (i + 1) t V0) (hj : ∀ j, j < m → t j = false → ∃ Vj, Opt w m (i + 1) (plus t j) Vj ∧ we w i j + Vj ≤ M) (hle : V0 ≤ M)
    (hat : M = V0 ∨ ∃ j, j < m ∧ t j = false ∧ ∃ Vj, Opt w m (i + 1) (plus t j) Vj ∧ M = we w i j + Vj) : Opt w m i t M := by
  obtain ⟨V, hV, _⟩ := opt_at h (i := i) (by omega) t
  have h1 := hV.weaken h0
  have h2 : M ≤ V := by
    rcases hat with e | ⟨j, h3, h4, Vj, h5, e⟩
    · omega
    · have := Opt.take hi h3 h4 hV h5
      omega
  have h3 : V ≤ M := by
    by_cases hs : ∀ j, j < m → t j = false → ∃ Vj, Opt w m (i + 1) (plus t j) Vj ∧ we w i j + Vj < V
    · have := (Opt.skip hi hV hs).uniq h0
      omega
    · obtain ⟨j, h4⟩ := Classical.not_forall.1 hs
      obtain ⟨h5, h6⟩ := Classical.not_imp.1 h4
      obtain ⟨h7, h8⟩ := Classical.not_imp.1 h6
      obtain ⟨Vj, h9, h10⟩ := hj j h5 h7
      have : ¬ we w i j + Vj < V := fun hx => h8 ⟨Vj, h9, hx⟩
      omega
  obtain rfl : M = V := by omega
  exact hV
theorem Opt.last {t : Nat → Bool} : Opt w m w.length t 0 := by
  have h0 : ∀ a, IsA w m w.length t a → val w a = 0 := fun a ha => by
    have e1 : val w a = sm (fun _ => 0) w.length := sm_congr _ (fun i' hi' => by
      rcases ha.rg i' hi' with h1 | h1
      · exact if_pos h1
      · omega)
    rw [e1, sm_const]; simp
  refine ⟨fun a ha => by rw [h0 a ha]; exact Int.le_refl _, fun _ => -1, ⟨fun i hi => .inl rfl, fun i i' _ _ h1 _ => ?_⟩, ?_⟩
  · exact absurd (show (0 : Int) ≤ -1 from h1) (by omega)
  · have ha : IsA w m w.length t (fun _ => -1) := ⟨fun i hi => .inl rfl, fun i i' _ _ h1 _ => absurd (show (0 : Int) ≤ -1 from h1) (by omega)⟩
    exact h0 _ ha
/-! ### the table -/
/-- The table of the best values from row i on. -/
structure Tab (w : List (List Int)) (m i : Nat) (b : List Int) : Prop where
  len : b.length = 2 ^ m
  at_ : ∀ x, x < 2 ^ m → Opt w m i x.testBit (g b x)
theorem Tab.b (h : Vw w m) {i : Nat} (hi : i ≤ w.length) {b : List Int} (t : Tab w m i b) {x : Nat} (hx : x < 2 ^ m) : 0 ≤ g b x ∧ g b x ≤ 12884901888 := by
  obtain ⟨V, h1, h2⟩ := opt_at h hi x.testBit
  rw [(t.at_ x hx).uniq h1]
  exact h2
theorem best_cell (h : Vw w m) (hm6 : m ≤ 6) {i : Nat} (hi : i < w.length) {t2 : List Int} (ht : Tab w m (i + 1) t2) {x : Nat} (hx : x < 2 ^ m) : ∀ (d k j : Nat) (o : List Int), d + j = m → d < k → o.length = 2 ^ m →
    g t2 x ≤ g o x → (∀ q, q < j → x.testBit q = false → we w i q + g t2 (x ||| 2 ^ q) ≤ g o x) → (g o x = g t2 x ∨ ∃ q, q < j ∧ x.testBit q = false ∧ g o x = we w i q + g t2 (x ||| 2 ^ q)) →
    ∃ o', armillaryref22_Best.l2 w (i : Int) t2 (x : Int) k o (j : Int) = some o' ∧ o'.length = 2 ^ m ∧ (∀ y, y ≠ x → g o' y = g o y) ∧ Opt w m i x.testBit (g o' x) := by
  have hrl := h.rl i hi
  have hp := (bitP m (by omega)).2
  have htl := ht.len
  intro d
  induction d with
  | zero =>
    intro k j o hd hk ho h1 h2 h3
    obtain ⟨k, rfl⟩ : ∃ m, k = m + 1 := ⟨k - 1, by omega⟩
    obtain rfl : j = m := by omega
    have hl : ((w.getD i []).length : Int) = (j : Int) := by show ((row w i).length : Int) = _; omega
    refine ⟨o, ?_, ho, fun y _ => rfl, Opt.max h hi (ht.at_ x hx) (fun q hq hu => ?_) h1 (h3.imp id fun ⟨q, h4, h5, h6⟩ => ⟨q, h4, h5, _, ?_, h6⟩)⟩
    · simp only [armillaryref22_Best.l2, tn]
      rw [if_pos (by omega), if_pos (by omega), if_neg (by omega)]
    · exact ⟨_, by rw [← bitT]; exact ht.at_ _ (bitL hx hq), h2 q hq hu⟩
    · rw [← bitT]; exact ht.at_ _ (bitL hx h4)
  | succ d ih =>
    intro k j o hd hk ho h1 h2 h3
    obtain ⟨k, rfl⟩ : ∃ m, k = m + 1 := ⟨k - 1, by omega⟩
    have hj : j < m := by omega
    have hl : ((w.getD i []).length : Int) = (m : Int) := by show ((row w i).length : Int) = _; omega
    have hlt := bitL hx hj
    simp only [armillaryref22_Best.l2, tn, hl]
    rw [if_pos (by omega), if_pos (by omega), if_pos (by omega), if_pos (by omega), bitA x (by omega) j (by omega), bitO x (by omega) j (by omega)]
    simp only [tn]
    by_cases e : x.testBit j = true
    · simp only [if_pos e]
      rw [if_neg (by decide), Option.bind_some, Wn (by omega)]
      refine ih k (j + 1) o (by omega) (by omega) ho h1 (fun q hq hu => ?_) (h3.imp id fun ⟨q, h4, h5, h6⟩ => ⟨q, by omega, h5, h6⟩)
      by_cases e2 : q = j
      · subst e2; rw [e] at hu; cases hu
      · exact h2 q (by omega) hu
    · have ef : x.testBit j = false := by revert e; cases x.testBit j <;> simp
      simp only [if_neg e]
      have hb := ht.b h (by omega) hlt
      have he := h.eb i j hi hj
      rw [if_pos trivial, if_pos (by omega), if_pos (by omega), if_pos (by omega), if_pos (by omega), if_pos (by omega), if_pos (by omega), if_pos (by omega), if_pos (by omega), if_pos (by omega), if_pos (by omega), if_pos (by omega), Option.bind_some, Wn (by omega)]
      rw [show W .i64 ((w.getD i []).getD j 0 + t2.getD (x ||| 2 ^ j) 0) = we w i j + g t2 (x ||| 2 ^ j) from W64 (by show _ ≤ we w i j + g t2 (x ||| 2 ^ j); omega) (by show we w i j + g t2 (x ||| 2 ^ j) ≤ _; omega)]
      have em : ∀ a c : Int, iMax a c = if c > a then c else a := fun _ _ => rfl
      have hg : ∀ y, g (o.set x (iMax (o.getD x 0) (we w i j + g t2 (x ||| 2 ^ j)))) y = if y = x then iMax (g o x) (we w i j + g t2 (x ||| 2 ^ j)) else g o y := fun y => gset (by omega) _ _
      have hx1 : g (o.set x (iMax (o.getD x 0) (we w i j + g t2 (x ||| 2 ^ j)))) x = iMax (g o x) (we w i j + g t2 (x ||| 2 ^ j)) := by rw [hg, if_pos rfl]
      have hle : g o x ≤ iMax (g o x) (we w i j + g t2 (x ||| 2 ^ j)) ∧ we w i j + g t2 (x ||| 2 ^ j) ≤ iMax (g o x) (we w i j + g t2 (x ||| 2 ^ j)) := by rw [em]; split <;> omega
      obtain ⟨o', e2, h4, h5, h6⟩ := ih k (j + 1) (o.set x (iMax (o.getD x 0) (we w i j + g t2 (x ||| 2 ^ j)))) (by omega) (by omega) (by rw [List.length_set]; exact ho) (by rw [hx1]; omega) (fun q hq hu => by
        rw [hx1]
        by_cases e3 : q = j
        · subst e3; exact hle.2
        · have := h2 q (by omega) hu; omega) (by
        rw [hx1, em]
        by_cases e3 : we w i j + g t2 (x ||| 2 ^ j) > g o x
        · rw [if_pos e3]; exact .inr ⟨j, by omega, ef, rfl⟩
        · rw [if_neg e3]; exact h3.imp id fun ⟨q, h4, h5, h6⟩ => ⟨q, by omega, h5, h6⟩)
      exact ⟨o', e2, h4, fun y hy => by rw [h5 y hy, hg, if_neg hy], h6⟩
theorem best_row (h : Vw w m) (hm6 : m ≤ 6) {i : Nat} (hi : i < w.length) {t2 : List Int} (ht : Tab w m (i + 1) t2) : ∀ (d k x : Nat) (o : List Int), d + x = 2 ^ m → d + 10 ≤ k → o.length = 2 ^ m → (∀ y, x ≤ y → g o y = g t2 y) → (∀ y, y < x → Opt w m i y.testBit (g o y)) →
    ∃ o', armillaryref22_Best.l1 w (i : Int) (m : Int) t2 k o (x : Int) = some o' ∧ Tab w m i o' := by
  have hp := bitP m (by omega)
  intro d
  induction d with
  | zero =>
    intro k x o hd hk ho h1 h2
    obtain ⟨k, rfl⟩ : ∃ m, k = m + 1 := ⟨k - 1, by omega⟩
    refine ⟨o, ?_, ho, fun y hy => h2 y (by omega)⟩
    simp only [armillaryref22_Best.l1, tn]
    rw [hp.1, if_neg (by omega)]
  | succ d ih =>
    intro k x o hd hk ho h1 h2
    obtain ⟨k, rfl⟩ : ∃ m, k = m + 1 := ⟨k - 1, by omega⟩
    obtain ⟨o', e, h3, h4, h5⟩ := best_cell h hm6 hi ht (x := x) (by omega) m k 0 o (by omega) (by omega) ho (by rw [h1 x (Nat.le_refl _)]; exact Int.le_refl _) (fun q hq => by omega) (.inl (h1 x (Nat.le_refl _)))
    simp only [armillaryref22_Best.l1, tn]
    rw [hp.1, if_pos (by omega), show armillaryref22_Best.l2 w (i : Int) t2 (x : Int) k o 0 = some o' from e, Option.bind_some]
    simp only [armillaryref22_Best.k3, Option.bind_some]
    rw [Wn (by omega)]
    refine ih k (x + 1) o' (by omega) (by omega) h3 (fun y hy => by rw [h4 y (by omega)]; exact h1 y (by omega)) (fun y hy => ?_)
    by_cases e2 : y = x
    · subst e2; exact h5
    · rw [h4 y e2]; exact h2 y (by omega)
theorem best_tab (h : Vw w m) (hm6 : m ≤ 6) : ∀ (d k i : Nat), d + i = w.length → d + 100 ≤ k → ∃ b, armillaryref22_Best.f k w (i : Int) = some b ∧ Tab w m i b := by
  have hp := bitP m (by omega)
  have hn12 := h.nr
  intro d
  induction d with
  | zero =>
    intro k i hd hk
    obtain ⟨k, rfl⟩ : ∃ m, k = m + 1 := ⟨k - 1, by omega⟩
    obtain rfl : i = w.length := by omega
    refine ⟨List.replicate (2 ^ m) 0, ?_, by simp, fun x hx => by rw [grep hx]; exact Opt.last⟩
    simp only [armillaryref22_Best.f, armillaryref22_Best.body]
    rw [columnsR h, Option.bind_some, if_pos (by omega), if_pos (by omega), tn, hp.1, if_pos (Int.natCast_nonneg _), if_pos (Int.le_trans (Int.ofNat_le.2 hp.2) (by decide)), tn]
  | succ d ih =>
    intro k i hd hk
    obtain ⟨k, rfl⟩ : ∃ m, k = m + 1 := ⟨k - 1, by omega⟩
    obtain ⟨t2, e, ht⟩ := ih k (i + 1) (by omega) (by omega)
    have htl := ht.len
    obtain ⟨b, e2, hb⟩ := best_row h hm6 (i := i) (by omega) ht (2 ^ m) k 0 t2 (by omega) (by omega) htl (fun y _ => rfl) (fun y hy => by omega)
    refine ⟨b, ?_, hb⟩
    simp only [armillaryref22_Best.f, armillaryref22_Best.body]
    rw [columnsR h, Option.bind_some, if_pos (by omega), if_neg (by omega), Wn (by omega), e, Option.bind_some, if_pos (by simp only [List.length_nil]; omega), show ([] : List Int) ++ t2 = t2 from rfl, show armillaryref22_Best.l1 w (i : Int) (m : Int) t2 k t2 0 = some b from e2]
    rfl
end
end Go.Proofs.Ytdmhbcgmimfjcaa.hun
