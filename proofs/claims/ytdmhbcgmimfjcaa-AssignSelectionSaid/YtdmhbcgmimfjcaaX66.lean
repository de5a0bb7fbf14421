/- Words of the walk, the functions' walks and plain laws, joined; no conditions beyond those that the theorems name. -/
import Derived.Test.YtdmhbcgmimfjcaaX65
import Derived.Test.YtdmhbcgmimfjcaaX62
import Derived.Test.YtdmhbcgmimfjcaaX64
namespace Go.Proofs.Ytdmhbcgmimfjcaa.hun
open Go Go.Proofs.Ytdmhbcgmimfjcaa Go.Proofs.Ytdmhbcgmimfjcaa.RW
set_option linter.unusedVariables false
set_option maxRecDepth 100000
set_option maxHeartbeats 4000000
/-- What a row of a valid matrix is. -/
def Rok (raw : List (List Int)) (i : Nat) : Prop := (row raw i).length = (row raw 0).length ∧ (row raw i).length ≤ 12 ∧ ∀ j, j < (row raw i).length → 0 ≤ we raw i j ∧ we raw i j ≤ 1073741824
def Mok (raw : List (List Int)) : Prop := raw.length ≤ 12 ∧ ∀ i, i < raw.length → Rok raw i
theorem valid1 (x : Int) : ∃ b, assign_Valid_1.f x = some b ∧ (b = false ↔ 0 ≤ x ∧ x ≤ 1073741824) := by
  unfold assign_Valid_1.f
  by_cases h : x < 0
  · exact ⟨true, by simp [h, assign_Valid_1.k1], by simp; omega⟩
  · by_cases h2 : x > 1073741824
    · exact ⟨true, by simp [h, h2, assign_Valid_1.k1], by simp; omega⟩
    · exact ⟨false, by simp [h, h2, assign_Valid_1.k1], by simp; omega⟩
theorem index_ (l : List Int) (hl : l.length ≤ 12) : ∀ (d k n : Nat), d + n = l.length → d < k → ∃ s, slices_IndexFunc_int64_int64s0.l1 l k (n : Int) = some s ∧ ((s = .inl () ∧ ∀ j, n ≤ j → j < l.length → 0 ≤ g l j ∧ g l j ≤ 1073741824) ∨ (∃ q : Nat, s = .inr (q : Int) ∧ ¬ ∀ j, n ≤ j → j < l.length → 0 ≤ g l j ∧ g l j ≤ 1073741824)) := by
  intro d
  induction d with
  | zero =>
    intro k n hd hk
    obtain ⟨k, rfl⟩ : ∃ m, k = m + 1 := ⟨k - 1, by omega⟩
    simp only [slices_IndexFunc_int64_int64s0.l1]
    rw [if_neg (by omega)]
    exact ⟨_, rfl, .inl ⟨rfl, fun j h1 h2 => by omega⟩⟩
  | succ d ih =>
    intro k n hd hk
    obtain ⟨k, rfl⟩ : ∃ m, k = m + 1 := ⟨k - 1, by omega⟩
    simp only [slices_IndexFunc_int64_int64s0.l1, tn]
    rw [if_pos (by omega), if_pos (by omega), if_pos (by omega)]
    obtain ⟨b, e, hb⟩ := valid1 (l.getD n 0)
    rw [e, Option.bind_some, Wn (by omega)]
    cases b with
    | true =>
      rw [if_pos rfl]
      refine ⟨_, rfl, .inr ⟨n, rfl, fun h => ?_⟩⟩
      have := hb.2 (h n (Nat.le_refl _) (by omega))
      cases this
    | false =>
      rw [if_neg (by decide)]
      have hn := hb.1 rfl
      obtain ⟨s, e2, h⟩ := ih k (n + 1) (by omega) (by omega)
      refine ⟨s, e2, h.imp (fun h => ⟨h.1, fun j h1 h2 => ?_⟩) (fun ⟨q, h1, h2⟩ => ⟨q, h1, fun h3 => h2 fun j h4 h5 => h3 j (by omega) h5⟩)⟩
      by_cases e3 : j = n
      · subst e3; exact hn
      · exact h.2 j (by omega) h2
theorem contains_ (l : List Int) (hl : l.length ≤ 12) {k : Nat} (hk : 13 ≤ k) : ∃ b, slices_ContainsFunc_int64_int64s0.f k l = some b ∧ (b = false ↔ ∀ j, j < l.length → 0 ≤ g l j ∧ g l j ≤ 1073741824) := by
  obtain ⟨s, e, h⟩ := index_ l hl l.length k 0 (by omega) (by omega)
  unfold slices_ContainsFunc_int64_int64s0.f slices_IndexFunc_int64_int64s0.f
  rw [show slices_IndexFunc_int64_int64s0.l1 l k 0 = some s from e, Option.bind_some]
  rcases h with ⟨rfl, h⟩ | ⟨q, rfl, h⟩
  · simp only [slices_IndexFunc_int64_int64s0.k1, Option.bind_some]
    exact ⟨_, rfl, fun _ j hj => h j (by omega) hj, fun _ => by decide⟩
  · simp only [slices_IndexFunc_int64_int64s0.k1, Option.bind_some]
    refine ⟨_, rfl, fun h1 => ?_, fun h1 => absurd (fun j _ hj => h1 j hj) h⟩
    have := of_decide_eq_false h1
    omega
theorem vrows (raw : List (List Int)) (hl : raw.length ≤ 12) : ∀ (d k n : Nat), d + n = raw.length → d + 20 ≤ k → ∃ s, assign_Valid.l1 raw k (n : Int) = some s ∧ ((s = .inl () ∧ ∀ i, n ≤ i → i < raw.length → Rok raw i) ∨ (s = .inr false ∧ ¬ ∀ i, n ≤ i → i < raw.length → Rok raw i)) := by
  intro d
  induction d with
  | zero =>
    intro k n hd hk
    obtain ⟨k, rfl⟩ : ∃ m, k = m + 1 := ⟨k - 1, by omega⟩
    simp only [assign_Valid.l1]
    rw [if_neg (by omega)]
    exact ⟨_, rfl, .inl ⟨rfl, fun j h1 h2 => by omega⟩⟩
  | succ d ih =>
    intro k n hd hk
    obtain ⟨k, rfl⟩ : ∃ m, k = m + 1 := ⟨k - 1, by omega⟩
    have bad : ¬ Rok raw n → ∃ s, some (Sum.inr false : Unit ⊕ Bool) = some s ∧ ((s = .inl () ∧ ∀ i, n ≤ i → i < raw.length → Rok raw i) ∨ (s = .inr false ∧ ¬ ∀ i, n ≤ i → i < raw.length → Rok raw i)) := fun h => ⟨_, rfl, .inr ⟨rfl, fun h2 => h (h2 n (Nat.le_refl _) (by omega))⟩⟩
    simp only [assign_Valid.l1, tn]
    rw [if_pos (by omega), if_pos (by omega), if_pos (by omega), if_pos (by omega)]
    by_cases h1 : ((raw.getD n []).length : Int) ≠ ((raw.getD (0 : Int).toNat []).length : Int)
    · rw [if_pos h1]
      exact bad fun h => h1 (by rw [show (raw.getD n []).length = _ from h.1]; rfl)
    · rw [if_neg h1]
      by_cases h2 : ((raw.getD n []).length : Int) > 12
      · rw [if_pos h2]
        exact bad fun h => by have : (raw.getD n []).length ≤ 12 := h.2.1; omega
      · rw [if_neg h2]
        obtain ⟨b, e, hb⟩ := contains_ (raw.getD n []) (by omega) (k := k) (by omega)
        rw [e]
        simp only [Option.bind_some]
        cases b with
        | true =>
          rw [if_pos rfl]
          exact bad fun h => by have := hb.2 h.2.2; cases this
        | false =>
          rw [if_neg (by decide), Wn (by omega)]
          have hn : Rok raw n := ⟨by have := Decidable.not_not.1 h1; show (raw.getD n []).length = (raw.getD (0 : Int).toNat []).length; omega, by show (raw.getD n []).length ≤ 12; omega, hb.1 rfl⟩
          obtain ⟨s, e2, h⟩ := ih k (n + 1) (by omega) (by omega)
          refine ⟨s, e2, h.imp (fun h => ⟨h.1, fun i h3 h4 => ?_⟩) (fun ⟨h3, h4⟩ => ⟨h3, fun h5 => h4 fun i h6 h7 => h5 i (by omega) h7⟩)⟩
          by_cases e3 : i = n
          · subst e3; exact hn
          · exact h.2 i (by omega) h4
theorem valid_spec (raw : List (List Int)) {k : Nat} (hk : 40 ≤ k) : ∃ b, assign_Valid.f k raw = some b ∧ (b = true ↔ Mok raw) := by
  unfold assign_Valid.f
  by_cases h : (raw.length : Int) > 12
  · rw [if_pos h]
    exact ⟨_, rfl, ⟨fun h2 => (nomatch h2), fun h2 => by have := h2.1; omega⟩⟩
  · rw [if_neg h]
    obtain ⟨s, e, h1⟩ := vrows raw (by omega) raw.length k 0 (by omega) (by omega)
    rw [show assign_Valid.l1 raw k 0 = some s from e, Option.bind_some]
    rcases h1 with ⟨rfl, h1⟩ | ⟨rfl, h1⟩
    · exact ⟨_, rfl, ⟨fun _ => ⟨by omega, fun i hi => h1 i (by omega) hi⟩, fun _ => rfl⟩⟩
    · exact ⟨_, rfl, ⟨fun h2 => (nomatch h2), fun h2 => absurd (fun i _ hi => h2.2 i hi) h1⟩⟩
theorem Vw.ok {w : List (List Int)} {m : Nat} (h : Vw w m) : Mok w := by
  refine ⟨h.nr, fun i hi => ⟨?_, ?_, fun j hj => ?_⟩⟩
  · rw [h.rl i hi, h.rl 0 (by omega)]
  · rw [h.rl i hi]; exact h.mr
  · rw [h.rl i hi] at hj; exact h.eb i j hi hj
theorem same (a : List Int) (ha : a.length ≤ 100) {k : Nat} (hk : 102 ≤ k) : armillaryref22_Same.f k a a = some true := by
  have key : ∀ (d k n : Nat), d + n = a.length → d < k → armillaryref22_Same.l1 a a k (n : Int) = some (.inl ()) := by
    intro d
    induction d with
    | zero =>
      intro k n hd hk
      obtain ⟨k, rfl⟩ : ∃ m, k = m + 1 := ⟨k - 1, by omega⟩
      simp only [armillaryref22_Same.l1]
      rw [if_neg (by omega)]
    | succ d ih =>
      intro k n hd hk
      obtain ⟨k, rfl⟩ : ∃ m, k = m + 1 := ⟨k - 1, by omega⟩
      simp only [armillaryref22_Same.l1]
      rw [if_pos (by omega), if_pos (by omega), if_pos (by omega), if_pos (by omega), if_pos (by omega), if_neg (fun h => h rfl), Wn (by omega)]
      exact ih k (n + 1) (by omega) (by omega)
  unfold armillaryref22_Same.f
  rw [if_neg (fun h => h rfl), show armillaryref22_Same.l1 a a k 0 = _ from key a.length k 0 (by omega) (by omega)]
  rfl
theorem ext_g {a b : List Int} (hl : a.length = b.length) (h : ∀ i, i < a.length → g a i = g b i) : a = b := by
  refine List.ext_getElem hl (fun i h1 h2 => ?_)
  have := h i h1
  unfold g at this
  rwa [List.getD_eq_getElem?_getD, List.getD_eq_getElem?_getD, List.getElem?_eq_getElem h1, List.getElem?_eq_getElem h2] at this
/-- Equal sums of numbers that are no greater one by one. -/
theorem sm_eq {f h : Nat → Int} : ∀ n, (∀ j, j < n → f j ≤ h j) → sm h n ≤ sm f n → ∀ j, j < n → f j = h j
  | n + 1, h1, h2, j, hj => by
    have h3 := sm_le n (fun j hj => h1 j (by omega))
    have h4 := h1 n (by omega)
    simp only [sm] at h2
    by_cases e : j = n
    · subst e; omega
    · exact sm_eq n (fun j hj => h1 j (by omega)) (by omega) j (by omega)
end Go.Proofs.Ytdmhbcgmimfjcaa.hun
namespace Go.Proofs.Ytdmhbcgmimfjcaa
open Go Go.Proofs.Ytdmhbcgmimfjcaa.RW
set_option linter.unusedVariables false
set_option maxRecDepth 100000
set_option maxHeartbeats 8000000

/-! ### armillaryref22_Best: function 24, armillary/armillaryref22.Best -/
noncomputable def K24_0 : Code := cBody Try.f24
noncomputable def O24_55 : List Oper := cOps (cL (cR (cL (cL (cR (cL (cL (cR (cL (cL (cR (cL (cL (cR (cL (cR (cR (cR (cR (cR K24_0))))))))))))))))))))
def armillaryref22_Best.k1  (x1 : List Int) : Option (List Int) := (some x1)
def armillaryref22_Best.k3  (x5 : List Int) : Option (List Int) := (some x5)
def armillaryref22_Best.l2 (a0 : List (List Int)) (a1 : Int) (t2 : List Int) (x3 : Int) : Nat → (List Int) → Int → Option (List Int)
 | 0, _, _ => none
 | k + 1, x6, x7 => (if 0 ≤ a1 then (if a1 < (a0.length : Int) then (if x7 < ((a0.getD (a1).toNat []).length : Int) then (if 0 ≤ x7 then ((if (bAnd .i64 (Int.fdiv x3 (2 ^ (min (x7).toNat 64))) 1) = 0 then (if 0 ≤ x3 then (if x3 < (x6.length : Int) then (if 0 ≤ a1 then (if a1 < (a0.length : Int) then (if 0 ≤ x7 then (if x7 < ((a0.getD (a1).toNat []).length : Int) then (if 0 ≤ x7 then (if 0 ≤ (bOr .i64 x3 (W .i64 (1 * 2 ^ (min (x7).toNat 64)))) then (if (bOr .i64 x3 (W .i64 (1 * 2 ^ (min (x7).toNat 64)))) < (t2.length : Int) then (if 0 ≤ x3 then (if x3 < (x6.length : Int) then (some (x6.set (x3).toNat (iMax (x6.getD (x3).toNat 0) (W .i64 (((a0.getD (a1).toNat []).getD (x7).toNat 0) + (t2.getD (bOr .i64 x3 (W .i64 (1 * 2 ^ (min (x7).toNat 64)))).toNat 0)))))) else none) else none) else none) else none) else none) else none) else none) else none) else none) else none) else none) else (some x6)).bind (fun x8 => (armillaryref22_Best.l2 a0 a1 t2 x3 k x8 (W .i64 (x7 + 1))))) else none) else (some x6)) else none) else none)
def armillaryref22_Best.l1 (a0 : List (List Int)) (a1 : Int) (t1 : Int) (t2 : List Int) : Nat → (List Int) → Int → Option (List Int)
 | 0, _, _ => none
 | k + 1, x2, x3 => (if x3 < (W .i64 (1 * 2 ^ (min (t1).toNat 64))) then (((armillaryref22_Best.l2 a0 a1 t2 x3 k x2 0).bind (armillaryref22_Best.k3)).bind (fun x4 => (armillaryref22_Best.l1 a0 a1 t1 t2 k x4 (W .i64 (x3 + 1))))) else (some x2))
def armillaryref22_Best.body (k : Nat) (rec_ : (List (List Int)) → Int → Option (List Int)) (a0 : List (List Int)) (a1 : Int) : Option (List Int) := ((armillaryref22_Columns.f a0).bind fun t1 => (if 0 ≤ t1 then (if a1 ≥ (a0.length : Int) then (if 0 ≤ (W .i64 (1 * 2 ^ (min (t1).toNat 64))) then (if (W .i64 (1 * 2 ^ (min (t1).toNat 64))) ≤ 35184372088832 then (some (List.replicate (W .i64 (1 * 2 ^ (min (t1).toNat 64))).toNat (0 : Int))) else none) else none) else ((rec_ a0 (W .i64 (a1 + 1))).bind fun t2 => (if (([] : List Int).length + t2.length) * 8 ≤ 140737488355328 then ((armillaryref22_Best.l1 a0 a1 t1 t2 k (([] : List Int) ++ t2) 0).bind (armillaryref22_Best.k1)) else none))) else none))
def armillaryref22_Best.f : Nat → (List (List Int)) → Int → Option (List Int)
 | 0, _, _ => none
 | k + 1, a0, a1 => armillaryref22_Best.body k (armillaryref22_Best.f k) a0 a1
def armillaryref22_Best.Post (I : Imm) (w : World) (r : List Int) (v : Value) (w' : World) : Prop :=
 ∃ (J : Imm) (A0 : Option Addr) (c0 : Nat) (cs0 : List Value), v = .slice A0 r.length c0 ∧ Got w w' I J [orow 2 1 A0 r.length c0 cs0] ∧ Reps (Ty.int .i64) J r cs0
noncomputable def a24_55n : List Nat := [0, 0, 0, 0, 12, 28, 0, 0, 192, 448, 0, 1984, 4032, 0, 0, 0, 32768, 114688, 253952, 516096, 1048512, 2097148, 4194303, 8388607]
theorem a24_55 : ancs O24_55 [] = a24_55n := by kernel_rfl
theorem a24_55o : drawOk O24_55 a24_55n 22 = true := by kernel_rfl
noncomputable def u24d1l  : List Ld :=
 []
noncomputable def u24d1g (a1 : Int) (x3 : Int) (x7 : Int) (g2_ : Nat) (g3_ : Nat) (o3_ : Nat) (g4_ : Nat) (o4_ : Nat) (g5_ : Nat) (o5_ : Nat) : List (Nat × ((Nat → Wt) → Value)) := [(4, fun u => pt g2_ (0 + (x3).toNat * 1)), (8, fun u => pt g3_ (o3_ + (a1).toNat * 1)), (11, fun u => pt g4_ (o4_ + (x7).toNat * 1)), (16, fun u => i6 (W .i64 (1 * 2 ^ (min (x7).toNat 64)))), (18, fun u => pt g5_ (o5_ + (bOr .i64 x3 (W .i64 (1 * 2 ^ (min (x7).toNat 64)))).toNat * 1))]
noncomputable def u24d1q (a0 : List (List Int)) (Ap0 : Option Addr) (cp0 : Nat) (a1 : Int) (t1 : Int) (t2 : List Int) (A1 : Option Addr) (c1 : Nat) (x3 : Int) (x6 : List Int) (A7 : Option Addr) (c7 : Nat) (x7 : Int) (g2_ : Nat) (A3_ : Option Addr) (c3_ : Nat) (g3_ : Nat) (o3_ : Nat) (g4_ : Nat) (o4_ : Nat) (g5_ : Nat) (o5_ : Nat) (u : Nat → Wt) : Option (List Value × List (Nat × Value) × List (Nat × Nat)) := qSim Try.prog [(⟨g2_, 0 + (x3).toNat * 1, none⟩, i6 (x6.getD (x3).toNat 0)), (⟨g3_, o3_ + (a1).toNat * 1, none⟩, .slice A3_ ((a0.getD (a1).toNat []).length) c3_), (⟨g4_, o4_ + (x7).toNat * 1, none⟩, i6 ((a0.getD (a1).toNat []).getD (x7).toNat 0)), (⟨g5_, o5_ + (bOr .i64 x3 (W .i64 (1 * 2 ^ (min (x7).toNat 64)))).toNat * 1, none⟩, i6 (t2.getD (bOr .i64 x3 (W .i64 (1 * 2 ^ (min (x7).toNat 64)))).toNat 0))] [] O24_55 ⟨69, []⟩ (Ld.vl u24d1l) (u24d1g a1 x3 x7 g2_ g3_ o3_ g4_ o4_ g5_ o5_) u [.no, .no, .no, .no, .no, .r 0, .no, .no, .no, .r 1, .no, .no, .r 2, .no, .no, .no, .no, .no, .no, .r 3, .no, .no] 0 (O24_55.take 22) [(44, .bool ((bAnd .i64 (Int.fdiv x3 (2 ^ (min (x7).toNat 64))) 1) == 0)), (0, .slice Ap0 a0.length cp0), (1, i6 a1), (5, i6 (W .i64 (1 * 2 ^ (min (t1).toNat 64)))), (6, .slice A1 t2.length c1), (7, .slice A7 x6.length c7), (8, i6 x3), (9, i6 x7)]
noncomputable def u24d1s (a0 : List (List Int)) (Ap0 : Option Addr) (cp0 : Nat) (a1 : Int) (t2 : List Int) (A1 : Option Addr) (c1 : Nat) (x3 : Int) (x6 : List Int) (A7 : Option Addr) (c7 : Nat) (x7 : Int) (g2_ : Nat) (A3_ : Option Addr) (c3_ : Nat) (g3_ : Nat) (o3_ : Nat) (g4_ : Nat) (o4_ : Nat) (g5_ : Nat) (o5_ : Nat) (u : Nat → Wt) : List Value := [.slice A7 x6.length c7, i6 x3, .slice A7 x6.length c7, i6 x3, pt g2_ (0 + (x3).toNat * 1), i6 (x6.getD (x3).toNat 0), .slice Ap0 a0.length cp0, i6 a1, pt g3_ (o3_ + (a1).toNat * 1), .slice A3_ ((a0.getD (a1).toNat []).length) c3_, i6 x7, pt g4_ (o4_ + (x7).toNat * 1), i6 ((a0.getD (a1).toNat []).getD (x7).toNat 0), .slice A1 t2.length c1, i6 x3, i6 x7, i6 (W .i64 (1 * 2 ^ (min (x7).toNat 64))), i6 (bOr .i64 x3 (W .i64 (1 * 2 ^ (min (x7).toNat 64)))), pt g5_ (o5_ + (bOr .i64 x3 (W .i64 (1 * 2 ^ (min (x7).toNat 64)))).toNat * 1), i6 (t2.getD (bOr .i64 x3 (W .i64 (1 * 2 ^ (min (x7).toNat 64)))).toNat 0), i6 (W .i64 (((a0.getD (a1).toNat []).getD (x7).toNat 0) + (t2.getD (bOr .i64 x3 (W .i64 (1 * 2 ^ (min (x7).toNat 64)))).toNat 0))), i6 (iMax (x6.getD (x3).toNat 0) (W .i64 (((a0.getD (a1).toNat []).getD (x7).toNat 0) + (t2.getD (bOr .i64 x3 (W .i64 (1 * 2 ^ (min (x7).toNat 64)))).toNat 0))))]
noncomputable def u24d1f (a0 : List (List Int)) (Ap0 : Option Addr) (cp0 : Nat) (a1 : Int) (t1 : Int) (t2 : List Int) (A1 : Option Addr) (c1 : Nat) (x3 : Int) (x6 : List Int) (A7 : Option Addr) (c7 : Nat) (x7 : Int) (g2_ : Nat) (A3_ : Option Addr) (c3_ : Nat) (g3_ : Nat) (o3_ : Nat) (g4_ : Nat) (o4_ : Nat) (g5_ : Nat) (o5_ : Nat) (i : Nat) (u : Nat → Wt) : List (Nat × Value) := foldPut ⟨69, []⟩ [(44, .bool ((bAnd .i64 (Int.fdiv x3 (2 ^ (min (x7).toNat 64))) 1) == 0)), (0, .slice Ap0 a0.length cp0), (1, i6 a1), (5, i6 (W .i64 (1 * 2 ^ (min (t1).toNat 64)))), (6, .slice A1 t2.length c1), (7, .slice A7 x6.length c7), (8, i6 x3), (9, i6 x7)] (O24_55.take i) (((u24d1s a0 Ap0 cp0 a1 t2 A1 c1 x3 x6 A7 c7 x7 g2_ A3_ c3_ g3_ o3_ g4_ o4_ g5_ o5_) u).take i)
theorem u24d1v (a0 : List (List Int)) (Ap0 : Option Addr) (cp0 : Nat) (a1 : Int) (t1 : Int) (t2 : List Int) (A1 : Option Addr) (c1 : Nat) (x3 : Int) (x6 : List Int) (A7 : Option Addr) (c7 : Nat) (x7 : Int) (g2_ : Nat) (A3_ : Option Addr) (c3_ : Nat) (g3_ : Nat) (o3_ : Nat) (g4_ : Nat) (o4_ : Nat) (g5_ : Nat) (o5_ : Nat) (u : Nat → Wt) : (u24d1q a0 Ap0 cp0 a1 t1 t2 A1 c1 x3 x6 A7 c7 x7 g2_ A3_ c3_ g3_ o3_ g4_ o4_ g5_ o5_ u).map (fun x => (x.1, x.2.1)) = some ((u24d1s a0 Ap0 cp0 a1 t2 A1 c1 x3 x6 A7 c7 x7 g2_ A3_ c3_ g3_ o3_ g4_ o4_ g5_ o5_) u, (u24d1f a0 Ap0 cp0 a1 t1 t2 A1 c1 x3 x6 A7 c7 x7 g2_ A3_ c3_ g3_ o3_ g4_ o4_ g5_ o5_ 22) u) := by kernel_rfl
theorem u24d1e (a0 : List (List Int)) (Ap0 : Option Addr) (cp0 : Nat) (a1 : Int) (t1 : Int) (t2 : List Int) (A1 : Option Addr) (c1 : Nat) (x3 : Int) (x6 : List Int) (A7 : Option Addr) (c7 : Nat) (x7 : Int) (g2_ : Nat) (A3_ : Option Addr) (c3_ : Nat) (g3_ : Nat) (o3_ : Nat) (g4_ : Nat) (o4_ : Nat) (g5_ : Nat) (o5_ : Nat) (u : Nat → Wt) : (u24d1q a0 Ap0 cp0 a1 t1 t2 A1 c1 x3 x6 A7 c7 x7 g2_ A3_ c3_ g3_ o3_ g4_ o4_ g5_ o5_ u).map (fun x => x.2.2.map (·.1)) = (u24d1q a0 Ap0 cp0 a1 t1 t2 A1 c1 x3 x6 A7 c7 x7 g2_ A3_ c3_ g3_ o3_ g4_ o4_ g5_ o5_ u).map (fun x => x.2.2.map (·.2)) := by kernel_rfl
theorem armillaryref22_Best.bodyCalls (k : Nat) (rec_ : (List (List Int)) → Int → Option (List Int)) (hrec : ∀ (I0 : Imm) (a0 : List (List Int)) (Ap0 : Option Addr) (cp0 : Nat) (a1 : Int) (w : World) (hI : I0.at_ w) (hlp0 : a0.length ≤ cp0) (hrp0 : Rd (Ty.slice (Ty.int .i64)) I0 Ap0 a0) (r : List Int) (h : rec_ a0 a1 = some r), Calls Try.prog 24 [.slice Ap0 a0.length cp0, i6 a1].toArray w fun e w' => ∃ v, e = .returned v ∧ armillaryref22_Best.Post I0 w r v w') (I0 : Imm) (a0 : List (List Int)) (Ap0 : Option Addr) (cp0 : Nat) (a1 : Int) (w : World) (hI : I0.at_ w) (hlp0 : a0.length ≤ cp0) (hrp0 : Rd (Ty.slice (Ty.int .i64)) I0 Ap0 a0) (r : List Int) (h : armillaryref22_Best.body k rec_ a0 a1 = some r) : Calls Try.prog 24 [.slice Ap0 a0.length cp0, i6 a1].toArray w fun e w' => ∃ v, e = .returned v ∧ armillaryref22_Best.Post I0 w r v w' := by
 have H : ((armillaryref22_Columns.f a0).bind fun t1 => (if 0 ≤ t1 then (if a1 ≥ (a0.length : Int) then (if 0 ≤ (W .i64 (1 * 2 ^ (min (t1).toNat 64))) then (if (W .i64 (1 * 2 ^ (min (t1).toNat 64))) ≤ 35184372088832 then (some (List.replicate (W .i64 (1 * 2 ^ (min (t1).toNat 64))).toNat (0 : Int))) else none) else none) else ((rec_ a0 (W .i64 (a1 + 1))).bind fun t2 => (if (([] : List Int).length + t2.length) * 8 ≤ 140737488355328 then ((armillaryref22_Best.l1 a0 a1 t1 t2 k (([] : List Int) ++ t2) 0).bind (armillaryref22_Best.k1)) else none))) else none)) = some r := h
 clear h
 refine calls_body Try.func24 (by kernel_rfl) 69 (by kernel_rfl) (by kernel_rfl) ⟨w, fun _ => False, I0⟩ I0 [] [(0, .slice Ap0 a0.length cp0), (1, i6 a1)] (by kernel_rfl) (Sat.start w _ I0 hI) ?_
 generalize w.heap.size = nx0
 show OK _ K24_0 _ _ _ _ _ _ _ _
 refine OK.sr ?_
 refine RL.st 1 [(0, .slice Ap0 a0.length cp0), (1, i6 a1)] ?_
 refine OK.sr ?_
 refine RL.s 1 [(10, .slice Ap0 a0.length cp0), (0, .slice Ap0 a0.length cp0), (1, i6 a1)] ?_
 obtain ⟨t1, hA1, H⟩ := bnd H
 refine RL.callP 21 [.slice Ap0 a0.length cp0] (some 11) (fun w => armillaryref22_Columns.Post I0 w t1) (by kernel_rfl) (by kernel_rfl) (fun w hs => armillaryref22_Columns.calls I0 a0 Ap0 cp0 w hs.im hlp0 hrp0 t1 hA1) ?_
 rintro w v w' hs ⟨I1, rfl, hg⟩
 have hi1 := hg.le
 refine RL.resume (X' := []) rfl (hs.call hg) ?_
 clear hs hg
 generalize w'.heap.size = nx1
 clear w w'
 obtain ⟨hc, H⟩ := ifs H
 refine RL.shl .i64 .i64 1 t1 (some 12) (by kernel_rfl) (by kernel_rfl) hc (K' := [(12, i6 (W .i64 (1 * 2 ^ (min (t1).toNat 64)))), (11, i6 t1), (10, .slice Ap0 a0.length cp0), (0, .slice Ap0 a0.length cp0), (1, i6 a1)]) (by kernel_rfl) ?_
 refine RL.st 1 [(5, i6 (W .i64 (1 * 2 ^ (min (t1).toNat 64)))), (0, .slice Ap0 a0.length cp0), (1, i6 a1)] ?_
 refine OK.sq ?_
 refine OK.sr ?_
 refine RL.st 4 [(16, .bool (decide (a1 ≥ (a0.length : Int)))), (5, i6 (W .i64 (1 * 2 ^ (min (t1).toNat 64)))), (0, .slice Ap0 a0.length cp0), (1, i6 a1)] ?_
 refine OK.cd (decide (a1 ≥ (a0.length : Int))) (fun hb => ?_) (fun hb => ?_)
 ·skip
  have hc := (of_decide_eq_true hb)
  rw [if_pos hc] at H
  clear hb
  refine OK.sr ?_
  refine RL.s 1 [(17, i6 (W .i64 (1 * 2 ^ (min (t1).toNat 64))))] ?_
  obtain ⟨hm1, H⟩ := ifs H
  obtain ⟨hm2, H⟩ := ifs H
  refine RL.makeL (T := 24) (e := 2) (W .i64 (1 * 2 ^ (min (t1).toNat 64))) .i64 .i64 (some 18) (i6 0) (0) (Ty.int .i64) 8 (by kernel_rfl) (by kernel_rfl) (by kernel_rfl) (by kernel_rfl) (by kernel_rfl) rfl hm1 (by omega) (by omega) (fun nx2 hp1 => ?_)
  refine RL.norm (K' := [(18, .slice (some ⟨nx1, 0, none⟩) ((List.replicate (W .i64 (1 * 2 ^ (min (t1).toNat 64))).toNat (0 : Int)).length) ((List.replicate (W .i64 (1 * 2 ^ (min (t1).toNat 64))).toNat (0 : Int)).length)), (17, i6 (W .i64 (1 * 2 ^ (min (t1).toNat 64))))]) (X' := [orow 2 1 (some ⟨nx1, 0, none⟩) ((List.replicate (W .i64 (1 * 2 ^ (min (t1).toNat 64))).toNat (0 : Int)).length) ((List.replicate (W .i64 (1 * 2 ^ (min (t1).toNat 64))).toNat (0 : Int)).length) (List.replicate (W .i64 (1 * 2 ^ (min (t1).toNat 64))).toNat (i6 0))]) (by kernel_rfl) rfl rfl (by kernel_rfl) ?_
  refine RL.st 1 [(4, .slice (some ⟨nx1, 0, none⟩) ((List.replicate (W .i64 (1 * 2 ^ (min (t1).toNat 64))).toNat (0 : Int)).length) ((List.replicate (W .i64 (1 * 2 ^ (min (t1).toNat 64))).toNat (0 : Int)).length))] ?_
  refine OK.re ?_
  refine QN.thenR ?_
  obtain rfl := Option.some.inj H
  refine QN.body rfl [] (RFacts.nil _ _ _) (.no) (.slice (some ⟨nx1, 0, none⟩) ((List.replicate (W .i64 (1 * 2 ^ (min (t1).toNat 64))).toNat (0 : Int)).length) ((List.replicate (W .i64 (1 * 2 ^ (min (t1).toNat 64))).toNat (0 : Int)).length)) (by kernel_rfl) (by kernel_rfl) (by kernel_rfl) ?_ _ (.inr rfl)
  exact fun w' hs' => ⟨_, rfl, I1, (some ⟨nx1, 0, none⟩), (List.replicate (W .i64 (1 * 2 ^ (min (t1).toNat 64))).toNat (0 : Int)).length, (List.replicate (W .i64 (1 * 2 ^ (min (t1).toNat 64))).toNat (i6 0)), rfl, hs'.got _ (.cons_cons _ .slnil), hp1⟩
 ·skip
  have hc := (of_decide_eq_false hb)
  rw [if_neg hc] at H
  clear hb
  refine OK.skt ?_
  refine OK.sr ?_
  refine RL.s 3 [(21, i6 (W .i64 (a1 + 1))), (19, .slice Ap0 a0.length cp0), (5, i6 (W .i64 (1 * 2 ^ (min (t1).toNat 64)))), (0, .slice Ap0 a0.length cp0), (1, i6 a1)] ?_
  obtain ⟨t2, hA2, H⟩ := bnd H
  refine RL.callP 24 [.slice Ap0 a0.length cp0, i6 (W .i64 (a1 + 1))] (some 22) (fun w => armillaryref22_Best.Post I1 w t2) (by kernel_rfl) (by kernel_rfl) (fun w hs => hrec I1 a0 Ap0 cp0 (W .i64 (a1 + 1)) w hs.im hlp0 (Rd.ext hi1 hrp0) t2 hA2) ?_
  rintro w v w' hs ⟨I2, A1, c1, cs1, rfl, hg, hp2⟩
  have hi2 := hg.le
  refine RL.resume (X' := [orow 2 1 A1 t2.length c1 cs1]) rfl (hs.call hg) ?_
  clear hs hg
  generalize w'.heap.size = nx3
  clear w w'
  refine RL.st 1 [(6, .slice A1 t2.length c1), (5, i6 (W .i64 (1 * 2 ^ (min (t1).toNat 64)))), (0, .slice Ap0 a0.length cp0), (1, i6 a1)] ?_
  refine OK.sr ?_
  refine RL.sp 2 [(24, .slice A1 t2.length c1), (23, .slice (some ⟨nx3, 0, none⟩) 0 0), (6, .slice A1 t2.length c1), (5, i6 (W .i64 (1 * 2 ^ (min (t1).toNat 64)))), (0, .slice Ap0 a0.length cp0), (1, i6 a1)] (nx3 + 1) [⟨nx3, [], 2⟩] ?_
  refine RL.freeze (e := 2) (sz := 1) (S := A1) (n := t2.length) (cap := c1) 0 (by kernel_rfl) hp2 rfl (fun I3 hi3 hl1 hr1 => ?_)
  skip
  refine RL.toRow (b := ⟨nx3, [], 2⟩) 0 0 1 (by kernel_rfl) (by kernel_rfl) (by decide) ?_
  have hp3 : Reps (Ty.int .i64) I3 ([] : List Int) [] := rfl
  refine RL.norm (L' := []) (X' := [orow 2 1 (some ⟨nx3, 0, none⟩) (([] : List Int).length) 0 []]) rfl rfl (by kernel_rfl) (by kernel_rfl) ?_
  obtain ⟨hz1, H⟩ := ifs H
  refine RL.appendR (T := 24) (e := 2) (S := (some ⟨nx3, 0, none⟩)) (S2 := A1) 1 8 24 0 c1 [] (Ty.int .i64) ([] : List Int) t2 0 (some 25) (by kernel_rfl) (by kernel_rfl) (by kernel_rfl) (by kernel_rfl) (by kernel_rfl) (by decide) (by kernel_rfl) hp3 hr1 hz1 (by omega) (fun A2 c2 nx4 cs2 hp4 => ?_)
  refine RL.sub (K' := [(25, .slice A2 ((([] : List Int) ++ t2).length) c2), (24, .slice A1 t2.length c1), (23, .slice (some ⟨nx3, 0, none⟩) 0 0), (6, .slice A1 t2.length c1), (5, i6 (W .i64 (1 * 2 ^ (min (t1).toNat 64)))), (0, .slice Ap0 a0.length cp0), (1, i6 a1)]) (L' := []) (X' := [orow 2 1 A2 ((([] : List Int) ++ t2).length) c2 cs2]) (by kernel_rfl) (.refl _) (.refl _) ?_
  refine RL.st 1 [(7, .slice A2 ((([] : List Int) ++ t2).length) c2), (6, .slice A1 t2.length c1), (5, i6 (W .i64 (1 * 2 ^ (min (t1).toNat 64)))), (0, .slice Ap0 a0.length cp0), (1, i6 a1)] ?_
  refine OK.sq ?_
  refine OK.sr ?_
  refine RL.st 1 [(8, i6 0), (7, .slice A2 ((([] : List Int) ++ t2).length) c2), (6, .slice A1 t2.length c1), (5, i6 (W .i64 (1 * 2 ^ (min (t1).toNat 64)))), (0, .slice Ap0 a0.length cp0), (1, i6 a1)] ?_
  refine OK.join (fun K' I' _ L' X' => ∃ (x1 : List Int) (A3 : Option Addr) (c3 : Nat) (cs3 : List Value), K' = [(7, .slice A3 x1.length c3)] ∧ L' = [] ∧ X' = [orow 2 1 A3 x1.length c3 cs3] ∧ Imm.le I3 I' ∧ Reps (Ty.int .i64) I' x1 cs3 ∧ armillaryref22_Best.k1 x1 = some r) ?_ ?_
  ·rintro _ I4 nx5 _ _ ⟨x1, A3, c3, cs3, rfl, rfl, rfl, hi4, hp5, H⟩
   rw [armillaryref22_Best.k1] at H
   refine QN.then_ ?_
   refine OK.sr ?_
   refine RL.st 2 [(4, .slice A3 x1.length c3)] ?_
   refine OK.re ?_
   obtain rfl := Option.some.inj H
   refine QN.body rfl [] (RFacts.nil _ _ _) (.no) (.slice A3 x1.length c3) (by kernel_rfl) (by kernel_rfl) (by kernel_rfl) ?_ _ (.inr rfl)
   exact fun w' hs' => ⟨_, rfl, I4, A3, c3, cs3, rfl, hs'.got _ (.cons_cons _ .slnil), hp5⟩
  ·intro Q_1 hJ1 hQ1
   obtain ⟨y1, H, HK1⟩ := bnd H
   refine OK.bk 0 ?_
   refine OK.sub (K' := [(0, .slice Ap0 a0.length cp0), (1, i6 a1), (5, i6 (W .i64 (1 * 2 ^ (min (t1).toNat 64)))), (6, .slice A1 t2.length c1), (7, .slice A2 ((([] : List Int) ++ t2).length) c2), (8, i6 0)]) (L' := []) (by kernel_rfl) .slnil (.refl _) ?_
   refine OK.lp (fun n_ K' I' _ L' X' => ∃ (x2 : List Int) (x3 : Int) (A4 : Option Addr) (c4 : Nat) (cs4 : List Value), K' = [(0, .slice Ap0 a0.length cp0), (1, i6 a1), (5, i6 (W .i64 (1 * 2 ^ (min (t1).toNat 64)))), (6, .slice A1 t2.length c1), (7, .slice A4 x2.length c4), (8, i6 x3)] ∧ L' = [] ∧ X' = [orow 2 1 A4 x2.length c4 cs4] ∧ Imm.le I3 I' ∧ Reps (Ty.int .i64) I' x2 cs4 ∧ armillaryref22_Best.l1 a0 a1 t1 t2 n_ x2 x3 = some y1) k ⟨(([] : List Int) ++ t2), 0, A2, c2, cs2, rfl, rfl, rfl, (Imm.le_refl _), hp4, H⟩ ?_ ?_
   ·rintro _ _ _ _ _ ⟨x2, x3, A4, c4, cs4, rfl, rfl, rfl, _, hp6, H⟩
    cases H
   ·rintro kq1 _ I5 nx6 _ _ ⟨x2, x3, A4, c4, cs4, rfl, rfl, rfl, hi5, hp6, H⟩ Q_l1 hJ2 hQ2
    rw [armillaryref22_Best.l1] at H
    refine OK.sq ?_
    refine OK.sr ?_
    refine RL.st 3 [(28, .bool (decide (x3 < (W .i64 (1 * 2 ^ (min (t1).toNat 64)))))), (0, .slice Ap0 a0.length cp0), (1, i6 a1), (5, i6 (W .i64 (1 * 2 ^ (min (t1).toNat 64)))), (6, .slice A1 t2.length c1), (7, .slice A4 x2.length c4), (8, i6 x3)] ?_
    refine OK.cd (decide (x3 < (W .i64 (1 * 2 ^ (min (t1).toNat 64))))) (fun hb => ?_) (fun hb => ?_)
    ·skip
     have hc := (of_decide_eq_true hb)
     rw [if_pos hc] at H
     clear hb
     refine OK.skt ?_
     refine OK.sq ?_
     refine OK.join (fun K' I' _ L' X' => ∃ (x4 : List Int) (A5 : Option Addr) (c5 : Nat) (cs5 : List Value), K' = [(0, .slice Ap0 a0.length cp0), (1, i6 a1), (5, i6 (W .i64 (1 * 2 ^ (min (t1).toNat 64)))), (6, .slice A1 t2.length c1), (7, .slice A5 x4.length c5), (8, i6 x3)] ∧ L' = [] ∧ X' = [orow 2 1 A5 x4.length c5 cs5] ∧ Imm.le I5 I' ∧ Reps (Ty.int .i64) I' x4 cs5 ∧ (armillaryref22_Best.l1 a0 a1 t1 t2 kq1 x4 (W .i64 (x3 + 1))) = some y1) ?_ ?_
     ·rintro _ I6 nx7 _ _ ⟨x4, A5, c5, cs5, rfl, rfl, rfl, hi6, hp7, H⟩
      replace H : (armillaryref22_Best.l1 a0 a1 t1 t2 kq1 x4 (W .i64 (x3 + 1))) = some y1 := H
      refine QN.then_ ?_
      refine OK.rg ?_
      refine RL.s 3 [(8, i6 (W .i64 (x3 + 1))), (0, .slice Ap0 a0.length cp0), (1, i6 a1), (5, i6 (W .i64 (1 * 2 ^ (min (t1).toNat 64)))), (6, .slice A1 t2.length c1), (7, .slice A5 x4.length c5)] ?_
      refine RL.nil (by kernel_rfl) ?_
      exact QN.sb (hJ2 _ _ _ _ _ ⟨x4, W .i64 (x3 + 1), A5, c5, cs5, rfl, rfl, rfl, (Imm.le_trans hi5 hi6), hp7, H⟩) .slnil (.refl _)
     ·intro Q_2 hJ3 hQ3
      obtain ⟨y2, H, HK2⟩ := bnd H
      refine OK.bk 1 ?_
      refine OK.sr ?_
      refine RL.st 1 [(9, i6 0), (0, .slice Ap0 a0.length cp0), (1, i6 a1), (5, i6 (W .i64 (1 * 2 ^ (min (t1).toNat 64)))), (6, .slice A1 t2.length c1), (7, .slice A4 x2.length c4), (8, i6 x3)] ?_
      refine OK.join (fun K' I' _ L' X' => ∃ (x5 : List Int) (A6 : Option Addr) (c6 : Nat) (cs6 : List Value), K' = [(0, .slice Ap0 a0.length cp0), (1, i6 a1), (5, i6 (W .i64 (1 * 2 ^ (min (t1).toNat 64)))), (6, .slice A1 t2.length c1), (7, .slice A6 x5.length c6), (8, i6 x3)] ∧ L' = [] ∧ X' = [orow 2 1 A6 x5.length c6 cs6] ∧ Imm.le I5 I' ∧ Reps (Ty.int .i64) I' x5 cs6 ∧ armillaryref22_Best.k3 x5 = some y2) ?_ ?_
      ·rintro _ I7 nx8 _ _ ⟨x5, A6, c6, cs6, rfl, rfl, rfl, hi7, hp8, H⟩
       rw [armillaryref22_Best.k3] at H
       refine QN.blkN ?_
       obtain rfl := Option.some.inj H
       exact QN.sb (hJ3 _ _ _ _ _ ⟨x5, A6, c6, cs6, rfl, rfl, rfl, hi7, hp8, HK2⟩) .slnil (.refl _)
      ·intro Q_3 hJ4 hQ4
       obtain ⟨y3, H, HK3⟩ := bnd H
       refine OK.bk 2 ?_
       refine OK.sub (K' := [(0, .slice Ap0 a0.length cp0), (1, i6 a1), (5, i6 (W .i64 (1 * 2 ^ (min (t1).toNat 64)))), (6, .slice A1 t2.length c1), (7, .slice A4 x2.length c4), (8, i6 x3), (9, i6 0)]) (L' := []) (by kernel_rfl) .slnil (.refl _) ?_
       refine OK.lp (fun n_ K' I' _ L' X' => ∃ (x6 : List Int) (x7 : Int) (A7 : Option Addr) (c7 : Nat) (cs7 : List Value), K' = [(0, .slice Ap0 a0.length cp0), (1, i6 a1), (5, i6 (W .i64 (1 * 2 ^ (min (t1).toNat 64)))), (6, .slice A1 t2.length c1), (7, .slice A7 x6.length c7), (8, i6 x3), (9, i6 x7)] ∧ L' = [] ∧ X' = [orow 2 1 A7 x6.length c7 cs7] ∧ Imm.le I5 I' ∧ Reps (Ty.int .i64) I' x6 cs7 ∧ armillaryref22_Best.l2 a0 a1 t2 x3 n_ x6 x7 = some y3) kq1 ⟨x2, 0, A4, c4, cs4, rfl, rfl, rfl, (Imm.le_refl _), hp6, H⟩ ?_ ?_
       ·rintro _ _ _ _ _ ⟨x6, x7, A7, c7, cs7, rfl, rfl, rfl, _, hp9, H⟩
        cases H
       ·rintro kq2 _ I8 nx9 _ _ ⟨x6, x7, A7, c7, cs7, rfl, rfl, rfl, hi8, hp9, H⟩ Q_l2 hJ5 hQ5
        rw [armillaryref22_Best.l2] at H
        refine OK.sq ?_
        refine OK.sr ?_
        refine RL.s 3 [(33, i6 a1), (32, .slice Ap0 a0.length cp0), (31, i6 x7), (0, .slice Ap0 a0.length cp0), (1, i6 a1), (5, i6 (W .i64 (1 * 2 ^ (min (t1).toNat 64)))), (6, .slice A1 t2.length c1), (7, .slice A7 x6.length c7), (8, i6 x3), (9, i6 x7)] ?_
        obtain ⟨hib0, H⟩ := ifs H
        obtain ⟨hib1, H⟩ := ifs H
        obtain ⟨g1_, o1_, hA1_, A1_, c1_, hl1_, hr1_, hc1_⟩ := Ty.slice_at (Rd.ext (Imm.le_trans (Imm.le_trans (Imm.le_trans (Imm.le_trans hi1 hi2) hi3) hi5) hi8) hrp0) a1 hib0 hib1
        refine RL.idx 1 .i64 a1 hA1_ a0.length cp0 (some 34) (by kernel_rfl) (by kernel_rfl) (T := 22) (e := 24) (by kernel_rfl) (by kernel_rfl) hib0 hib1 (K' := [(34, pt g1_ (o1_ + (a1).toNat * 1)), (33, i6 a1), (32, .slice Ap0 a0.length cp0), (31, i6 x7), (0, .slice Ap0 a0.length cp0), (1, i6 a1), (5, i6 (W .i64 (1 * 2 ^ (min (t1).toNat 64)))), (6, .slice A1 t2.length c1), (7, .slice A7 x6.length c7), (8, i6 x3), (9, i6 x7)]) (by kernel_rfl) ?_
        refine RL.simK (K' := [(37, .bool (decide (x7 < ((a0.getD (a1).toNat []).length : Int)))), (0, .slice Ap0 a0.length cp0), (1, i6 a1), (5, i6 (W .i64 (1 * 2 ^ (min (t1).toNat 64)))), (6, .slice A1 t2.length c1), (7, .slice A7 x6.length c7), (8, i6 x3), (9, i6 x7)]) [(⟨g1_, o1_ + (a1).toNat * 1, none⟩, .slice A1_ ((a0.getD (a1).toNat []).length) c1_)] (RFacts.imm (hc1_ 0 _ rfl) (RFacts.nil _ _ _)) 3 [.r 0, .no, .no] (by kernel_rfl) (by kernel_rfl) ?_
        refine RL.nt ?_
        refine OK.cd (decide (x7 < ((a0.getD (a1).toNat []).length : Int))) (fun hb => ?_) (fun hb => ?_)
        ·skip
         have hc := (of_decide_eq_true hb)
         rw [if_pos hc] at H
         clear hb
         refine OK.skt ?_
         refine OK.sq ?_
         refine OK.bk 3 ?_
         refine OK.sr ?_
         refine RL.s 2 [(41, i6 x7), (40, i6 x3), (0, .slice Ap0 a0.length cp0), (1, i6 a1), (5, i6 (W .i64 (1 * 2 ^ (min (t1).toNat 64)))), (6, .slice A1 t2.length c1), (7, .slice A7 x6.length c7), (8, i6 x3), (9, i6 x7)] ?_
         obtain ⟨hc, H⟩ := ifs H
         refine RL.shr .i64 .i64 x3 x7 (some 42) (by kernel_rfl) (by kernel_rfl) hc (K' := [(42, i6 (Int.fdiv x3 (2 ^ (min (x7).toNat 64)))), (41, i6 x7), (40, i6 x3), (0, .slice Ap0 a0.length cp0), (1, i6 a1), (5, i6 (W .i64 (1 * 2 ^ (min (t1).toNat 64)))), (6, .slice A1 t2.length c1), (7, .slice A7 x6.length c7), (8, i6 x3), (9, i6 x7)]) (by kernel_rfl) ?_
         refine RL.st 2 [(44, .bool ((bAnd .i64 (Int.fdiv x3 (2 ^ (min (x7).toNat 64))) 1) == 0)), (0, .slice Ap0 a0.length cp0), (1, i6 a1), (5, i6 (W .i64 (1 * 2 ^ (min (t1).toNat 64)))), (6, .slice A1 t2.length c1), (7, .slice A7 x6.length c7), (8, i6 x3), (9, i6 x7)] ?_
         refine OK.join (fun K' I' _ L' X' => ∃ (x8 : List Int) (A8 : Option Addr) (c8 : Nat) (cs8 : List Value), K' = [(0, .slice Ap0 a0.length cp0), (1, i6 a1), (5, i6 (W .i64 (1 * 2 ^ (min (t1).toNat 64)))), (6, .slice A1 t2.length c1), (7, .slice A8 x8.length c8), (8, i6 x3), (9, i6 x7)] ∧ L' = [] ∧ X' = [orow 2 1 A8 x8.length c8 cs8] ∧ Imm.le I8 I' ∧ Reps (Ty.int .i64) I' x8 cs8 ∧ (armillaryref22_Best.l2 a0 a1 t2 x3 kq2 x8 (W .i64 (x7 + 1))) = some y3) ?_ ?_
         ·rintro _ I9 nx10 _ _ ⟨x8, A8, c8, cs8, rfl, rfl, rfl, hi9, hp10, H⟩
          replace H : (armillaryref22_Best.l2 a0 a1 t2 x3 kq2 x8 (W .i64 (x7 + 1))) = some y3 := H
          refine QN.blkN ?_
          refine QN.then_ ?_
          refine OK.rg ?_
          refine RL.s 3 [(9, i6 (W .i64 (x7 + 1))), (0, .slice Ap0 a0.length cp0), (1, i6 a1), (5, i6 (W .i64 (1 * 2 ^ (min (t1).toNat 64)))), (6, .slice A1 t2.length c1), (7, .slice A8 x8.length c8), (8, i6 x3)] ?_
          refine RL.nil (by kernel_rfl) ?_
          exact QN.sb (hJ5 _ _ _ _ _ ⟨x8, W .i64 (x7 + 1), A8, c8, cs8, rfl, rfl, rfl, (Imm.le_trans hi8 hi9), hp10, H⟩) .slnil (.refl _)
         ·intro Q_4 hJ6 hQ6
          obtain ⟨y4, H, HK4⟩ := bnd H
          refine OK.cd ((bAnd .i64 (Int.fdiv x3 (2 ^ (min (x7).toNat 64))) 1) == 0) (fun hb => ?_) (fun hb => ?_)
          ·skip
           have hc := (beq_iff_eq.1 hb)
           rw [if_pos hc] at H
           clear hb
           obtain ⟨hi0_1, H⟩ := ifs H
           obtain ⟨hi1_1, H⟩ := ifs H
           refine OK.ownAddr (e := 2) (sz := 1) (S := A7) (n := x6.length) (cap := c7) (cs := cs7) 0 (by kernel_rfl) (by omega) (fun g2_ hA2_ => ?_)
           have hc2_ := Ty.int_own hp9 x3 hi0_1 hi1_1
           have hx02_ := hi0_1; have hx12_ := hi1_1
           obtain ⟨hi0_2, H⟩ := ifs H
           obtain ⟨hi1_2, H⟩ := ifs H
           obtain ⟨g3_, o3_, hA3_, A3_, c3_, hl3_, hr3_, hc3_⟩ := Ty.slice_at (Rd.ext (Imm.le_trans (Imm.le_trans (Imm.le_trans (Imm.le_trans hi1 hi2) hi3) hi5) hi8) hrp0) a1 hi0_2 hi1_2
           obtain ⟨hi0_3, H⟩ := ifs H
           obtain ⟨hi1_3, H⟩ := ifs H
           obtain ⟨g4_, o4_, hA4_, hc4_⟩ := Ty.int_at hr3_ x7 hi0_3 hi1_3
           obtain ⟨hc1, H⟩ := ifs H
           obtain ⟨hi0_4, H⟩ := ifs H
           obtain ⟨hi1_4, H⟩ := ifs H
           obtain ⟨g5_, o5_, hA5_, hc5_⟩ := Ty.int_at (Rd.ext (Imm.le_trans hi5 hi8) hr1) (bOr .i64 x3 (W .i64 (1 * 2 ^ (min (x7).toNat 64)))) hi0_4 hi1_4
           refine OK.drawnC 13 22 O24_55 a24_55n (by kernel_rfl) (by kernel_rfl) u24d1l (u24d1g a1 x3 x7 g2_ g3_ o3_ g4_ o4_ g5_ o5_) [(⟨g2_, 0 + (x3).toNat * 1, none⟩, i6 (x6.getD (x3).toNat 0)), (⟨g3_, o3_ + (a1).toNat * 1, none⟩, .slice A3_ ((a0.getD (a1).toNat []).length) c3_), (⟨g4_, o4_ + (x7).toNat * 1, none⟩, i6 ((a0.getD (a1).toNat []).getD (x7).toNat 0)), (⟨g5_, o5_ + (bOr .i64 x3 (W .i64 (1 * 2 ^ (min (x7).toNat 64)))).toNat * 1, none⟩, i6 (t2.getD (bOr .i64 x3 (W .i64 (1 * 2 ^ (min (x7).toNat 64)))).toNat 0))] (RI.own (e := 2) (sz := 1) (S := A7) (n := x6.length) (cap := c7) (cs := cs7) 0 (by kernel_rfl) hA2_ (0 + (x3).toNat * 1) ((x3).toNat * 1 + 0) (by omega) (hc2_ 0 _ rfl) (RI.cons (hc3_ 0 _ rfl) (RI.cons (hc4_ 0 _ rfl) (RI.cons (hc5_ 0 _ rfl) (RI.nil _))))) [.no, .no, .no, .no, .no, .r 0, .no, .no, .no, .r 1, .no, .no, .r 2, .no, .no, .no, .no, .no, .no, .r 3, .no, .no] a24_55 a24_55o (by kernel_rfl) (by kernel_rfl) (u24d1s a0 Ap0 cp0 a1 t2 A1 c1 x3 x6 A7 c7 x7 g2_ A3_ c3_ g3_ o3_ g4_ o4_ g5_ o5_) (u24d1f a0 Ap0 cp0 a1 t1 t2 A1 c1 x3 x6 A7 c7 x7 g2_ A3_ c3_ g3_ o3_ g4_ o4_ g5_ o5_ 22) (u24d1v a0 Ap0 cp0 a1 t1 t2 A1 c1 x3 x6 A7 c7 x7 g2_ A3_ c3_ g3_ o3_ g4_ o4_ g5_ o5_) (u24d1e a0 Ap0 cp0 a1 t1 t2 A1 c1 x3 x6 A7 c7 x7 g2_ A3_ c3_ g3_ o3_ g4_ o4_ g5_ o5_) [] framesOk.nil ?_ [u24d1f a0 Ap0 cp0 a1 t1 t2 A1 c1 x3 x6 A7 c7 x7 g2_ A3_ c3_ g3_ o3_ g4_ o4_ g5_ o5_ 4, u24d1f a0 Ap0 cp0 a1 t1 t2 A1 c1 x3 x6 A7 c7 x7 g2_ A3_ c3_ g3_ o3_ g4_ o4_ g5_ o5_ 8, u24d1f a0 Ap0 cp0 a1 t1 t2 A1 c1 x3 x6 A7 c7 x7 g2_ A3_ c3_ g3_ o3_ g4_ o4_ g5_ o5_ 11, u24d1f a0 Ap0 cp0 a1 t1 t2 A1 c1 x3 x6 A7 c7 x7 g2_ A3_ c3_ g3_ o3_ g4_ o4_ g5_ o5_ 16, u24d1f a0 Ap0 cp0 a1 t1 t2 A1 c1 x3 x6 A7 c7 x7 g2_ A3_ c3_ g3_ o3_ g4_ o4_ g5_ o5_ 18] (framesOk.cons (fun u => rfl) (framesOk.cons (fun u => rfl) (framesOk.cons (fun u => rfl) (framesOk.cons (fun u => rfl) (framesOk.cons (fun u => rfl) framesOk.nil))))) ?_ ?_
           ·refine LoudsG.nil
           ·refine Givens.cons (fun u w =>  ?_) (fun _ _ _ => rfl) (Givens.cons (fun u w =>  ?_) (fun _ _ _ => rfl) (Givens.cons (fun u w =>  ?_) (fun _ _ _ => rfl) (Givens.cons (fun u w =>  ?_) (fun _ _ _ => rfl) (Givens.cons (fun u w =>  ?_) (fun _ _ _ => rfl) (Givens.nil)))))
            ·exact giv_idx (T := 24) (e := 2) 1 .i64 x3 hA2_ x6.length c7 (by kernel_rfl) (by kernel_rfl) (by kernel_rfl) hi0_1 hi1_1 w
            ·exact giv_idx (T := 22) (e := 24) 1 .i64 a1 hA3_ a0.length cp0 (by kernel_rfl) (by kernel_rfl) (by kernel_rfl) hi0_2 hi1_2 w
            ·exact giv_idx (T := 24) (e := 2) 1 .i64 x7 hA4_ ((a0.getD (a1).toNat []).length) c3_ (by kernel_rfl) (by kernel_rfl) (by kernel_rfl) hi0_3 hi1_3 w
            ·exact giv_shl .i64 .i64 1 x7 (by kernel_rfl) hc1 w
            ·exact giv_idx (T := 24) (e := 2) 1 .i64 (bOr .i64 x3 (W .i64 (1 * 2 ^ (min (x7).toNat 64)))) hA5_ t2.length c1 (by kernel_rfl) (by kernel_rfl) (by kernel_rfl) hi0_4 hi1_4 w
           intro u I10 nx11 hi10 hF
           clear hF
           refine RL.norm (K' := ((66, i6 (iMax (x6.getD (x3).toNat 0) (W .i64 (((a0.getD (a1).toNat []).getD (x7).toNat 0) + (t2.getD (bOr .i64 x3 (W .i64 (1 * 2 ^ (min (x7).toNat 64)))).toNat 0))))) :: (65, i6 (W .i64 (((a0.getD (a1).toNat []).getD (x7).toNat 0) + (t2.getD (bOr .i64 x3 (W .i64 (1 * 2 ^ (min (x7).toNat 64)))).toNat 0)))) :: (64, i6 (t2.getD (bOr .i64 x3 (W .i64 (1 * 2 ^ (min (x7).toNat 64)))).toNat 0)) :: (63, pt g5_ (o5_ + (bOr .i64 x3 (W .i64 (1 * 2 ^ (min (x7).toNat 64)))).toNat * 1)) :: (62, i6 (bOr .i64 x3 (W .i64 (1 * 2 ^ (min (x7).toNat 64))))) :: (61, i6 (W .i64 (1 * 2 ^ (min (x7).toNat 64)))) :: (60, i6 x7) :: (59, i6 x3) :: (58, .slice A1 t2.length c1) :: (57, i6 ((a0.getD (a1).toNat []).getD (x7).toNat 0)) :: (56, pt g4_ (o4_ + (x7).toNat * 1)) :: (55, i6 x7) :: (54, .slice A3_ ((a0.getD (a1).toNat []).length) c3_) :: (53, pt g3_ (o3_ + (a1).toNat * 1)) :: (52, i6 a1) :: (51, .slice Ap0 a0.length cp0) :: (50, i6 (x6.getD (x3).toNat 0)) :: (49, pt g2_ (0 + (x3).toNat * 1)) :: (48, i6 x3) :: (47, .slice A7 x6.length c7) :: (46, i6 x3) :: (45, .slice A7 x6.length c7) :: (44, .bool ((bAnd .i64 (Int.fdiv x3 (2 ^ (min (x7).toNat 64))) 1) == 0)) :: (0, .slice Ap0 a0.length cp0) :: (1, i6 a1) :: (5, i6 (W .i64 (1 * 2 ^ (min (t1).toNat 64)))) :: (6, .slice A1 t2.length c1) :: (7, .slice A7 x6.length c7) :: (8, i6 x3) :: (9, i6 x7) :: [])) (X' := [orow 2 1 A7 x6.length c7 cs7]) (by kernel_rfl) rfl rfl rfl ?_
           obtain ⟨hib0, H⟩ := ifs H
           obtain ⟨hib1, H⟩ := ifs H
           have hx06_ := hib0; have hx16_ := hib1
           refine RL.ownAddr (e := 2) (sz := 1) (S := A7) (n := x6.length) (cap := c7) (cs := cs7) 0 (by kernel_rfl) (by omega) (fun g6_ hA6_ => ?_)
           have hc6_ := Ty.int_own (Reps.ext hi10 hp9) x3 hib0 hib1
           refine RL.idx 1 .i64 x3 hA6_ x6.length c7 (some 67) (by kernel_rfl) (by kernel_rfl) (T := 24) (e := 2) (by kernel_rfl) (by kernel_rfl) hib0 hib1 (K' := ((67, pt g6_ (0 + (x3).toNat * 1)) :: (66, i6 (iMax (x6.getD (x3).toNat 0) (W .i64 (((a0.getD (a1).toNat []).getD (x7).toNat 0) + (t2.getD (bOr .i64 x3 (W .i64 (1 * 2 ^ (min (x7).toNat 64)))).toNat 0))))) :: (65, i6 (W .i64 (((a0.getD (a1).toNat []).getD (x7).toNat 0) + (t2.getD (bOr .i64 x3 (W .i64 (1 * 2 ^ (min (x7).toNat 64)))).toNat 0)))) :: (64, i6 (t2.getD (bOr .i64 x3 (W .i64 (1 * 2 ^ (min (x7).toNat 64)))).toNat 0)) :: (63, pt g5_ (o5_ + (bOr .i64 x3 (W .i64 (1 * 2 ^ (min (x7).toNat 64)))).toNat * 1)) :: (62, i6 (bOr .i64 x3 (W .i64 (1 * 2 ^ (min (x7).toNat 64))))) :: (61, i6 (W .i64 (1 * 2 ^ (min (x7).toNat 64)))) :: (60, i6 x7) :: (59, i6 x3) :: (58, .slice A1 t2.length c1) :: (57, i6 ((a0.getD (a1).toNat []).getD (x7).toNat 0)) :: (56, pt g4_ (o4_ + (x7).toNat * 1)) :: (55, i6 x7) :: (54, .slice A3_ ((a0.getD (a1).toNat []).length) c3_) :: (53, pt g3_ (o3_ + (a1).toNat * 1)) :: (52, i6 a1) :: (51, .slice Ap0 a0.length cp0) :: (50, i6 (x6.getD (x3).toNat 0)) :: (49, pt g2_ (0 + (x3).toNat * 1)) :: (48, i6 x3) :: (47, .slice A7 x6.length c7) :: (46, i6 x3) :: (45, .slice A7 x6.length c7) :: (44, .bool ((bAnd .i64 (Int.fdiv x3 (2 ^ (min (x7).toNat 64))) 1) == 0)) :: (0, .slice Ap0 a0.length cp0) :: (1, i6 a1) :: (5, i6 (W .i64 (1 * 2 ^ (min (t1).toNat 64)))) :: (6, .slice A1 t2.length c1) :: (7, .slice A7 x6.length c7) :: (8, i6 x3) :: (9, i6 x7) :: [])) (by kernel_rfl) ?_
           refine RL.storeL (T := 2) (e := 2) 1 0 hA6_ c7 x3 cs7 [i6 (iMax (x6.getD (x3).toNat 0) (W .i64 (((a0.getD (a1).toNat []).getD (x7).toNat 0) + (t2.getD (bOr .i64 x3 (W .i64 (1 * 2 ^ (min (x7).toNat 64)))).toNat 0))))] (i6 (iMax (x6.getD (x3).toNat 0) (W .i64 (((a0.getD (a1).toNat []).getD (x7).toNat 0) + (t2.getD (bOr .i64 x3 (W .i64 (1 * 2 ^ (min (x7).toNat 64)))).toNat 0))))) (Ty.int .i64) x6 (iMax (x6.getD (x3).toNat 0) (W .i64 (((a0.getD (a1).toNat []).getD (x7).toNat 0) + (t2.getD (bOr .i64 x3 (W .i64 (1 * 2 ^ (min (x7).toNat 64)))).toNat 0)))) (by kernel_rfl) (by kernel_rfl) (by kernel_rfl) (by kernel_rfl) (by kernel_rfl) rfl (by kernel_rfl) (Reps.ext hi10 hp9) hx06_ hx16_ (fun cs9 hp11 => ?_)
           refine RL.sub (K' := ((66, i6 (iMax (x6.getD (x3).toNat 0) (W .i64 (((a0.getD (a1).toNat []).getD (x7).toNat 0) + (t2.getD (bOr .i64 x3 (W .i64 (1 * 2 ^ (min (x7).toNat 64)))).toNat 0))))) :: (65, i6 (W .i64 (((a0.getD (a1).toNat []).getD (x7).toNat 0) + (t2.getD (bOr .i64 x3 (W .i64 (1 * 2 ^ (min (x7).toNat 64)))).toNat 0)))) :: (64, i6 (t2.getD (bOr .i64 x3 (W .i64 (1 * 2 ^ (min (x7).toNat 64)))).toNat 0)) :: (63, pt g5_ (o5_ + (bOr .i64 x3 (W .i64 (1 * 2 ^ (min (x7).toNat 64)))).toNat * 1)) :: (62, i6 (bOr .i64 x3 (W .i64 (1 * 2 ^ (min (x7).toNat 64))))) :: (61, i6 (W .i64 (1 * 2 ^ (min (x7).toNat 64)))) :: (60, i6 x7) :: (59, i6 x3) :: (58, .slice A1 t2.length c1) :: (57, i6 ((a0.getD (a1).toNat []).getD (x7).toNat 0)) :: (56, pt g4_ (o4_ + (x7).toNat * 1)) :: (55, i6 x7) :: (54, .slice A3_ ((a0.getD (a1).toNat []).length) c3_) :: (53, pt g3_ (o3_ + (a1).toNat * 1)) :: (52, i6 a1) :: (51, .slice Ap0 a0.length cp0) :: (50, i6 (x6.getD (x3).toNat 0)) :: (48, i6 x3) :: (47, .slice A7 x6.length c7) :: (46, i6 x3) :: (45, .slice A7 x6.length c7) :: (44, .bool ((bAnd .i64 (Int.fdiv x3 (2 ^ (min (x7).toNat 64))) 1) == 0)) :: (0, .slice Ap0 a0.length cp0) :: (1, i6 a1) :: (5, i6 (W .i64 (1 * 2 ^ (min (t1).toNat 64)))) :: (6, .slice A1 t2.length c1) :: (7, .slice A7 x6.length c7) :: (8, i6 x3) :: (9, i6 x7) :: [])) (L' := []) (X' := [orow 2 1 A7 ((x6.set (x3).toNat (iMax (x6.getD (x3).toNat 0) (W .i64 (((a0.getD (a1).toNat []).getD (x7).toNat 0) + (t2.getD (bOr .i64 x3 (W .i64 (1 * 2 ^ (min (x7).toNat 64)))).toNat 0))))).length) c7 cs9]) (by kernel_rfl) (.refl _) (.refl _) ?_
           refine RL.norm (K' := ((66, i6 (iMax (x6.getD (x3).toNat 0) (W .i64 (((a0.getD (a1).toNat []).getD (x7).toNat 0) + (t2.getD (bOr .i64 x3 (W .i64 (1 * 2 ^ (min (x7).toNat 64)))).toNat 0))))) :: (65, i6 (W .i64 (((a0.getD (a1).toNat []).getD (x7).toNat 0) + (t2.getD (bOr .i64 x3 (W .i64 (1 * 2 ^ (min (x7).toNat 64)))).toNat 0)))) :: (64, i6 (t2.getD (bOr .i64 x3 (W .i64 (1 * 2 ^ (min (x7).toNat 64)))).toNat 0)) :: (63, pt g5_ (o5_ + (bOr .i64 x3 (W .i64 (1 * 2 ^ (min (x7).toNat 64)))).toNat * 1)) :: (62, i6 (bOr .i64 x3 (W .i64 (1 * 2 ^ (min (x7).toNat 64))))) :: (61, i6 (W .i64 (1 * 2 ^ (min (x7).toNat 64)))) :: (60, i6 x7) :: (59, i6 x3) :: (58, .slice A1 t2.length c1) :: (57, i6 ((a0.getD (a1).toNat []).getD (x7).toNat 0)) :: (56, pt g4_ (o4_ + (x7).toNat * 1)) :: (55, i6 x7) :: (54, .slice A3_ ((a0.getD (a1).toNat []).length) c3_) :: (53, pt g3_ (o3_ + (a1).toNat * 1)) :: (52, i6 a1) :: (51, .slice Ap0 a0.length cp0) :: (50, i6 (x6.getD (x3).toNat 0)) :: (48, i6 x3) :: (47, .slice A7 ((x6.set (x3).toNat (iMax (x6.getD (x3).toNat 0) (W .i64 (((a0.getD (a1).toNat []).getD (x7).toNat 0) + (t2.getD (bOr .i64 x3 (W .i64 (1 * 2 ^ (min (x7).toNat 64)))).toNat 0))))).length) c7) :: (46, i6 x3) :: (45, .slice A7 ((x6.set (x3).toNat (iMax (x6.getD (x3).toNat 0) (W .i64 (((a0.getD (a1).toNat []).getD (x7).toNat 0) + (t2.getD (bOr .i64 x3 (W .i64 (1 * 2 ^ (min (x7).toNat 64)))).toNat 0))))).length) c7) :: (44, .bool ((bAnd .i64 (Int.fdiv x3 (2 ^ (min (x7).toNat 64))) 1) == 0)) :: (0, .slice Ap0 a0.length cp0) :: (1, i6 a1) :: (5, i6 (W .i64 (1 * 2 ^ (min (t1).toNat 64)))) :: (6, .slice A1 t2.length c1) :: (7, .slice A7 ((x6.set (x3).toNat (iMax (x6.getD (x3).toNat 0) (W .i64 (((a0.getD (a1).toNat []).getD (x7).toNat 0) + (t2.getD (bOr .i64 x3 (W .i64 (1 * 2 ^ (min (x7).toNat 64)))).toNat 0))))).length) c7) :: (8, i6 x3) :: (9, i6 x7) :: [])) (L' := []) (by simp only [List.length_set]) rfl (by first | rfl | simp only [List.length_set]) rfl ?_
           refine RL.nil (by kernel_rfl) ?_
           refine QN.sub (K' := [(0, .slice Ap0 a0.length cp0), (1, i6 a1), (5, i6 (W .i64 (1 * 2 ^ (min (t1).toNat 64)))), (6, .slice A1 t2.length c1), (7, .slice A7 ((x6.set (x3).toNat (iMax (x6.getD (x3).toNat 0) (W .i64 (((a0.getD (a1).toNat []).getD (x7).toNat 0) + (t2.getD (bOr .i64 x3 (W .i64 (1 * 2 ^ (min (x7).toNat 64)))).toNat 0))))).length) c7), (8, i6 x3), (9, i6 x7)]) (L' := []) (by kernel_rfl) .slnil (.refl _) ?_
           obtain rfl := Option.some.inj H
           exact QN.sb (hJ6 _ _ _ _ _ ⟨x6.set (x3).toNat (iMax (x6.getD (x3).toNat 0) (W .i64 (((a0.getD (a1).toNat []).getD (x7).toNat 0) + (t2.getD (bOr .i64 x3 (W .i64 (1 * 2 ^ (min (x7).toNat 64)))).toNat 0)))), A7, c7, cs9, rfl, rfl, rfl, hi10, hp11, HK4⟩) .slnil (.refl _)
          ·skip
           have hc := (beq_eq_false_iff_ne.1 hb)
           rw [if_neg hc] at H
           clear hb
           refine OK.sk ?_
           obtain rfl := Option.some.inj H
           exact QN.sb (hJ6 _ _ _ _ _ ⟨x6, A7, c7, cs7, rfl, rfl, rfl, (Imm.le_refl _), hp9, HK4⟩) .slnil (.refl _)
        ·skip
         have hc := (of_decide_eq_false hb)
         rw [if_neg hc] at H
         clear hb
         refine OK.ex 2 ?_
         refine QN.thenE ?_
         refine QN.outE hQ5 ?_
         refine QN.blkE ?_
         obtain rfl := Option.some.inj H
         exact QN.sb (hJ4 _ _ _ _ _ ⟨x6, A7, c7, cs7, rfl, rfl, rfl, hi8, hp9, HK3⟩) .slnil (.refl _)
    ·skip
     have hc := (of_decide_eq_false hb)
     rw [if_neg hc] at H
     clear hb
     refine OK.ex 0 ?_
     refine QN.thenE ?_
     refine QN.outE hQ2 ?_
     refine QN.blkE ?_
     obtain rfl := Option.some.inj H
     exact QN.sb (hJ1 _ _ _ _ _ ⟨x2, A4, c4, cs4, rfl, rfl, rfl, hi5, hp6, HK1⟩) .slnil (.refl _)
theorem armillaryref22_Best.calls (k : Nat) : ∀ (I0 : Imm) (a0 : List (List Int)) (Ap0 : Option Addr) (cp0 : Nat) (a1 : Int) (w : World) (hI : I0.at_ w) (hlp0 : a0.length ≤ cp0) (hrp0 : Rd (Ty.slice (Ty.int .i64)) I0 Ap0 a0) (r : List Int) (h : armillaryref22_Best.f k a0 a1 = some r), Calls Try.prog 24 [.slice Ap0 a0.length cp0, i6 a1].toArray w fun e w' => ∃ v, e = .returned v ∧ armillaryref22_Best.Post I0 w r v w' := by
 induction k with
 | zero => intro I0 a0 Ap0 cp0 a1 w hI hlp0 hrp0 r h; cases h
 | succ k ih => intro I0 a0 Ap0 cp0 a1 w hI hlp0 hrp0 r h; exact armillaryref22_Best.bodyCalls k (armillaryref22_Best.f k) ih I0 a0 Ap0 cp0 a1 w hI hlp0 hrp0 r h

end Go.Proofs.Ytdmhbcgmimfjcaa
namespace Go.Proofs.Ytdmhbcgmimfjcaa.hun
open Go Go.Proofs.Ytdmhbcgmimfjcaa Go.Proofs.Ytdmhbcgmimfjcaa.RW
set_option linter.unusedVariables false
set_option maxRecDepth 100000
set_option maxHeartbeats 4000000
/-! ### bits -/
theorem bitA : ∀ x, x < 64 → ∀ j, j < 6 → bAnd .i64 (Int.fdiv ((x : Nat) : Int) (2 ^ (min j 64))) 1 = if x.testBit j = true then 1 else 0 := by decide +kernel
theorem bitO : ∀ x, x < 64 → ∀ j, j < 6 → bOr .i64 ((x : Nat) : Int) (W .i64 (1 * 2 ^ (min j 64))) = ((x ||| 2 ^ j : Nat) : Int) := by decide +kernel
theorem bitP : ∀ m, m < 7 → W .i64 (1 * 2 ^ (min m 64)) = ((2 ^ m : Nat) : Int) ∧ 2 ^ m ≤ 64 := by decide +kernel
theorem bitL {m x j : Nat} (hx : x < 2 ^ m) (hj : j < m) : x ||| 2 ^ j < 2 ^ m := Nat.or_lt_two_pow hx (Nat.pow_lt_pow_right (by omega) hj)
theorem bitT (x j : Nat) : (x ||| 2 ^ j).testBit = plus x.testBit j := by
  funext q
  rw [Nat.testBit_or, Nat.testBit_two_pow]
  show _ = if q = j then true else x.testBit q
  by_cases e : q = j
  · rw [if_pos e, decide_eq_true e.symm, Bool.or_true]
  · rw [if_neg e, decide_eq_false (fun h => e h.symm), Bool.or_false]
section
variable {w : List (List Int)} {m : Nat}
theorem opt_at (h : Vw w m) {i : Nat} (hi : i ≤ w.length) (t : Nat → Bool) : ∃ V, Opt w m i t V ∧ 0 ≤ V ∧ V ≤ 12884901888 := by
  obtain ⟨V, _, h1, h2⟩ := best_spec h (used := (List.range m).map t) (by simp) (first := i) (k := 1000) (by omega) hi
  refine ⟨V, h1.congr (fun j hj => ?_), h2⟩
  show ((List.range m).map t).getD j false = t j
  rw [List.getD_eq_getElem?_getD, List.getElem?_map, List.getElem?_range hj]
  rfl
theorem Opt.weaken {i : Nat} {t : Nat → Bool} {V V' : Int} (h : Opt w m i t V) (h' : Opt w m (i + 1) t V') : V' ≤ V := by
  obtain ⟨a, ha, hv⟩ := h'.2
  have := h.1 a ⟨fun i' hi' => (ha.rg i' hi').imp id (fun ⟨h1, h2⟩ => ⟨by omega, h2⟩), ha.inj⟩
  omega
theorem Opt.max (h : Vw w m) {i : Nat} {t : Nat → Bool} {V0 M : Int} (hi : i < w.length) (h0 : Opt w m (i + 1) t V0) (hj : ∀ j, j < m → t j = false → ∃ Vj, Opt w m (i + 1) (plus t j) Vj ∧ we w i j + Vj ≤ M) (hle : V0 ≤ M)
    (hat : M = V0 ∨ ∃ j, j < m ∧ t j = false ∧ ∃ Vj, Opt w m (i + 1) (plus t j) Vj ∧ M = we w i j + Vj) : Opt w m i t M := by
  obtain ⟨V, hV, _⟩ := opt_at h (i := i) (by omega) t
  have h1 := hV.weaken h0
  have h2 : M ≤ V := by
    rcases hat with e | ⟨j, h3, h4, Vj, h5, e⟩
    · omega
    · have := Opt.take hi h3 h4 hV h5
      omega
  have h3 : V ≤ M := by
    by_cases hs : ∀ j, j < m → t j = false → ∃ Vj, Opt w m (i + 1) (plus t j) Vj ∧ we w i j + Vj < V
    · have := (Opt.skip hi hV hs).uniq h0
      omega
    · obtain ⟨j, h4⟩ := Classical.not_forall.1 hs
      obtain ⟨h5, h6⟩ := Classical.not_imp.1 h4
      obtain ⟨h7, h8⟩ := Classical.not_imp.1 h6
      obtain ⟨Vj, h9, h10⟩ := hj j h5 h7
      have : ¬ we w i j + Vj < V := fun hx => h8 ⟨Vj, h9, hx⟩
      omega
  obtain rfl : M = V := by omega
  exact hV
theorem Opt.last {t : Nat → Bool} : Opt w m w.length t 0 := by
  have h0 : ∀ a, IsA w m w.length t a → val w a = 0 := fun a ha => by
    have e1 : val w a = sm (fun _ => 0) w.length := sm_congr _ (fun i' hi' => by
      rcases ha.rg i' hi' with h1 | h1
      · exact if_pos h1
      · omega)
    rw [e1, sm_const]; simp
  refine ⟨fun a ha => by rw [h0 a ha]; exact Int.le_refl _, fun _ => -1, ⟨fun i hi => .inl rfl, fun i i' _ _ h1 _ => ?_⟩, ?_⟩
  · exact absurd (show (0 : Int) ≤ -1 from h1) (by omega)
  · have ha : IsA w m w.length t (fun _ => -1) := ⟨fun i hi => .inl rfl, fun i i' _ _ h1 _ => absurd (show (0 : Int) ≤ -1 from h1) (by omega)⟩
    exact h0 _ ha
/-! ### the table -/
/-- The table of the best values from row i on. -/
structure Tab (w : List (List Int)) (m i : Nat) (b : List Int) : Prop where
  len : b.length = 2 ^ m
  at_ : ∀ x, x < 2 ^ m → Opt w m i x.testBit (g b x)
theorem Tab.b (h : Vw w m) {i : Nat} (hi : i ≤ w.length) {b : List Int} (t : Tab w m i b) {x : Nat} (hx : x < 2 ^ m) : 0 ≤ g b x ∧ g b x ≤ 12884901888 := by
  obtain ⟨V, h1, h2⟩ := opt_at h hi x.testBit
  rw [(t.at_ x hx).uniq h1]
  exact h2
theorem best_cell (h : Vw w m) (hm6 : m ≤ 6) {i : Nat} (hi : i < w.length) {t2 : List Int} (ht : Tab w m (i + 1) t2) {x : Nat} (hx : x < 2 ^ m) : ∀ (d k j : Nat) (o : List Int), d + j = m → d < k → o.length = 2 ^ m →
    g t2 x ≤ g o x → (∀ q, q < j → x.testBit q = false → we w i q + g t2 (x ||| 2 ^ q) ≤ g o x) → (g o x = g t2 x ∨ ∃ q, q < j ∧ x.testBit q = false ∧ g o x = we w i q + g t2 (x ||| 2 ^ q)) →
    ∃ o', armillaryref22_Best.l2 w (i : Int) t2 (x : Int) k o (j : Int) = some o' ∧ o'.length = 2 ^ m ∧ (∀ y, y ≠ x → g o' y = g o y) ∧ Opt w m i x.testBit (g o' x) := by
  have hrl := h.rl i hi
  have hp := (bitP m (by omega)).2
  have htl := ht.len
  intro d
  induction d with
  | zero =>
    intro k j o hd hk ho h1 h2 h3
    obtain ⟨k, rfl⟩ : ∃ m, k = m + 1 := ⟨k - 1, by omega⟩
    obtain rfl : j = m := by omega
    have hl : ((w.getD i []).length : Int) = (j : Int) := by show ((row w i).length : Int) = _; omega
    refine ⟨o, ?_, ho, fun y _ => rfl, Opt.max h hi (ht.at_ x hx) (fun q hq hu => ?_) h1 (h3.imp id fun ⟨q, h4, h5, h6⟩ => ⟨q, h4, h5, _, ?_, h6⟩)⟩
    · simp only [armillaryref22_Best.l2, tn]
      rw [if_pos (by omega), if_pos (by omega), if_neg (by omega)]
    · exact ⟨_, by rw [← bitT]; exact ht.at_ _ (bitL hx hq), h2 q hq hu⟩
    · rw [← bitT]; exact ht.at_ _ (bitL hx h4)
  | succ d ih =>
    intro k j o hd hk ho h1 h2 h3
    obtain ⟨k, rfl⟩ : ∃ m, k = m + 1 := ⟨k - 1, by omega⟩
    have hj : j < m := by omega
    have hl : ((w.getD i []).length : Int) = (m : Int) := by show ((row w i).length : Int) = _; omega
    have hlt := bitL hx hj
    simp only [armillaryref22_Best.l2, tn, hl]
    rw [if_pos (by omega), if_pos (by omega), if_pos (by omega), if_pos (by omega), bitA x (by omega) j (by omega), bitO x (by omega) j (by omega)]
    simp only [tn]
    by_cases e : x.testBit j = true
    · simp only [if_pos e]
      rw [if_neg (by decide), Option.bind_some, Wn (by omega)]
      refine ih k (j + 1) o (by omega) (by omega) ho h1 (fun q hq hu => ?_) (h3.imp id fun ⟨q, h4, h5, h6⟩ => ⟨q, by omega, h5, h6⟩)
      by_cases e2 : q = j
      · subst e2; rw [e] at hu; cases hu
      · exact h2 q (by omega) hu
    · have ef : x.testBit j = false := by revert e; cases x.testBit j <;> simp
      simp only [if_neg e]
      have hb := ht.b h (by omega) hlt
      have he := h.eb i j hi hj
      rw [if_pos trivial, if_pos (by omega), if_pos (by omega), if_pos (by omega), if_pos (by omega), if_pos (by omega), if_pos (by omega), if_pos (by omega), if_pos (by omega), if_pos (by omega), if_pos (by omega), if_pos (by omega), Option.bind_some, Wn (by omega)]
      rw [show W .i64 ((w.getD i []).getD j 0 + t2.getD (x ||| 2 ^ j) 0) = we w i j + g t2 (x ||| 2 ^ j) from W64 (by show _ ≤ we w i j + g t2 (x ||| 2 ^ j); omega) (by show we w i j + g t2 (x ||| 2 ^ j) ≤ _; omega)]
      have em : ∀ a c : Int, iMax a c = if c > a then c else a := fun _ _ => rfl
      have hg : ∀ y, g (o.set x (iMax (o.getD x 0) (we w i j + g t2 (x ||| 2 ^ j)))) y = if y = x then iMax (g o x) (we w i j + g t2 (x ||| 2 ^ j)) else g o y := fun y => gset (by omega) _ _
      have hx1 : g (o.set x (iMax (o.getD x 0) (we w i j + g t2 (x ||| 2 ^ j)))) x = iMax (g o x) (we w i j + g t2 (x ||| 2 ^ j)) := by rw [hg, if_pos rfl]
      have hle : g o x ≤ iMax (g o x) (we w i j + g t2 (x ||| 2 ^ j)) ∧ we w i j + g t2 (x ||| 2 ^ j) ≤ iMax (g o x) (we w i j + g t2 (x ||| 2 ^ j)) := by rw [em]; split <;> omega
      obtain ⟨o', e2, h4, h5, h6⟩ := ih k (j + 1) (o.set x (iMax (o.getD x 0) (we w i j + g t2 (x ||| 2 ^ j)))) (by omega) (by omega) (by rw [List.length_set]; exact ho) (by rw [hx1]; omega) (fun q hq hu => by
        rw [hx1]
        by_cases e3 : q = j
        · subst e3; exact hle.2
        · have := h2 q (by omega) hu; omega) (by
        rw [hx1, em]
        by_cases e3 : we w i j + g t2 (x ||| 2 ^ j) > g o x
        · rw [if_pos e3]; exact .inr ⟨j, by omega, ef, rfl⟩
        · rw [if_neg e3]; exact h3.imp id fun ⟨q, h4, h5, h6⟩ => ⟨q, by omega, h5, h6⟩)
      exact ⟨o', e2, h4, fun y hy => by rw [h5 y hy, hg, if_neg hy], h6⟩
theorem best_row (h : Vw w m) (hm6 : m ≤ 6) {i : Nat} (hi : i < w.length) {t2 : List Int} (ht : Tab w m (i + 1) t2) : ∀ (d k x : Nat) (o : List Int), d + x = 2 ^ m → d + 10 ≤ k → o.length = 2 ^ m → (∀ y, x ≤ y → g o y = g t2 y) → (∀ y, y < x → Opt w m i y.testBit (g o y)) →
    ∃ o', armillaryref22_Best.l1 w (i : Int) (m : Int) t2 k o (x : Int) = some o' ∧ Tab w m i o' := by
  have hp := bitP m (by omega)
  intro d
  induction d with
  | zero =>
    intro k x o hd hk ho h1 h2
    obtain ⟨k, rfl⟩ : ∃ m, k = m + 1 := ⟨k - 1, by omega⟩
    refine ⟨o, ?_, ho, fun y hy => h2 y (by omega)⟩
    simp only [armillaryref22_Best.l1, tn]
    rw [hp.1, if_neg (by omega)]
  | succ d ih =>
    intro k x o hd hk ho h1 h2
    obtain ⟨k, rfl⟩ : ∃ m, k = m + 1 := ⟨k - 1, by omega⟩
    obtain ⟨o', e, h3, h4, h5⟩ := best_cell h hm6 hi ht (x := x) (by omega) m k 0 o (by omega) (by omega) ho (by rw [h1 x (Nat.le_refl _)]; exact Int.le_refl _) (fun q hq => by omega) (.inl (h1 x (Nat.le_refl _)))
    simp only [armillaryref22_Best.l1, tn]
    rw [hp.1, if_pos (by omega), show armillaryref22_Best.l2 w (i : Int) t2 (x : Int) k o 0 = some o' from e, Option.bind_some]
    simp only [armillaryref22_Best.k3, Option.bind_some]
    rw [Wn (by omega)]
    refine ih k (x + 1) o' (by omega) (by omega) h3 (fun y hy => by rw [h4 y (by omega)]; exact h1 y (by omega)) (fun y hy => ?_)
    by_cases e2 : y = x
    · subst e2; exact h5
    · rw [h4 y e2]; exact h2 y (by omega)
theorem best_tab (h : Vw w m) (hm6 : m ≤ 6) : ∀ (d k i : Nat), d + i = w.length → d + 100 ≤ k → ∃ b, armillaryref22_Best.f k w (i : Int) = some b ∧ Tab w m i b := by
  have hp := bitP m (by omega)
  have hn12 := h.nr
  intro d
  induction d with
  | zero =>
    intro k i hd hk
    obtain ⟨k, rfl⟩ : ∃ m, k = m + 1 := ⟨k - 1, by omega⟩
    obtain rfl : i = w.length := by omega
    refine ⟨List.replicate (2 ^ m) 0, ?_, by simp, fun x hx => by rw [grep hx]; exact Opt.last⟩
    simp only [armillaryref22_Best.f, armillaryref22_Best.body]
    rw [columnsR h, Option.bind_some, if_pos (by omega), if_pos (by omega), tn, hp.1, if_pos (Int.natCast_nonneg _), if_pos (Int.le_trans (Int.ofNat_le.2 hp.2) (by decide)), tn]
  | succ d ih =>
    intro k i hd hk
    obtain ⟨k, rfl⟩ : ∃ m, k = m + 1 := ⟨k - 1, by omega⟩
    obtain ⟨t2, e, ht⟩ := ih k (i + 1) (by omega) (by omega)
    have htl := ht.len
    obtain ⟨b, e2, hb⟩ := best_row h hm6 (i := i) (by omega) ht (2 ^ m) k 0 t2 (by omega) (by omega) htl (fun y _ => rfl) (fun y hy => by omega)
    refine ⟨b, ?_, hb⟩
    simp only [armillaryref22_Best.f, armillaryref22_Best.body]
    rw [columnsR h, Option.bind_some, if_pos (by omega), if_neg (by omega), Wn (by omega), e, Option.bind_some, if_pos (by simp only [List.length_nil]; omega), show ([] : List Int) ++ t2 = t2 from rfl, show armillaryref22_Best.l1 w (i : Int) (m : Int) t2 k t2 0 = some b from e2]
    rfl
end
end Go.Proofs.Ytdmhbcgmimfjcaa.hun
namespace Go.Proofs.Ytdmhbcgmimfjcaa
open Go Go.Proofs.Ytdmhbcgmimfjcaa.RW
set_option linter.unusedVariables false
set_option maxRecDepth 100000
set_option maxHeartbeats 8000000

/-! ### armillaryref22_Solve: function 18, armillary/armillaryref22.Solve -/
noncomputable def K18_0 : Code := cBody Try.f18
noncomputable def O18_40 : List Oper := cOps (cL (cL (cL (cR (cL (cL (cR (cL (cR (cL (cL (cR (cL (cL (cR (cL (cR (cR K18_0))))))))))))))))))
def armillaryref22_Solve.k1  (x1 : List Int) : Option (List Int) := (some x1)
def armillaryref22_Solve.k3 (x2 : List Int) (x7 : Int) (x8 : Int) : Option (List Int × Int) := (if (x2.length + [x7].length) * 8 ≤ 140737488355328 then (some ((x2 ++ [x7]), x8)) else none)
def armillaryref22_Solve.k4 (x2 : List Int) (x3 : Int) (x7 : Int) : Option (List Int × Int) := ((if x7 ≥ 0 then (if 0 ≤ x7 then (some (bOr .i64 x3 (W .i64 (1 * 2 ^ (min (x7).toNat 64))))) else none) else (some x3)).bind (armillaryref22_Solve.k3 x2 x7))
def armillaryref22_Solve.l2 (a0 : List (List Int)) (x3 : Int) (x4 : Int) (t1 : List Int) (t2 : List Int) : Nat → Int → Int → Option (Int)
 | 0, _, _ => none
 | k + 1, x9, x10 => ((if 0 ≤ x4 then (if x4 < (a0.length : Int) then (if x10 < ((a0.getD (x4).toNat []).length : Int) then (some (decide (x9 < 0))) else (some false)) else none) else none).bind (fun x11 => (if x11 = true then ((if 0 ≤ x10 then (if (bAnd .i64 (Int.fdiv x3 (2 ^ (min (x10).toNat 64))) 1) = 0 then (if 0 ≤ x4 then (if x4 < (a0.length : Int) then (if 0 ≤ x10 then (if x10 < ((a0.getD (x4).toNat []).length : Int) then (if 0 ≤ x10 then (if 0 ≤ (bOr .i64 x3 (W .i64 (1 * 2 ^ (min (x10).toNat 64)))) then (if (bOr .i64 x3 (W .i64 (1 * 2 ^ (min (x10).toNat 64)))) < (t2.length : Int) then (if 0 ≤ x3 then (if x3 < (t1.length : Int) then (some ((W .i64 (((a0.getD (x4).toNat []).getD (x10).toNat 0) + (t2.getD (bOr .i64 x3 (W .i64 (1 * 2 ^ (min (x10).toNat 64)))).toNat 0))) == (t1.getD (x3).toNat 0))) else none) else none) else none) else none) else none) else none) else none) else none) else none) else (some false)) else none).bind (fun x12 => ((if x12 = true then (some x10) else (some x9)).bind (fun x13 => (armillaryref22_Solve.l2 a0 x3 x4 t1 t2 k x13 (W .i64 (x10 + 1))))))) else (some x9))))
def armillaryref22_Solve.l1 (a0 : List (List Int)) : Nat → (List Int) → Int → Int → Option (List Int)
 | 0, _, _, _ => none
 | k + 1, x2, x3, x4 => (if x4 < (a0.length : Int) then (((armillaryref22_Best.f k a0 x4).bind fun t1 => ((armillaryref22_Best.f k a0 (W .i64 (x4 + 1))).bind fun t2 => ((armillaryref22_Solve.l2 a0 x3 x4 t1 t2 k (-1) 0).bind (armillaryref22_Solve.k4 x2 x3)))).bind (fun (x5, x6) => (armillaryref22_Solve.l1 a0 k x5 x6 (W .i64 (x4 + 1))))) else (some x2))
def armillaryref22_Solve.f (k : Nat) (a0 : List (List Int)) : Option (List Int) := ((armillaryref22_Solve.l1 a0 k ([] : List Int) 0 0).bind (armillaryref22_Solve.k1))
def armillaryref22_Solve.Post (I : Imm) (w : World) (r : List Int) (v : Value) (w' : World) : Prop :=
 ∃ (J : Imm) (A0 : Option Addr) (c0 : Nat) (cs0 : List Value), v = .slice A0 r.length c0 ∧ Got w w' I J [orow 3 1 A0 r.length c0 cs0] ∧ Reps (Ty.int .i64) J r cs0
noncomputable def a18_40n : List Nat := [0, 0, 3, 7, 15, 31, 63, 63, 255, 511, 63, 2047, 4095, 63, 63, 63, 32831, 114751, 254015, 516159, 1048575, 63, 63, 6291519, 14680127, 33554431, 67108863]
theorem a18_40 : ancs O18_40 [] = a18_40n := by kernel_rfl
theorem a18_40o : drawOk O18_40 a18_40n 25 = true := by kernel_rfl
noncomputable def u18d1l  : List Ld :=
 []
noncomputable def u18d1g (x3 : Int) (x4 : Int) (x10 : Int) (g1_ : Nat) (o1_ : Nat) (g2_ : Nat) (o2_ : Nat) (g3_ : Nat) (g4_ : Nat) : List (Nat × ((Nat → Wt) → Value)) := [(2, fun u => i6 (Int.fdiv x3 (2 ^ (min (x10).toNat 64)))), (5, fun u => .bool true), (8, fun u => pt g1_ (o1_ + (x4).toNat * 1)), (11, fun u => pt g2_ (o2_ + (x10).toNat * 1)), (16, fun u => i6 (W .i64 (1 * 2 ^ (min (x10).toNat 64)))), (18, fun u => pt g3_ (0 + (bOr .i64 x3 (W .i64 (1 * 2 ^ (min (x10).toNat 64)))).toNat * 1)), (23, fun u => pt g4_ (0 + (x3).toNat * 1))]
noncomputable def u18d1q (a0 : List (List Int)) (Ap0 : Option Addr) (cp0 : Nat) (x2 : List Int) (A2 : Option Addr) (c2 : Nat) (x3 : Int) (x4 : Int) (t1 : List Int) (A4 : Option Addr) (c4 : Nat) (t2 : List Int) (A5 : Option Addr) (c5 : Nat) (x9 : Int) (x10 : Int) (x11 : Bool) (A1_ : Option Addr) (c1_ : Nat) (g1_ : Nat) (o1_ : Nat) (g2_ : Nat) (o2_ : Nat) (g3_ : Nat) (g4_ : Nat) (u : Nat → Wt) : Option (List Value × List (Nat × Value) × List (Nat × Nat)) := qSim Try.prog [(⟨g1_, o1_ + (x4).toNat * 1, none⟩, .slice A1_ ((a0.getD (x4).toNat []).length) c1_), (⟨g2_, o2_ + (x10).toNat * 1, none⟩, i6 ((a0.getD (x4).toNat []).getD (x10).toNat 0)), (⟨g3_, 0 + (bOr .i64 x3 (W .i64 (1 * 2 ^ (min (x10).toNat 64)))).toNat * 1, none⟩, i6 (t2.getD (bOr .i64 x3 (W .i64 (1 * 2 ^ (min (x10).toNat 64)))).toNat 0)), (⟨g4_, 0 + (x3).toNat * 1, none⟩, i6 (t1.getD (x3).toNat 0))] [] O18_40 ⟨76, []⟩ (Ld.vl u18d1l) (u18d1g x3 x4 x10 g1_ o1_ g2_ o2_ g3_ g4_) u [.no, .no, .no, .no, .no, .no, .no, .no, .no, .r 0, .no, .no, .r 1, .no, .no, .no, .no, .no, .no, .r 2, .no, .no, .no, .no, .r 3] 0 (O18_40.take 25) [(0, .slice Ap0 a0.length cp0), (3, .slice A2 x2.length c2), (4, i6 x3), (5, i6 x4), (6, .slice A4 t1.length c4), (7, .slice A5 t2.length c5), (8, i6 x9), (9, i6 x10), (34, .bool x11)]
noncomputable def u18d1s (a0 : List (List Int)) (Ap0 : Option Addr) (cp0 : Nat) (x3 : Int) (x4 : Int) (t1 : List Int) (A4 : Option Addr) (c4 : Nat) (t2 : List Int) (A5 : Option Addr) (c5 : Nat) (x10 : Int) (A1_ : Option Addr) (c1_ : Nat) (g1_ : Nat) (o1_ : Nat) (g2_ : Nat) (o2_ : Nat) (g3_ : Nat) (g4_ : Nat) (u : Nat → Wt) : List Value := [i6 x3, i6 x10, i6 (Int.fdiv x3 (2 ^ (min (x10).toNat 64))), i6 (bAnd .i64 (Int.fdiv x3 (2 ^ (min (x10).toNat 64))) 1), .bool ((bAnd .i64 (Int.fdiv x3 (2 ^ (min (x10).toNat 64))) 1) == 0), .bool true, .slice Ap0 a0.length cp0, i6 x4, pt g1_ (o1_ + (x4).toNat * 1), .slice A1_ ((a0.getD (x4).toNat []).length) c1_, i6 x10, pt g2_ (o2_ + (x10).toNat * 1), i6 ((a0.getD (x4).toNat []).getD (x10).toNat 0), .slice A5 t2.length c5, i6 x3, i6 x10, i6 (W .i64 (1 * 2 ^ (min (x10).toNat 64))), i6 (bOr .i64 x3 (W .i64 (1 * 2 ^ (min (x10).toNat 64)))), pt g3_ (0 + (bOr .i64 x3 (W .i64 (1 * 2 ^ (min (x10).toNat 64)))).toNat * 1), i6 (t2.getD (bOr .i64 x3 (W .i64 (1 * 2 ^ (min (x10).toNat 64)))).toNat 0), i6 (W .i64 (((a0.getD (x4).toNat []).getD (x10).toNat 0) + (t2.getD (bOr .i64 x3 (W .i64 (1 * 2 ^ (min (x10).toNat 64)))).toNat 0))), .slice A4 t1.length c4, i6 x3, pt g4_ (0 + (x3).toNat * 1), i6 (t1.getD (x3).toNat 0)]
noncomputable def u18d1f (a0 : List (List Int)) (Ap0 : Option Addr) (cp0 : Nat) (x2 : List Int) (A2 : Option Addr) (c2 : Nat) (x3 : Int) (x4 : Int) (t1 : List Int) (A4 : Option Addr) (c4 : Nat) (t2 : List Int) (A5 : Option Addr) (c5 : Nat) (x9 : Int) (x10 : Int) (x11 : Bool) (A1_ : Option Addr) (c1_ : Nat) (g1_ : Nat) (o1_ : Nat) (g2_ : Nat) (o2_ : Nat) (g3_ : Nat) (g4_ : Nat) (i : Nat) (u : Nat → Wt) : List (Nat × Value) := foldPut ⟨76, []⟩ [(0, .slice Ap0 a0.length cp0), (3, .slice A2 x2.length c2), (4, i6 x3), (5, i6 x4), (6, .slice A4 t1.length c4), (7, .slice A5 t2.length c5), (8, i6 x9), (9, i6 x10), (34, .bool x11)] (O18_40.take i) (((u18d1s a0 Ap0 cp0 x3 x4 t1 A4 c4 t2 A5 c5 x10 A1_ c1_ g1_ o1_ g2_ o2_ g3_ g4_) u).take i)
theorem u18d1v (a0 : List (List Int)) (Ap0 : Option Addr) (cp0 : Nat) (x2 : List Int) (A2 : Option Addr) (c2 : Nat) (x3 : Int) (x4 : Int) (t1 : List Int) (A4 : Option Addr) (c4 : Nat) (t2 : List Int) (A5 : Option Addr) (c5 : Nat) (x9 : Int) (x10 : Int) (x11 : Bool) (A1_ : Option Addr) (c1_ : Nat) (g1_ : Nat) (o1_ : Nat) (g2_ : Nat) (o2_ : Nat) (g3_ : Nat) (g4_ : Nat) (u : Nat → Wt) : (u18d1q a0 Ap0 cp0 x2 A2 c2 x3 x4 t1 A4 c4 t2 A5 c5 x9 x10 x11 A1_ c1_ g1_ o1_ g2_ o2_ g3_ g4_ u).map (fun x => (x.1, x.2.1)) = some ((u18d1s a0 Ap0 cp0 x3 x4 t1 A4 c4 t2 A5 c5 x10 A1_ c1_ g1_ o1_ g2_ o2_ g3_ g4_) u, (u18d1f a0 Ap0 cp0 x2 A2 c2 x3 x4 t1 A4 c4 t2 A5 c5 x9 x10 x11 A1_ c1_ g1_ o1_ g2_ o2_ g3_ g4_ 25) u) := by kernel_rfl
theorem u18d1e (a0 : List (List Int)) (Ap0 : Option Addr) (cp0 : Nat) (x2 : List Int) (A2 : Option Addr) (c2 : Nat) (x3 : Int) (x4 : Int) (t1 : List Int) (A4 : Option Addr) (c4 : Nat) (t2 : List Int) (A5 : Option Addr) (c5 : Nat) (x9 : Int) (x10 : Int) (x11 : Bool) (A1_ : Option Addr) (c1_ : Nat) (g1_ : Nat) (o1_ : Nat) (g2_ : Nat) (o2_ : Nat) (g3_ : Nat) (g4_ : Nat) (u : Nat → Wt) : (u18d1q a0 Ap0 cp0 x2 A2 c2 x3 x4 t1 A4 c4 t2 A5 c5 x9 x10 x11 A1_ c1_ g1_ o1_ g2_ o2_ g3_ g4_ u).map (fun x => x.2.2.map (·.1)) = (u18d1q a0 Ap0 cp0 x2 A2 c2 x3 x4 t1 A4 c4 t2 A5 c5 x9 x10 x11 A1_ c1_ g1_ o1_ g2_ o2_ g3_ g4_ u).map (fun x => x.2.2.map (·.2)) := by kernel_rfl
noncomputable def u18d2l  : List Ld :=
 []
noncomputable def u18d2g (x3 : Int) (x10 : Int) : List (Nat × ((Nat → Wt) → Value)) := [(2, fun u => i6 (Int.fdiv x3 (2 ^ (min (x10).toNat 64)))), (5, fun u => .bool false)]
noncomputable def u18d2q (a0 : List (List Int)) (Ap0 : Option Addr) (cp0 : Nat) (x2 : List Int) (A2 : Option Addr) (c2 : Nat) (x3 : Int) (x4 : Int) (t1 : List Int) (A4 : Option Addr) (c4 : Nat) (t2 : List Int) (A5 : Option Addr) (c5 : Nat) (x9 : Int) (x10 : Int) (x11 : Bool) (u : Nat → Wt) : Option (List Value × List (Nat × Value) × List (Nat × Nat)) := qSim Try.prog [] [] O18_40 ⟨76, []⟩ (Ld.vl u18d2l) (u18d2g x3 x10) u [.no, .no, .no, .no, .no, .no, .no, .no, .no, .no, .no, .no, .no, .no, .no, .no, .no, .no, .no, .no, .no, .no, .no, .no, .no] 0 (O18_40.take 25) [(0, .slice Ap0 a0.length cp0), (3, .slice A2 x2.length c2), (4, i6 x3), (5, i6 x4), (6, .slice A4 t1.length c4), (7, .slice A5 t2.length c5), (8, i6 x9), (9, i6 x10), (34, .bool x11)]
noncomputable def u18d2s (x3 : Int) (x10 : Int) (u : Nat → Wt) : List Value := [i6 x3, i6 x10, i6 (Int.fdiv x3 (2 ^ (min (x10).toNat 64))), i6 (bAnd .i64 (Int.fdiv x3 (2 ^ (min (x10).toNat 64))) 1), .bool ((bAnd .i64 (Int.fdiv x3 (2 ^ (min (x10).toNat 64))) 1) == 0), .bool false, undef, undef, undef, undef, undef, undef, undef, undef, undef, undef, undef, undef, undef, undef, undef, undef, undef, undef, undef]
noncomputable def u18d2f (a0 : List (List Int)) (Ap0 : Option Addr) (cp0 : Nat) (x2 : List Int) (A2 : Option Addr) (c2 : Nat) (x3 : Int) (x4 : Int) (t1 : List Int) (A4 : Option Addr) (c4 : Nat) (t2 : List Int) (A5 : Option Addr) (c5 : Nat) (x9 : Int) (x10 : Int) (x11 : Bool) (i : Nat) (u : Nat → Wt) : List (Nat × Value) := foldPut ⟨76, []⟩ [(0, .slice Ap0 a0.length cp0), (3, .slice A2 x2.length c2), (4, i6 x3), (5, i6 x4), (6, .slice A4 t1.length c4), (7, .slice A5 t2.length c5), (8, i6 x9), (9, i6 x10), (34, .bool x11)] (O18_40.take i) (((u18d2s x3 x10) u).take i)
theorem u18d2v (a0 : List (List Int)) (Ap0 : Option Addr) (cp0 : Nat) (x2 : List Int) (A2 : Option Addr) (c2 : Nat) (x3 : Int) (x4 : Int) (t1 : List Int) (A4 : Option Addr) (c4 : Nat) (t2 : List Int) (A5 : Option Addr) (c5 : Nat) (x9 : Int) (x10 : Int) (x11 : Bool) (u : Nat → Wt) : (u18d2q a0 Ap0 cp0 x2 A2 c2 x3 x4 t1 A4 c4 t2 A5 c5 x9 x10 x11 u).map (fun x => (x.1, x.2.1)) = some ((u18d2s x3 x10) u, (u18d2f a0 Ap0 cp0 x2 A2 c2 x3 x4 t1 A4 c4 t2 A5 c5 x9 x10 x11 25) u) := by kernel_rfl
theorem u18d2e (a0 : List (List Int)) (Ap0 : Option Addr) (cp0 : Nat) (x2 : List Int) (A2 : Option Addr) (c2 : Nat) (x3 : Int) (x4 : Int) (t1 : List Int) (A4 : Option Addr) (c4 : Nat) (t2 : List Int) (A5 : Option Addr) (c5 : Nat) (x9 : Int) (x10 : Int) (x11 : Bool) (u : Nat → Wt) : (u18d2q a0 Ap0 cp0 x2 A2 c2 x3 x4 t1 A4 c4 t2 A5 c5 x9 x10 x11 u).map (fun x => x.2.2.map (·.1)) = (u18d2q a0 Ap0 cp0 x2 A2 c2 x3 x4 t1 A4 c4 t2 A5 c5 x9 x10 x11 u).map (fun x => x.2.2.map (·.2)) := by kernel_rfl
theorem armillaryref22_Solve.calls (k : Nat) (I0 : Imm) (a0 : List (List Int)) (Ap0 : Option Addr) (cp0 : Nat) (w : World) (hI : I0.at_ w) (hlp0 : a0.length ≤ cp0) (hrp0 : Rd (Ty.slice (Ty.int .i64)) I0 Ap0 a0) (r : List Int) (h : armillaryref22_Solve.f k a0 = some r) :
  Calls Try.prog 18 [.slice Ap0 a0.length cp0].toArray w fun e w' => ∃ v, e = .returned v ∧ armillaryref22_Solve.Post I0 w r v w' := by
 have H : ((armillaryref22_Solve.l1 a0 k ([] : List Int) 0 0).bind (armillaryref22_Solve.k1)) = some r := h
 clear h
 refine calls_body Try.func18 (by kernel_rfl) 76 (by kernel_rfl) (by kernel_rfl) ⟨w, fun _ => False, I0⟩ I0 [] [(0, .slice Ap0 a0.length cp0)] (by kernel_rfl) (Sat.start w _ I0 hI) ?_
 generalize w.heap.size = nx0
 show OK _ K18_0 _ _ _ _ _ _ _ _
 refine OK.sr ?_
 refine RL.st 1 [(0, .slice Ap0 a0.length cp0)] ?_
 refine OK.sr ?_
 refine RL.spt 3 [(4, i6 0), (3, .slice (some ⟨nx0, 0, none⟩) 0 0), (0, .slice Ap0 a0.length cp0)] (nx0 + 1) [⟨nx0, [], 3⟩] ?_
 refine OK.sq ?_
 refine OK.sr ?_
 refine RL.st 1 [(5, i6 0), (4, i6 0), (3, .slice (some ⟨nx0, 0, none⟩) 0 0), (0, .slice Ap0 a0.length cp0)] ?_
 refine OK.join (fun K' I' _ L' X' => ∃ (x1 : List Int) (A1 : Option Addr) (c1 : Nat) (cs1 : List Value), K' = [(3, .slice A1 x1.length c1)] ∧ L' = [] ∧ X' = [orow 3 1 A1 x1.length c1 cs1] ∧ Imm.le I0 I' ∧ Reps (Ty.int .i64) I' x1 cs1 ∧ armillaryref22_Solve.k1 x1 = some r) ?_ ?_
 ·rintro _ I1 nx1 _ _ ⟨x1, A1, c1, cs1, rfl, rfl, rfl, hi1, hp1, H⟩
  rw [armillaryref22_Solve.k1] at H
  refine QN.then_ ?_
  refine OK.sr ?_
  refine RL.st 2 [(2, .slice A1 x1.length c1)] ?_
  refine OK.re ?_
  obtain rfl := Option.some.inj H
  refine QN.body rfl [] (RFacts.nil _ _ _) (.no) (.slice A1 x1.length c1) (by kernel_rfl) (by kernel_rfl) (by kernel_rfl) ?_ _ (.inr rfl)
  exact fun w' hs' => ⟨_, rfl, I1, A1, c1, cs1, rfl, hs'.got _ (.cons_cons _ .slnil), hp1⟩
 ·intro Q_1 hJ1 hQ1
  obtain ⟨y1, H, HK1⟩ := bnd H
  refine OK.bk 0 ?_
  refine OK.toRow (b := ⟨nx0, [], 3⟩) 0 0 1 (by kernel_rfl) (by kernel_rfl) (by decide) ?_
  have hp7 : Reps (Ty.int .i64) I0 ([] : List Int) [] := rfl
  refine OK.norm (L' := []) (X' := [orow 3 1 (some ⟨nx0, 0, none⟩) (([] : List Int).length) 0 []]) rfl rfl (by kernel_rfl) (by kernel_rfl) ?_
  refine OK.sub (K' := [(0, .slice Ap0 a0.length cp0), (3, .slice (some ⟨nx0, 0, none⟩) 0 0), (4, i6 0), (5, i6 0)]) (L' := []) (by kernel_rfl) .slnil (.refl _) ?_
  refine OK.lp (fun n_ K' I' _ L' X' => ∃ (x2 : List Int) (x3 : Int) (x4 : Int) (A2 : Option Addr) (c2 : Nat) (cs2 : List Value), K' = [(0, .slice Ap0 a0.length cp0), (3, .slice A2 x2.length c2), (4, i6 x3), (5, i6 x4)] ∧ L' = [] ∧ X' = [orow 3 1 A2 x2.length c2 cs2] ∧ Imm.le I0 I' ∧ Reps (Ty.int .i64) I' x2 cs2 ∧ armillaryref22_Solve.l1 a0 n_ x2 x3 x4 = some y1) k ⟨([] : List Int), 0, 0, (some ⟨nx0, 0, none⟩), 0, [], rfl, rfl, rfl, (Imm.le_refl _), hp7, H⟩ ?_ ?_
  ·rintro _ _ _ _ _ ⟨x2, x3, x4, A2, c2, cs2, rfl, rfl, rfl, _, hp2, H⟩
   cases H
  ·rintro kq1 _ I2 nx2 _ _ ⟨x2, x3, x4, A2, c2, cs2, rfl, rfl, rfl, hi2, hp2, H⟩ Q_l1 hJ2 hQ2
   rw [armillaryref22_Solve.l1] at H
   refine OK.sq ?_
   refine OK.sr ?_
   refine RL.st 4 [(14, .bool (decide (x4 < (a0.length : Int)))), (0, .slice Ap0 a0.length cp0), (3, .slice A2 x2.length c2), (4, i6 x3), (5, i6 x4)] ?_
   refine OK.cd (decide (x4 < (a0.length : Int))) (fun hb => ?_) (fun hb => ?_)
   ·skip
    have hc := (of_decide_eq_true hb)
    rw [if_pos hc] at H
    clear hb
    refine OK.skt ?_
    refine OK.sq ?_
    refine OK.join (fun K' I' _ L' X' => ∃ (x5 : List Int) (x6 : Int) (A3 : Option Addr) (c3 : Nat) (cs3 : List Value), K' = [(0, .slice Ap0 a0.length cp0), (3, .slice A3 x5.length c3), (4, i6 x6), (5, i6 x4)] ∧ L' = [] ∧ X' = [orow 3 1 A3 x5.length c3 cs3] ∧ Imm.le I2 I' ∧ Reps (Ty.int .i64) I' x5 cs3 ∧ (armillaryref22_Solve.l1 a0 kq1 x5 x6 (W .i64 (x4 + 1))) = some y1) ?_ ?_
    ·rintro _ I3 nx3 _ _ ⟨x5, x6, A3, c3, cs3, rfl, rfl, rfl, hi3, hp3, H⟩
     replace H : (armillaryref22_Solve.l1 a0 kq1 x5 x6 (W .i64 (x4 + 1))) = some y1 := H
     refine QN.then_ ?_
     refine OK.rg ?_
     refine RL.s 3 [(5, i6 (W .i64 (x4 + 1))), (0, .slice Ap0 a0.length cp0), (3, .slice A3 x5.length c3), (4, i6 x6)] ?_
     refine RL.nil (by kernel_rfl) ?_
     exact QN.sb (hJ2 _ _ _ _ _ ⟨x5, x6, W .i64 (x4 + 1), A3, c3, cs3, rfl, rfl, rfl, (Imm.le_trans hi2 hi3), hp3, H⟩) .slnil (.refl _)
    ·intro Q_2 hJ3 hQ3
     obtain ⟨y2, H, HK2⟩ := bnd H
     refine OK.bk 1 ?_
     refine OK.sr ?_
     refine RL.s 2 [(18, i6 x4), (17, .slice Ap0 a0.length cp0), (0, .slice Ap0 a0.length cp0), (3, .slice A2 x2.length c2), (4, i6 x3), (5, i6 x4)] ?_
     obtain ⟨t1, hA1, H⟩ := bnd H
     refine RL.callP 24 [.slice Ap0 a0.length cp0, i6 x4] (some 19) (fun w => armillaryref22_Best.Post I2 w t1) (by kernel_rfl) (by kernel_rfl) (fun w hs => armillaryref22_Best.calls kq1 I2 a0 Ap0 cp0 x4 w hs.im hlp0 (Rd.ext hi2 hrp0) t1 hA1) ?_
     rintro w v w' hs ⟨I4, A4, c4, cs4, rfl, hg, hp4⟩
     have hi4 := hg.le
     refine RL.resume (X' := [orow 3 1 A2 x2.length c2 cs2, orow 2 1 A4 t1.length c4 cs4]) rfl (hs.call hg) ?_
     clear hs hg
     generalize w'.heap.size = nx4
     clear w w'
     refine RL.s 3 [(22, i6 (W .i64 (x4 + 1))), (20, .slice Ap0 a0.length cp0), (19, .slice A4 t1.length c4), (0, .slice Ap0 a0.length cp0), (3, .slice A2 x2.length c2), (4, i6 x3), (5, i6 x4)] ?_
     obtain ⟨t2, hA2, H⟩ := bnd H
     refine RL.callP 24 [.slice Ap0 a0.length cp0, i6 (W .i64 (x4 + 1))] (some 23) (fun w => armillaryref22_Best.Post I4 w t2) (by kernel_rfl) (by kernel_rfl) (fun w hs => armillaryref22_Best.calls kq1 I4 a0 Ap0 cp0 (W .i64 (x4 + 1)) w hs.im hlp0 (Rd.ext (Imm.le_trans hi2 hi4) hrp0) t2 hA2) ?_
     rintro w v w' hs ⟨I5, A5, c5, cs5, rfl, hg, hp5⟩
     have hi5 := hg.le
     refine RL.resume (X' := [orow 3 1 A2 x2.length c2 cs2, orow 2 1 A4 t1.length c4 cs4, orow 2 1 A5 t2.length c5 cs5]) rfl (hs.call hg) ?_
     clear hs hg
     generalize w'.heap.size = nx5
     clear w w'
     refine RL.st 3 [(8, i6 (-1)), (7, .slice A5 t2.length c5), (6, .slice A4 t1.length c4), (0, .slice Ap0 a0.length cp0), (3, .slice A2 x2.length c2), (4, i6 x3), (5, i6 x4)] ?_
     refine OK.sq ?_
     refine OK.sr ?_
     refine RL.st 1 [(9, i6 0), (8, i6 (-1)), (7, .slice A5 t2.length c5), (6, .slice A4 t1.length c4), (0, .slice Ap0 a0.length cp0), (3, .slice A2 x2.length c2), (4, i6 x3), (5, i6 x4)] ?_
     refine OK.join (fun K' I' _ L' X' => ∃ (x7 : Int), K' = [(0, .slice Ap0 a0.length cp0), (3, .slice A2 x2.length c2), (4, i6 x3), (5, i6 x4), (8, i6 x7)] ∧ L' = [] ∧ X' = [orow 3 1 A2 x2.length c2 cs2] ∧ Imm.le I5 I' ∧ armillaryref22_Solve.k4 x2 x3 x7 = some y2) ?_ ?_
     ·rintro _ I6 nx6 _ _ ⟨x7, rfl, rfl, rfl, hi6, H⟩
      rw [armillaryref22_Solve.k4] at H
      refine QN.then_ ?_
      refine OK.sq ?_
      refine OK.sr ?_
      refine RL.st 2 [(66, .bool (decide (x7 ≥ 0))), (0, .slice Ap0 a0.length cp0), (3, .slice A2 x2.length c2), (4, i6 x3), (5, i6 x4), (8, i6 x7)] ?_
      refine OK.join (fun K' I' _ L' X' => ∃ (x8 : Int), K' = [(0, .slice Ap0 a0.length cp0), (3, .slice A2 x2.length c2), (4, i6 x8), (5, i6 x4), (8, i6 x7)] ∧ L' = [] ∧ X' = [orow 3 1 A2 x2.length c2 cs2] ∧ Imm.le I6 I' ∧ armillaryref22_Solve.k3 x2 x7 x8 = some y2) ?_ ?_
      ·rintro _ I7 nx7 _ _ ⟨x8, rfl, rfl, rfl, hi7, H⟩
       rw [armillaryref22_Solve.k3] at H
       refine QN.then_ ?_
       refine OK.rg ?_
       refine RL.sp 3 [(73, .slice (some ⟨nx7, 0, none⟩) 1 1), (71, .slice A2 x2.length c2), (0, .slice Ap0 a0.length cp0), (3, .slice A2 x2.length c2), (4, i6 x8), (5, i6 x4)] (nx7 + 1) [⟨nx7, [i6 x7], 3⟩] ?_
       obtain ⟨hz1, H⟩ := ifs H
       refine RL.appendB (T := 23) (e := 3) (S := A2) 1 8 23 c2 0 1 nx7 3 cs2 [i6 x7] (Ty.int .i64) x2 [x7] 0 (some 74) (by kernel_rfl) (by kernel_rfl) (by kernel_rfl) (by kernel_rfl) (by kernel_rfl) (by decide) (by kernel_rfl) (Reps.ext (Imm.le_trans (Imm.le_trans (Imm.le_trans hi4 hi5) hi6) hi7) hp2) (by kernel_rfl) ⟨_, _, rfl, rfl, rfl⟩ hz1 (by omega) (fun A6 c6 nx8 cs6 hp6 => ?_)
       refine RL.sub (K' := [(74, .slice A6 ((x2 ++ [x7]).length) c6), (73, .slice (some ⟨nx7, 0, none⟩) 1 1), (0, .slice Ap0 a0.length cp0), (4, i6 x8), (5, i6 x4)]) (L' := [⟨nx7, [i6 x7], 3⟩]) (X' := [orow 3 1 A6 ((x2 ++ [x7]).length) c6 cs6]) (by kernel_rfl) (.refl _) (.refl _) ?_
       refine RL.s 1 [(3, .slice A6 ((x2 ++ [x7]).length) c6), (0, .slice Ap0 a0.length cp0), (4, i6 x8), (5, i6 x4)] ?_
       refine RL.nil (by kernel_rfl) ?_
       refine QN.blkN ?_
       obtain rfl := Option.some.inj H
       exact QN.sb (hJ3 _ _ _ _ _ ⟨(x2 ++ [x7]), x8, A6, c6, cs6, rfl, rfl, rfl, (Imm.le_trans (Imm.le_trans (Imm.le_trans hi4 hi5) hi6) hi7), hp6, HK2⟩) (.cons _ .slnil) (.refl _)
      ·intro Q_3 hJ5 hQ5
       obtain ⟨y4, H, HK4⟩ := bnd H
       refine OK.cd (decide (x7 ≥ 0)) (fun hb => ?_) (fun hb => ?_)
       ·skip
        have hc := (of_decide_eq_true hb)
        rw [if_pos hc] at H
        clear hb
        refine OK.rg ?_
        refine RL.s 2 [(68, i6 x7), (67, i6 x3), (0, .slice Ap0 a0.length cp0), (3, .slice A2 x2.length c2), (4, i6 x3), (5, i6 x4), (8, i6 x7)] ?_
        obtain ⟨hc, H⟩ := ifs H
        refine RL.shl .i64 .i64 1 x7 (some 69) (by kernel_rfl) (by kernel_rfl) hc (K' := [(69, i6 (W .i64 (1 * 2 ^ (min (x7).toNat 64)))), (68, i6 x7), (67, i6 x3), (0, .slice Ap0 a0.length cp0), (3, .slice A2 x2.length c2), (4, i6 x3), (5, i6 x4), (8, i6 x7)]) (by kernel_rfl) ?_
        refine RL.s 2 [(4, i6 (bOr .i64 x3 (W .i64 (1 * 2 ^ (min (x7).toNat 64))))), (0, .slice Ap0 a0.length cp0), (3, .slice A2 x2.length c2), (5, i6 x4), (8, i6 x7)] ?_
        refine RL.nil (by kernel_rfl) ?_
        obtain rfl := Option.some.inj H
        exact QN.sb (hJ5 _ _ _ _ _ ⟨bOr .i64 x3 (W .i64 (1 * 2 ^ (min (x7).toNat 64))), rfl, rfl, rfl, (Imm.le_refl _), HK4⟩) .slnil (.refl _)
       ·skip
        have hc := (of_decide_eq_false hb)
        rw [if_neg hc] at H
        clear hb
        refine OK.sk ?_
        obtain rfl := Option.some.inj H
        exact QN.sb (hJ5 _ _ _ _ _ ⟨x3, rfl, rfl, rfl, (Imm.le_refl _), HK4⟩) .slnil (.refl _)
     ·intro Q_4 hJ4 hQ4
      obtain ⟨y3, H, HK3⟩ := bnd H
      refine OK.bk 2 ?_
      refine OK.sub (K' := [(0, .slice Ap0 a0.length cp0), (3, .slice A2 x2.length c2), (4, i6 x3), (5, i6 x4), (6, .slice A4 t1.length c4), (7, .slice A5 t2.length c5), (8, i6 (-1)), (9, i6 0)]) (L' := []) (by kernel_rfl) .slnil (.refl _) ?_
      refine OK.lp (fun n_ K' I' _ L' X' => ∃ (x9 : Int) (x10 : Int), K' = [(0, .slice Ap0 a0.length cp0), (3, .slice A2 x2.length c2), (4, i6 x3), (5, i6 x4), (6, .slice A4 t1.length c4), (7, .slice A5 t2.length c5), (8, i6 x9), (9, i6 x10)] ∧ L' = [] ∧ X' = [orow 3 1 A2 x2.length c2 cs2, orow 2 1 A4 t1.length c4 cs4, orow 2 1 A5 t2.length c5 cs5] ∧ Imm.le I5 I' ∧ armillaryref22_Solve.l2 a0 x3 x4 t1 t2 n_ x9 x10 = some y3) kq1 ⟨(-1), 0, rfl, rfl, rfl, (Imm.le_refl _), H⟩ ?_ ?_
      ·rintro _ _ _ _ _ ⟨x9, x10, rfl, rfl, rfl, _, H⟩
       cases H
      ·rintro kq2 _ I8 nx9 _ _ ⟨x9, x10, rfl, rfl, rfl, hi8, H⟩ Q_l2 hJ6 hQ6
       rw [armillaryref22_Solve.l2] at H
       refine OK.sq ?_
       refine OK.sq ?_
       refine OK.join (fun K' I' _ L' X' => ∃ (x11 : Bool), K' = [(0, .slice Ap0 a0.length cp0), (3, .slice A2 x2.length c2), (4, i6 x3), (5, i6 x4), (6, .slice A4 t1.length c4), (7, .slice A5 t2.length c5), (8, i6 x9), (9, i6 x10), (34, .bool x11)] ∧ L' = [] ∧ X' = [orow 3 1 A2 x2.length c2 cs2, orow 2 1 A4 t1.length c4 cs4, orow 2 1 A5 t2.length c5 cs5] ∧ Imm.le I8 I' ∧ (if x11 = true then ((if 0 ≤ x10 then (if (bAnd .i64 (Int.fdiv x3 (2 ^ (min (x10).toNat 64))) 1) = 0 then (if 0 ≤ x4 then (if x4 < (a0.length : Int) then (if 0 ≤ x10 then (if x10 < ((a0.getD (x4).toNat []).length : Int) then (if 0 ≤ x10 then (if 0 ≤ (bOr .i64 x3 (W .i64 (1 * 2 ^ (min (x10).toNat 64)))) then (if (bOr .i64 x3 (W .i64 (1 * 2 ^ (min (x10).toNat 64)))) < (t2.length : Int) then (if 0 ≤ x3 then (if x3 < (t1.length : Int) then (some ((W .i64 (((a0.getD (x4).toNat []).getD (x10).toNat 0) + (t2.getD (bOr .i64 x3 (W .i64 (1 * 2 ^ (min (x10).toNat 64)))).toNat 0))) == (t1.getD (x3).toNat 0))) else none) else none) else none) else none) else none) else none) else none) else none) else none) else (some false)) else none).bind (fun x12 => ((if x12 = true then (some x10) else (some x9)).bind (fun x13 => (armillaryref22_Solve.l2 a0 x3 x4 t1 t2 kq2 x13 (W .i64 (x10 + 1))))))) else (some x9)) = some y3) ?_ ?_
       ·rintro _ I9 nx10 _ _ ⟨x11, rfl, rfl, rfl, hi9, H⟩
        replace H : (if x11 = true then ((if 0 ≤ x10 then (if (bAnd .i64 (Int.fdiv x3 (2 ^ (min (x10).toNat 64))) 1) = 0 then (if 0 ≤ x4 then (if x4 < (a0.length : Int) then (if 0 ≤ x10 then (if x10 < ((a0.getD (x4).toNat []).length : Int) then (if 0 ≤ x10 then (if 0 ≤ (bOr .i64 x3 (W .i64 (1 * 2 ^ (min (x10).toNat 64)))) then (if (bOr .i64 x3 (W .i64 (1 * 2 ^ (min (x10).toNat 64)))) < (t2.length : Int) then (if 0 ≤ x3 then (if x3 < (t1.length : Int) then (some ((W .i64 (((a0.getD (x4).toNat []).getD (x10).toNat 0) + (t2.getD (bOr .i64 x3 (W .i64 (1 * 2 ^ (min (x10).toNat 64)))).toNat 0))) == (t1.getD (x3).toNat 0))) else none) else none) else none) else none) else none) else none) else none) else none) else none) else (some false)) else none).bind (fun x12 => ((if x12 = true then (some x10) else (some x9)).bind (fun x13 => (armillaryref22_Solve.l2 a0 x3 x4 t1 t2 kq2 x13 (W .i64 (x10 + 1))))))) else (some x9)) = some y3 := H
        refine QN.then_ ?_
        refine OK.cd x11 (fun hb => ?_) (fun hb => ?_)
        ·skip
         have hc := hb
         rw [if_pos hc] at H
         clear hb
         refine OK.skt ?_
         refine OK.sq ?_
         refine OK.bk 3 ?_
         refine OK.sq ?_
         refine OK.join (fun K' I' _ L' X' => ∃ (x12 : Bool), K' = [(0, .slice Ap0 a0.length cp0), (3, .slice A2 x2.length c2), (4, i6 x3), (5, i6 x4), (6, .slice A4 t1.length c4), (7, .slice A5 t2.length c5), (8, i6 x9), (9, i6 x10), (63, .bool x12)] ∧ L' = [] ∧ X' = [orow 3 1 A2 x2.length c2 cs2, orow 2 1 A4 t1.length c4 cs4, orow 2 1 A5 t2.length c5 cs5] ∧ Imm.le I9 I' ∧ ((if x12 = true then (some x10) else (some x9)).bind (fun x13 => (armillaryref22_Solve.l2 a0 x3 x4 t1 t2 kq2 x13 (W .i64 (x10 + 1))))) = some y3) ?_ ?_
         ·rintro _ I10 nx11 _ _ ⟨x12, rfl, rfl, rfl, hi10, H⟩
          replace H : ((if x12 = true then (some x10) else (some x9)).bind (fun x13 => (armillaryref22_Solve.l2 a0 x3 x4 t1 t2 kq2 x13 (W .i64 (x10 + 1))))) = some y3 := H
          refine QN.then_ ?_
          refine OK.join (fun K' I' _ L' X' => ∃ (x13 : Int), K' = [(0, .slice Ap0 a0.length cp0), (3, .slice A2 x2.length c2), (4, i6 x3), (5, i6 x4), (6, .slice A4 t1.length c4), (7, .slice A5 t2.length c5), (8, i6 x13), (9, i6 x10)] ∧ L' = [] ∧ X' = [orow 3 1 A2 x2.length c2 cs2, orow 2 1 A4 t1.length c4 cs4, orow 2 1 A5 t2.length c5 cs5] ∧ Imm.le I10 I' ∧ (armillaryref22_Solve.l2 a0 x3 x4 t1 t2 kq2 x13 (W .i64 (x10 + 1))) = some y3) ?_ ?_
          ·rintro _ I11 nx12 _ _ ⟨x13, rfl, rfl, rfl, hi11, H⟩
           replace H : (armillaryref22_Solve.l2 a0 x3 x4 t1 t2 kq2 x13 (W .i64 (x10 + 1))) = some y3 := H
           refine QN.blkN ?_
           refine QN.then_ ?_
           refine OK.rg ?_
           refine RL.s 3 [(9, i6 (W .i64 (x10 + 1))), (0, .slice Ap0 a0.length cp0), (3, .slice A2 x2.length c2), (4, i6 x3), (5, i6 x4), (6, .slice A4 t1.length c4), (7, .slice A5 t2.length c5), (8, i6 x13)] ?_
           refine RL.nil (by kernel_rfl) ?_
           exact QN.sb (hJ6 _ _ _ _ _ ⟨x13, W .i64 (x10 + 1), rfl, rfl, rfl, (Imm.le_trans (Imm.le_trans (Imm.le_trans hi8 hi9) hi10) hi11), H⟩) .slnil (.refl _)
          ·intro Q_5 hJ9 hQ9
           obtain ⟨y7, H, HK7⟩ := bnd H
           refine OK.cd x12 (fun hb => ?_) (fun hb => ?_)
           ·skip
            have hc := hb
            rw [if_pos hc] at H
            clear hb
            refine OK.rg ?_
            refine RL.s 2 [(8, i6 x10), (0, .slice Ap0 a0.length cp0), (3, .slice A2 x2.length c2), (4, i6 x3), (5, i6 x4), (6, .slice A4 t1.length c4), (7, .slice A5 t2.length c5), (9, i6 x10)] ?_
            refine RL.nil (by kernel_rfl) ?_
            obtain rfl := Option.some.inj H
            exact QN.sb (hJ9 _ _ _ _ _ ⟨x10, rfl, rfl, rfl, (Imm.le_refl _), HK7⟩) .slnil (.refl _)
           ·skip
            have hc := (Bool.eq_false_iff.1 hb)
            rw [if_neg hc] at H
            clear hb
            refine OK.sk ?_
            obtain rfl := Option.some.inj H
            exact QN.sb (hJ9 _ _ _ _ _ ⟨x9, rfl, rfl, rfl, (Imm.le_refl _), HK7⟩) .slnil (.refl _)
         ·intro Q_6 hJ8 hQ8
          obtain ⟨y6, H, HK6⟩ := bnd H
          obtain ⟨hc1, H⟩ := ifs H
          refine OK.cases ((bAnd .i64 (Int.fdiv x3 (2 ^ (min (x10).toNat 64))) 1) == 0) (fun hb1 => ?_) (fun hb1 => ?_)
          ·have hc2 := (beq_iff_eq.1 hb1)
           rw [if_pos hc2] at H
           obtain ⟨hi0_1, H⟩ := ifs H
           obtain ⟨hi1_1, H⟩ := ifs H
           obtain ⟨g1_, o1_, hA1_, A1_, c1_, hl1_, hr1_, hc1_⟩ := Ty.slice_at (Rd.ext (Imm.le_trans (Imm.le_trans (Imm.le_trans (Imm.le_trans hi2 hi4) hi5) hi8) hi9) hrp0) x4 hi0_1 hi1_1
           obtain ⟨hi0_2, H⟩ := ifs H
           obtain ⟨hi1_2, H⟩ := ifs H
           obtain ⟨g2_, o2_, hA2_, hc2_⟩ := Ty.int_at hr1_ x10 hi0_2 hi1_2
           obtain ⟨hc3, H⟩ := ifs H
           obtain ⟨hi0_3, H⟩ := ifs H
           obtain ⟨hi1_3, H⟩ := ifs H
           refine OK.ownAddr (e := 2) (sz := 1) (S := A5) (n := t2.length) (cap := c5) (cs := cs5) 2 (by kernel_rfl) (by omega) (fun g3_ hA3_ => ?_)
           have hc3_ := Ty.int_own (Reps.ext (Imm.le_trans hi8 hi9) hp5) (bOr .i64 x3 (W .i64 (1 * 2 ^ (min (x10).toNat 64)))) hi0_3 hi1_3
           have hx03_ := hi0_3; have hx13_ := hi1_3
           obtain ⟨hi0_4, H⟩ := ifs H
           obtain ⟨hi1_4, H⟩ := ifs H
           refine OK.ownAddr (e := 2) (sz := 1) (S := A4) (n := t1.length) (cap := c4) (cs := cs4) 1 (by kernel_rfl) (by omega) (fun g4_ hA4_ => ?_)
           have hc4_ := Ty.int_own (Reps.ext (Imm.le_trans (Imm.le_trans hi5 hi8) hi9) hp4) x3 hi0_4 hi1_4
           have hx04_ := hi0_4; have hx14_ := hi1_4
           refine OK.drawnC 9 25 O18_40 a18_40n (by kernel_rfl) (by kernel_rfl) u18d1l (u18d1g x3 x4 x10 g1_ o1_ g2_ o2_ g3_ g4_) [(⟨g1_, o1_ + (x4).toNat * 1, none⟩, .slice A1_ ((a0.getD (x4).toNat []).length) c1_), (⟨g2_, o2_ + (x10).toNat * 1, none⟩, i6 ((a0.getD (x4).toNat []).getD (x10).toNat 0)), (⟨g3_, 0 + (bOr .i64 x3 (W .i64 (1 * 2 ^ (min (x10).toNat 64)))).toNat * 1, none⟩, i6 (t2.getD (bOr .i64 x3 (W .i64 (1 * 2 ^ (min (x10).toNat 64)))).toNat 0)), (⟨g4_, 0 + (x3).toNat * 1, none⟩, i6 (t1.getD (x3).toNat 0))] (RI.cons (hc1_ 0 _ rfl) (RI.cons (hc2_ 0 _ rfl) (RI.own (e := 2) (sz := 1) (S := A5) (n := t2.length) (cap := c5) (cs := cs5) 2 (by kernel_rfl) hA3_ (0 + (bOr .i64 x3 (W .i64 (1 * 2 ^ (min (x10).toNat 64)))).toNat * 1) ((bOr .i64 x3 (W .i64 (1 * 2 ^ (min (x10).toNat 64)))).toNat * 1 + 0) (by omega) (hc3_ 0 _ rfl) (RI.own (e := 2) (sz := 1) (S := A4) (n := t1.length) (cap := c4) (cs := cs4) 1 (by kernel_rfl) hA4_ (0 + (x3).toNat * 1) ((x3).toNat * 1 + 0) (by omega) (hc4_ 0 _ rfl) (RI.nil _))))) [.no, .no, .no, .no, .no, .no, .no, .no, .no, .r 0, .no, .no, .r 1, .no, .no, .no, .no, .no, .no, .r 2, .no, .no, .no, .no, .r 3] a18_40 a18_40o (by kernel_rfl) (by kernel_rfl) (u18d1s a0 Ap0 cp0 x3 x4 t1 A4 c4 t2 A5 c5 x10 A1_ c1_ g1_ o1_ g2_ o2_ g3_ g4_) (u18d1f a0 Ap0 cp0 x2 A2 c2 x3 x4 t1 A4 c4 t2 A5 c5 x9 x10 x11 A1_ c1_ g1_ o1_ g2_ o2_ g3_ g4_ 25) (u18d1v a0 Ap0 cp0 x2 A2 c2 x3 x4 t1 A4 c4 t2 A5 c5 x9 x10 x11 A1_ c1_ g1_ o1_ g2_ o2_ g3_ g4_) (u18d1e a0 Ap0 cp0 x2 A2 c2 x3 x4 t1 A4 c4 t2 A5 c5 x9 x10 x11 A1_ c1_ g1_ o1_ g2_ o2_ g3_ g4_) [] framesOk.nil ?_ [u18d1f a0 Ap0 cp0 x2 A2 c2 x3 x4 t1 A4 c4 t2 A5 c5 x9 x10 x11 A1_ c1_ g1_ o1_ g2_ o2_ g3_ g4_ 2, u18d1f a0 Ap0 cp0 x2 A2 c2 x3 x4 t1 A4 c4 t2 A5 c5 x9 x10 x11 A1_ c1_ g1_ o1_ g2_ o2_ g3_ g4_ 5, u18d1f a0 Ap0 cp0 x2 A2 c2 x3 x4 t1 A4 c4 t2 A5 c5 x9 x10 x11 A1_ c1_ g1_ o1_ g2_ o2_ g3_ g4_ 8, u18d1f a0 Ap0 cp0 x2 A2 c2 x3 x4 t1 A4 c4 t2 A5 c5 x9 x10 x11 A1_ c1_ g1_ o1_ g2_ o2_ g3_ g4_ 11, u18d1f a0 Ap0 cp0 x2 A2 c2 x3 x4 t1 A4 c4 t2 A5 c5 x9 x10 x11 A1_ c1_ g1_ o1_ g2_ o2_ g3_ g4_ 16, u18d1f a0 Ap0 cp0 x2 A2 c2 x3 x4 t1 A4 c4 t2 A5 c5 x9 x10 x11 A1_ c1_ g1_ o1_ g2_ o2_ g3_ g4_ 18, u18d1f a0 Ap0 cp0 x2 A2 c2 x3 x4 t1 A4 c4 t2 A5 c5 x9 x10 x11 A1_ c1_ g1_ o1_ g2_ o2_ g3_ g4_ 23] (framesOk.cons (fun u => rfl) (framesOk.cons (fun u => rfl) (framesOk.cons (fun u => rfl) (framesOk.cons (fun u => rfl) (framesOk.cons (fun u => rfl) (framesOk.cons (fun u => rfl) (framesOk.cons (fun u => rfl) framesOk.nil))))))) ?_ ?_
           ·refine LoudsG.nil
           ·refine Givens.cons (fun u w =>  ?_) (fun _ _ _ => rfl) (Givens.cons (fun u w =>  ?_) (fun _ _ _ => rfl) (Givens.cons (fun u w =>  ?_) (fun _ _ _ => rfl) (Givens.cons (fun u w =>  ?_) (fun _ _ _ => rfl) (Givens.cons (fun u w =>  ?_) (fun _ _ _ => rfl) (Givens.cons (fun u w =>  ?_) (fun _ _ _ => rfl) (Givens.cons (fun u w =>  ?_) (fun _ _ _ => rfl) (Givens.nil)))))))
            ·exact giv_shr .i64 .i64 x3 x10 (by kernel_rfl) hc1 w
            ·exact giv_run (v := .bool ((bAnd .i64 (Int.fdiv x3 (2 ^ (min (x10).toNat 64))) 1) == 0)) (by kernel_rfl) (by rw [hb1]; try rfl) w
            ·exact giv_idx (T := 22) (e := 24) 1 .i64 x4 hA1_ a0.length cp0 (by kernel_rfl) (by kernel_rfl) (by kernel_rfl) hi0_1 hi1_1 w
            ·exact giv_idx (T := 24) (e := 2) 1 .i64 x10 hA2_ ((a0.getD (x4).toNat []).length) c1_ (by kernel_rfl) (by kernel_rfl) (by kernel_rfl) hi0_2 hi1_2 w
            ·exact giv_shl .i64 .i64 1 x10 (by kernel_rfl) hc3 w
            ·exact giv_idx (T := 24) (e := 2) 1 .i64 (bOr .i64 x3 (W .i64 (1 * 2 ^ (min (x10).toNat 64)))) hA3_ t2.length c5 (by kernel_rfl) (by kernel_rfl) (by kernel_rfl) hi0_3 hi1_3 w
            ·exact giv_idx (T := 24) (e := 2) 1 .i64 x3 hA4_ t1.length c4 (by kernel_rfl) (by kernel_rfl) (by kernel_rfl) hi0_4 hi1_4 w
           intro u I12 nx13 hi12 hF
           clear hF
           refine RL.norm (K' := ((61, i6 (t1.getD (x3).toNat 0)) :: (60, pt g4_ (0 + (x3).toNat * 1)) :: (59, i6 x3) :: (58, .slice A4 t1.length c4) :: (57, i6 (W .i64 (((a0.getD (x4).toNat []).getD (x10).toNat 0) + (t2.getD (bOr .i64 x3 (W .i64 (1 * 2 ^ (min (x10).toNat 64)))).toNat 0)))) :: (56, i6 (t2.getD (bOr .i64 x3 (W .i64 (1 * 2 ^ (min (x10).toNat 64)))).toNat 0)) :: (55, pt g3_ (0 + (bOr .i64 x3 (W .i64 (1 * 2 ^ (min (x10).toNat 64)))).toNat * 1)) :: (54, i6 (bOr .i64 x3 (W .i64 (1 * 2 ^ (min (x10).toNat 64))))) :: (53, i6 (W .i64 (1 * 2 ^ (min (x10).toNat 64)))) :: (52, i6 x10) :: (51, i6 x3) :: (50, .slice A5 t2.length c5) :: (49, i6 ((a0.getD (x4).toNat []).getD (x10).toNat 0)) :: (48, pt g2_ (o2_ + (x10).toNat * 1)) :: (47, i6 x10) :: (46, .slice A1_ ((a0.getD (x4).toNat []).length) c1_) :: (45, pt g1_ (o1_ + (x4).toNat * 1)) :: (44, i6 x4) :: (43, .slice Ap0 a0.length cp0) :: (42, .bool true) :: (41, .bool ((bAnd .i64 (Int.fdiv x3 (2 ^ (min (x10).toNat 64))) 1) == 0)) :: (40, i6 (bAnd .i64 (Int.fdiv x3 (2 ^ (min (x10).toNat 64))) 1)) :: (39, i6 (Int.fdiv x3 (2 ^ (min (x10).toNat 64)))) :: (38, i6 x10) :: (37, i6 x3) :: (0, .slice Ap0 a0.length cp0) :: (3, .slice A2 x2.length c2) :: (4, i6 x3) :: (5, i6 x4) :: (6, .slice A4 t1.length c4) :: (7, .slice A5 t2.length c5) :: (8, i6 x9) :: (9, i6 x10) :: (34, .bool x11) :: [])) (X' := [orow 3 1 A2 x2.length c2 cs2, orow 2 1 A4 t1.length c4 cs4, orow 2 1 A5 t2.length c5 cs5]) (by kernel_rfl) rfl rfl rfl ?_
           refine RL.s 2 [(63, .bool ((W .i64 (((a0.getD (x4).toNat []).getD (x10).toNat 0) + (t2.getD (bOr .i64 x3 (W .i64 (1 * 2 ^ (min (x10).toNat 64)))).toNat 0))) == (t1.getD (x3).toNat 0))), (0, .slice Ap0 a0.length cp0), (3, .slice A2 x2.length c2), (4, i6 x3), (5, i6 x4), (6, .slice A4 t1.length c4), (7, .slice A5 t2.length c5), (8, i6 x9), (9, i6 x10)] ?_
           refine RL.nil (by kernel_rfl) ?_
           obtain rfl := Option.some.inj H
           exact QN.sb (hJ8 _ _ _ _ _ ⟨((W .i64 (((a0.getD (x4).toNat []).getD (x10).toNat 0) + (t2.getD (bOr .i64 x3 (W .i64 (1 * 2 ^ (min (x10).toNat 64)))).toNat 0))) == (t1.getD (x3).toNat 0)), rfl, rfl, rfl, hi12, HK6⟩) .slnil (.refl _)
          ·have hc2 := (beq_eq_false_iff_ne.1 hb1)
           rw [if_neg hc2] at H
           refine OK.drawnC 9 25 O18_40 a18_40n (by kernel_rfl) (by kernel_rfl) u18d2l (u18d2g x3 x10) [] (RI.nil _) [.no, .no, .no, .no, .no, .no, .no, .no, .no, .no, .no, .no, .no, .no, .no, .no, .no, .no, .no, .no, .no, .no, .no, .no, .no] a18_40 a18_40o (by kernel_rfl) (by kernel_rfl) (u18d2s x3 x10) (u18d2f a0 Ap0 cp0 x2 A2 c2 x3 x4 t1 A4 c4 t2 A5 c5 x9 x10 x11 25) (u18d2v a0 Ap0 cp0 x2 A2 c2 x3 x4 t1 A4 c4 t2 A5 c5 x9 x10 x11) (u18d2e a0 Ap0 cp0 x2 A2 c2 x3 x4 t1 A4 c4 t2 A5 c5 x9 x10 x11) [] framesOk.nil ?_ [u18d2f a0 Ap0 cp0 x2 A2 c2 x3 x4 t1 A4 c4 t2 A5 c5 x9 x10 x11 2, u18d2f a0 Ap0 cp0 x2 A2 c2 x3 x4 t1 A4 c4 t2 A5 c5 x9 x10 x11 5] (framesOk.cons (fun u => rfl) (framesOk.cons (fun u => rfl) framesOk.nil)) ?_ ?_
           ·refine LoudsG.nil
           ·refine Givens.cons (fun u w =>  ?_) (fun _ _ _ => rfl) (Givens.cons (fun u w =>  ?_) (fun _ _ _ => rfl) (Givens.nil))
            ·exact giv_shr .i64 .i64 x3 x10 (by kernel_rfl) hc1 w
            ·exact giv_run (v := .bool ((bAnd .i64 (Int.fdiv x3 (2 ^ (min (x10).toNat 64))) 1) == 0)) (by kernel_rfl) (by rw [hb1]; try rfl) w
           intro u I13 nx14 hi13 hF
           clear hF
           refine RL.norm (K' := ((61, undef) :: (60, undef) :: (59, undef) :: (58, undef) :: (57, undef) :: (56, undef) :: (55, undef) :: (54, undef) :: (53, undef) :: (52, undef) :: (51, undef) :: (50, undef) :: (49, undef) :: (48, undef) :: (47, undef) :: (46, undef) :: (45, undef) :: (44, undef) :: (43, undef) :: (42, .bool false) :: (41, .bool ((bAnd .i64 (Int.fdiv x3 (2 ^ (min (x10).toNat 64))) 1) == 0)) :: (40, i6 (bAnd .i64 (Int.fdiv x3 (2 ^ (min (x10).toNat 64))) 1)) :: (39, i6 (Int.fdiv x3 (2 ^ (min (x10).toNat 64)))) :: (38, i6 x10) :: (37, i6 x3) :: (0, .slice Ap0 a0.length cp0) :: (3, .slice A2 x2.length c2) :: (4, i6 x3) :: (5, i6 x4) :: (6, .slice A4 t1.length c4) :: (7, .slice A5 t2.length c5) :: (8, i6 x9) :: (9, i6 x10) :: (34, .bool x11) :: [])) (X' := [orow 3 1 A2 x2.length c2 cs2, orow 2 1 A4 t1.length c4 cs4, orow 2 1 A5 t2.length c5 cs5]) (by kernel_rfl) rfl rfl rfl ?_
           refine RL.s 2 [(63, .bool false), (0, .slice Ap0 a0.length cp0), (3, .slice A2 x2.length c2), (4, i6 x3), (5, i6 x4), (6, .slice A4 t1.length c4), (7, .slice A5 t2.length c5), (8, i6 x9), (9, i6 x10)] ?_
           refine RL.nil (by kernel_rfl) ?_
           obtain rfl := Option.some.inj H
           exact QN.sb (hJ8 _ _ _ _ _ ⟨false, rfl, rfl, rfl, hi13, HK6⟩) .slnil (.refl _)
        ·skip
         have hc := (Bool.eq_false_iff.1 hb)
         rw [if_neg hc] at H
         clear hb
         refine OK.ex 2 ?_
         refine QN.thenE ?_
         refine QN.outE hQ6 ?_
         refine QN.blkE ?_
         obtain rfl := Option.some.inj H
         refine QN.sel (K' := [(0, .slice Ap0 a0.length cp0), (3, .slice A2 x2.length c2), (4, i6 x3), (5, i6 x4), (8, i6 x9)]) (L' := []) [0] (by kernel_rfl) (by kernel_rfl) .slnil ?_
         refine QN.norm (X' := [orow 3 1 A2 x2.length c2 cs2]) rfl rfl rfl (by kernel_rfl) ?_
         exact hJ4 _ _ _ _ _ ⟨x9, rfl, rfl, rfl, (Imm.le_trans hi8 hi9), HK3⟩
       ·intro Q_7 hJ7 hQ7
        obtain ⟨y5, H, HK5⟩ := bnd H
        refine OK.rg ?_
        refine RL.s 3 [(26, i6 x4), (25, .slice Ap0 a0.length cp0), (24, i6 x10), (0, .slice Ap0 a0.length cp0), (3, .slice A2 x2.length c2), (4, i6 x3), (5, i6 x4), (6, .slice A4 t1.length c4), (7, .slice A5 t2.length c5), (8, i6 x9), (9, i6 x10)] ?_
        obtain ⟨hib0, H⟩ := ifs H
        obtain ⟨hib1, H⟩ := ifs H
        obtain ⟨g5_, o5_, hA5_, A5_, c5_, hl5_, hr5_, hc5_⟩ := Ty.slice_at (Rd.ext (Imm.le_trans (Imm.le_trans (Imm.le_trans hi2 hi4) hi5) hi8) hrp0) x4 hib0 hib1
        refine RL.idx 1 .i64 x4 hA5_ a0.length cp0 (some 27) (by kernel_rfl) (by kernel_rfl) (T := 22) (e := 24) (by kernel_rfl) (by kernel_rfl) hib0 hib1 (K' := [(27, pt g5_ (o5_ + (x4).toNat * 1)), (26, i6 x4), (25, .slice Ap0 a0.length cp0), (24, i6 x10), (0, .slice Ap0 a0.length cp0), (3, .slice A2 x2.length c2), (4, i6 x3), (5, i6 x4), (6, .slice A4 t1.length c4), (7, .slice A5 t2.length c5), (8, i6 x9), (9, i6 x10)]) (by kernel_rfl) ?_
        refine RL.simK (K' := [(31, .bool (decide (x10 < ((a0.getD (x4).toNat []).length : Int)))), (0, .slice Ap0 a0.length cp0), (3, .slice A2 x2.length c2), (4, i6 x3), (5, i6 x4), (6, .slice A4 t1.length c4), (7, .slice A5 t2.length c5), (8, i6 x9), (9, i6 x10)]) [(⟨g5_, o5_ + (x4).toNat * 1, none⟩, .slice A5_ ((a0.getD (x4).toNat []).length) c5_)] (RFacts.imm (hc5_ 0 _ rfl) (RFacts.nil _ _ _)) 4 [.r 0, .no, .no, .no] (by kernel_rfl) (by kernel_rfl) ?_
        refine RL.cases (decide (x10 < ((a0.getD (x4).toNat []).length : Int))) (fun hb => ?_) (fun hb => ?_)
        ·have hc := (of_decide_eq_true hb)
         rw [hb]
         rw [if_pos hc] at H; clear hb
         refine RL.s 3 [(34, .bool (decide (x9 < 0))), (0, .slice Ap0 a0.length cp0), (3, .slice A2 x2.length c2), (4, i6 x3), (5, i6 x4), (6, .slice A4 t1.length c4), (7, .slice A5 t2.length c5), (8, i6 x9), (9, i6 x10)] ?_
         refine RL.nil (by kernel_rfl) ?_
         obtain rfl := Option.some.inj H
         exact QN.sb (hJ7 _ _ _ _ _ ⟨(decide (x9 < 0)), rfl, rfl, rfl, (Imm.le_refl _), HK5⟩) .slnil (.refl _)
        ·have hc := (of_decide_eq_false hb)
         rw [hb]
         rw [if_neg hc] at H; clear hb
         refine RL.s 3 [(34, .bool false), (0, .slice Ap0 a0.length cp0), (3, .slice A2 x2.length c2), (4, i6 x3), (5, i6 x4), (6, .slice A4 t1.length c4), (7, .slice A5 t2.length c5), (8, i6 x9), (9, i6 x10)] ?_
         refine RL.nil (by kernel_rfl) ?_
         obtain rfl := Option.some.inj H
         exact QN.sb (hJ7 _ _ _ _ _ ⟨false, rfl, rfl, rfl, (Imm.le_refl _), HK5⟩) .slnil (.refl _)
   ·skip
    have hc := (of_decide_eq_false hb)
    rw [if_neg hc] at H
    clear hb
    refine OK.ex 0 ?_
    refine QN.thenE ?_
    refine QN.outE hQ2 ?_
    refine QN.blkE ?_
    obtain rfl := Option.some.inj H
    exact QN.sb (hJ1 _ _ _ _ _ ⟨x2, A2, c2, cs2, rfl, rfl, rfl, hi2, hp2, HK1⟩) .slnil (.refl _)

end Go.Proofs.Ytdmhbcgmimfjcaa
namespace Go.Proofs.Ytdmhbcgmimfjcaa.hun
open Go Go.Proofs.Ytdmhbcgmimfjcaa Go.Proofs.Ytdmhbcgmimfjcaa.RW
set_option linter.unusedVariables false
set_option maxRecDepth 100000
set_option maxHeartbeats 4000000
section
variable {w : List (List Int)} {m : Nat}
theorem Opt.next {l : List Int} {i : Nat} {V : Int} (hi : i < w.length) (hv : valid w m l) (h : Opt w m (i + 1) (taken (g l) (i + 1)) V) : (g l i = -1 ∧ Opt w m (i + 1) (taken (g l) i) V) ∨ (0 ≤ g l i ∧ g l i < (m : Int) ∧ taken (g l) i (g l i).toNat = false ∧ Opt w m (i + 1) (plus (taken (g l) i) (g l i).toNat) V) := by
  refine (hv.2 i hi).imp (fun e => ⟨e, h.congr fun j hj => ?_⟩) (fun ⟨h1, h2, h3⟩ => ⟨h1, h2, h3, h.congr fun j hj => ?_⟩)
  · rw [taken_succ, e, beq_eq_false_iff_ne.2 (by omega : (-1 : Int) ≠ (j : Int)), Bool.or_false]
  · rw [taken_succ]
    show _ = if j = (g l i).toNat then true else taken (g l) i j
    by_cases e2 : j = (g l i).toNat
    · rw [if_pos e2, beq_iff_eq.2 (by omega : g l i = (j : Int)), Bool.or_true]
    · rw [if_neg e2, beq_eq_false_iff_ne.2 (by omega : g l i ≠ (j : Int)), Bool.or_false]
theorem ahead_succ (w : List (List Int)) (a : Nat → Int) (i : Nat) : ahead w a (i + 1) = ahead w a i + if a i = -1 then 0 else we w i (a i).toNat := rfl
/-- What lies ahead and the best of what is left make up the whole. -/
theorem level (h : Vw w m) {l : List Int} {V0 : Int} (hop : Opt w m 0 none' V0) (hv : valid w m l) (hval : val w (g l) = V0) : ∀ i, i ≤ w.length → ∀ V, Opt w m i (taken (g l) i) V → ahead w (g l) i + V = V0 := by
  have step : ∀ i, i < w.length → ∀ V V', Opt w m i (taken (g l) i) V → Opt w m (i + 1) (taken (g l) (i + 1)) V' → ahead w (g l) (i + 1) + V' ≤ ahead w (g l) i + V := fun i hi V V' h1 h2 => by
    rw [ahead_succ]
    rcases h2.next hi hv with ⟨e, h3⟩ | ⟨e1, e2, e3, h3⟩
    · have := h1.weaken h3
      rw [if_pos e]
      omega
    · have := Opt.take hi (by omega : (g l i).toNat < m) e3 h1 h3
      rw [if_neg (by omega)]
      omega
  have up : ∀ i, i ≤ w.length → ∀ V, Opt w m i (taken (g l) i) V → ahead w (g l) i + V ≤ V0 := by
    intro i
    induction i with
    | zero =>
      intro _ V h1
      have := (h1.congr (used' := none') fun j hj => rfl).uniq hop
      show (0 : Int) + V ≤ V0
      omega
    | succ i ih =>
      intro hi V h1
      obtain ⟨V', h2, _⟩ := opt_at h (i := i) (by omega) (taken (g l) i)
      have := ih (by omega) V' h2
      have := step i (by omega) V' V h2 h1
      omega
  have down : ∀ d i, d + i = w.length → ∀ V, Opt w m i (taken (g l) i) V → V0 ≤ ahead w (g l) i + V := by
    intro d
    induction d with
    | zero =>
      intro i hi V h1
      obtain rfl : i = w.length := by omega
      have := h1.uniq Opt.last
      have : ahead w (g l) w.length = V0 := hval
      omega
    | succ d ih =>
      intro i hi V h1
      obtain ⟨V', h2, _⟩ := opt_at h (i := i + 1) (by omega) (taken (g l) (i + 1))
      have := ih (i + 1) (by omega) V' h2
      have := step i (by omega) V V' h1 h2
      omega
  intro i hi V h1
  have := up i hi V h1
  have := down (w.length - i) i (by omega) V h1
  omega
theorem rpick (h : Vw w m) (hm6 : m ≤ 6) {i x : Nat} (hi : i < w.length) (hx : x < 2 ^ m) {t1 t2 : List Int} (ht1 : Tab w m i t1) (ht2 : Tab w m (i + 1) t2) {c : Int}
    (hA : ∀ j, j < m → x.testBit j = false → (c = -1 ∨ (j : Int) < c) → we w i j + g t2 (x ||| 2 ^ j) ≠ g t1 x) (hB : c = -1 ∨ (0 ≤ c ∧ c < (m : Int) ∧ x.testBit c.toNat = false ∧ we w i c.toNat + g t2 (x ||| 2 ^ c.toNat) = g t1 x)) :
    ∀ (d k j : Nat), d + j = m → d + 1 < k → (c = -1 ∨ (j : Int) ≤ c) → armillaryref22_Solve.l2 w (x : Int) (i : Int) t1 t2 k (-1) (j : Int) = some c := by
  have hrl := h.rl i hi
  have hl : ((w.getD i []).length : Int) = (m : Int) := by show ((row w i).length : Int) = _; omega
  have hp := (bitP m (by omega)).2
  have htl := ht2.len
  have htl1 := ht1.len
  intro d
  induction d with
  | zero =>
    intro k j hd hk hc
    obtain ⟨k, rfl⟩ : ∃ m, k = m + 1 := ⟨k - 1, by omega⟩
    obtain rfl : j = m := by omega
    obtain rfl : c = -1 := by rcases hB with e | ⟨h1, h2, _⟩ <;> omega
    simp only [armillaryref22_Solve.l2, tn, hl]
    rw [if_pos (by omega), if_pos (by omega), if_neg (by omega), Option.bind_some, if_neg (by decide)]
  | succ d ih =>
    intro k j hd hk hc
    obtain ⟨k, rfl⟩ : ∃ m, k = m + 1 := ⟨k - 1, by omega⟩
    have hj : j < m := by omega
    have hlt := bitL hx hj
    simp only [armillaryref22_Solve.l2, tn, hl]
    rw [if_pos (by omega), if_pos (by omega), if_pos (by omega), Option.bind_some, if_pos (by decide), if_pos (by omega), bitA x (by omega) j (by omega), bitO x (by omega) j (by omega)]
    simp only [tn]
    by_cases e : x.testBit j = true
    · simp only [if_pos e]
      rw [if_neg (by decide), Option.bind_some, if_neg (by decide), Option.bind_some, Wn (by omega)]
      refine ih k (j + 1) (by omega) (by omega) ?_
      rcases hB with e2 | ⟨h1, h2, h3, _⟩
      · exact .inl e2
      · refine hc.imp id fun h4 => ?_
        by_cases e5 : (j : Int) = c
        · rw [show c.toNat = j by omega, e] at h3; cases h3
        · omega
    · have ef : x.testBit j = false := by revert e; cases x.testBit j <;> simp
      simp only [if_neg e]
      have hb := ht2.b h (by omega) hlt
      have he := h.eb i j hi hj
      rw [if_pos trivial, if_pos (by omega), if_pos (by omega), if_pos (by omega), if_pos (by omega), if_pos (by omega), if_pos (by omega), if_pos (by omega), if_pos (by omega), if_pos (by omega), Option.bind_some, Wn (by omega)]
      rw [show W .i64 ((w.getD i []).getD j 0 + t2.getD (x ||| 2 ^ j) 0) = we w i j + g t2 (x ||| 2 ^ j) from W64 (by show _ ≤ we w i j + g t2 (x ||| 2 ^ j); omega) (by show we w i j + g t2 (x ||| 2 ^ j) ≤ _; omega)]
      by_cases e2 : (j : Int) = c
      · obtain ⟨h1, h2, h3, h4⟩ := hB.resolve_left (by omega)
        rw [show c.toNat = j by omega] at h4
        rw [h4, show (g t1 x == t1.getD x 0) = true from beq_self_eq_true _, if_pos rfl, Option.bind_some]
        obtain ⟨k, rfl⟩ : ∃ m, k = m + 1 := ⟨k - 1, by omega⟩
        rw [← e2]
        simp only [armillaryref22_Solve.l2, tn, hl]
        rw [if_pos (by omega), if_pos (by omega)]
        by_cases e3 : ((j + 1 : Nat) : Int) < (m : Int)
        · rw [if_pos e3, decide_eq_false (by omega), Option.bind_some, if_neg (by decide)]
        · rw [if_neg e3, Option.bind_some, if_neg (by decide)]
      · have h5 := hA j hj ef (hc.imp id fun h4 => by omega)
        rw [show (we w i j + g t2 (x ||| 2 ^ j) == t1.getD x 0) = false from beq_eq_false_iff_ne.2 h5, if_neg (by decide), Option.bind_some]
        exact ih k (j + 1) (by omega) (by omega) (hc.imp id fun h4 => by omega)
theorem rsolve_loop (h : Vw w m) (hm6 : m ≤ 6) {l : List Int} {V0 : Int} (hop : Opt w m 0 none' V0) (hv : valid w m l) (hval : val w (g l) = V0) (hc : Chosen w m V0 (g l) w.length) : ∀ (d k i x : Nat) (o : List Int), d + i = w.length → d + 200 ≤ k → o.length = i → (∀ q, q < i → g o q = g l q) → x < 2 ^ m → (∀ j, j < m → x.testBit j = taken (g l) i j) →
    ∃ o', armillaryref22_Solve.l1 w k o (x : Int) (i : Int) = some o' ∧ o'.length = w.length ∧ ∀ q, q < w.length → g o' q = g l q := by
  have hn12 := h.nr
  have hp := (bitP m (by omega)).2
  intro d
  induction d with
  | zero =>
    intro k i x o hd hk ho hg hx ht
    obtain ⟨k, rfl⟩ : ∃ m, k = m + 1 := ⟨k - 1, by omega⟩
    obtain rfl : i = w.length := by omega
    refine ⟨o, ?_, ho, hg⟩
    simp only [armillaryref22_Solve.l1]
    rw [if_neg (by omega)]
  | succ d ih =>
    intro k i x o hd hk ho hg hx ht
    obtain ⟨k, rfl⟩ : ∃ m, k = m + 1 := ⟨k - 1, by omega⟩
    have hi : i < w.length := by omega
    obtain ⟨t1, e1, ht1⟩ := best_tab h hm6 (w.length - i) k i (by omega) (by omega)
    obtain ⟨t2, e2, ht2⟩ := best_tab h hm6 (w.length - (i + 1)) k (i + 1) (by omega) (by omega)
    have hV := (ht1.at_ x hx).congr ht
    have hlev := level h hop hv hval i (by omega) _ hV
    have hplus : ∀ j, j < m → Opt w m (i + 1) (plus (taken (g l) i) j) (g t2 (x ||| 2 ^ j)) := fun j hj => by
      have := ht2.at_ _ (bitL hx hj)
      rw [bitT] at this
      refine this.congr fun q hq => ?_
      show (if q = j then true else x.testBit q) = if q = j then true else taken (g l) i q
      rw [ht q hq]
    have hA : ∀ j, j < m → x.testBit j = false → (g l i = -1 ∨ (j : Int) < g l i) → we w i j + g t2 (x ||| 2 ^ j) ≠ g t1 x := fun j hj hu h1 => by
      obtain ⟨Vj, h2, h3⟩ := hc.lex i hi j hj (by rw [← ht j hj]; exact hu) h1
      have := h2.uniq (hplus j hj)
      omega
    have hB : g l i = -1 ∨ (0 ≤ g l i ∧ g l i < (m : Int) ∧ x.testBit (g l i).toNat = false ∧ we w i (g l i).toNat + g t2 (x ||| 2 ^ (g l i).toNat) = g t1 x) := by
      obtain ⟨V', h2, _⟩ := opt_at h (i := i + 1) (by omega) (taken (g l) (i + 1))
      have hlev2 := level h hop hv hval (i + 1) (by omega) _ h2
      rcases h2.next hi hv with ⟨e, _⟩ | ⟨h3, h4, h5, h6⟩
      · exact .inl e
      · have := h6.uniq (hplus (g l i).toNat (by omega))
        rw [ahead_succ, if_neg (by omega)] at hlev2
        exact .inr ⟨h3, h4, by rw [ht _ (by omega)]; exact h5, by omega⟩
    have e3 := rpick h hm6 hi hx ht1 ht2 hA hB m k 0 (by omega) (by omega) (by rcases hB with e | ⟨h1, _⟩ <;> omega)
    simp only [armillaryref22_Solve.l1]
    rw [if_pos (by omega), Wn (by omega), e1, Option.bind_some, e2, Option.bind_some, show armillaryref22_Solve.l2 w (x : Int) (i : Int) t1 t2 k (-1) 0 = _ from e3, Option.bind_some]
    have len1 : ∀ {α : Type} (u : α), [u].length = 1 := fun _ => rfl
    have hgo : ∀ q, q < i + 1 → g (o ++ [g l i]) q = g l q := fun q hq => by
      rw [gapp, ho]
      by_cases e : q = i
      · subst e; rw [if_neg (by omega), if_pos rfl]
      · rw [if_pos (by omega)]; exact hg q (by omega)
    have hk3 : ∀ (c y : Int), armillaryref22_Solve.k3 o c y = some (o ++ [c], y) := fun c y => by
      unfold armillaryref22_Solve.k3
      rw [len1, if_pos (by omega)]
    simp only [armillaryref22_Solve.k4]
    rcases hB with e | ⟨h1, h2, h3, _⟩
    · rw [if_neg (by omega), Option.bind_some, hk3, Option.bind_some]
      exact ih k (i + 1) x _ (by omega) (by omega) (by simp [ho]) hgo hx (fun j hj => by rw [taken_succ, ht j hj, e, beq_eq_false_iff_ne.2 (by omega : (-1 : Int) ≠ (j : Int)), Bool.or_false])
    · obtain ⟨c, hcc⟩ : ∃ c : Nat, g l i = (c : Int) := ⟨(g l i).toNat, by omega⟩
      rw [if_pos (by omega), if_pos (by omega), show (g l i).toNat = c by omega, bitO x (by omega) c (by omega), Option.bind_some, hk3, Option.bind_some]
      refine ih k (i + 1) (x ||| 2 ^ c) _ (by omega) (by omega) (by simp [ho]) hgo (bitL hx (by omega)) (fun j hj => ?_)
      rw [bitT, taken_succ]
      show (if j = c then true else x.testBit j) = _
      by_cases e2 : j = c
      · rw [if_pos e2, beq_iff_eq.2 (by omega : g l i = (j : Int)), Bool.or_true]
      · rw [if_neg e2, beq_eq_false_iff_ne.2 (by omega : g l i ≠ (j : Int)), Bool.or_false, ht j hj]
theorem rsolve (h : Vw w m) (hm6 : m ≤ 6) {l : List Int} {d : S26} {V : Int} (s : Solved w m l d V) {k : Nat} (hk : 300 ≤ k) : armillaryref22_Solve.f k w = some l := by
  have hn := h.nr
  obtain ⟨o, e, ho, hg⟩ := rsolve_loop h hm6 s.opt (valid_of s.ll s.isa) s.val s.ch w.length k 0 0 [] (by omega) (by omega) rfl (fun q hq => by omega) (Nat.two_pow_pos m) (fun j hj => by simp [taken])
  have : o = l := ext_g (by rw [ho, s.ll]) (fun i hi => hg i (by omega))
  unfold armillaryref22_Solve.f
  rw [show armillaryref22_Solve.l1 w k [] 0 0 = some o from e, this]
  rfl
end
end Go.Proofs.Ytdmhbcgmimfjcaa.hun
namespace Go.Proofs.Ytdmhbcgmimfjcaa
open Go Go.Proofs.Ytdmhbcgmimfjcaa.RW
set_option linter.unusedVariables false
set_option maxRecDepth 100000
set_option maxHeartbeats 8000000

/-! ### armillarylaw22_sanity: function 10, armillary/armillarylaw22.sanity -/
noncomputable def K10_0 : Code := cBody Try.f10
def armillarylaw22_sanity.k1  (x1 : Bool) : Option (Bool) := (some x1)
def armillarylaw22_sanity.f (k : Nat)  : Option (Bool) := ((assign_Solve.f k [[3, 5], [4, 7]]).bind fun t1 => ((assign_Solve.f k [[5], [7]]).bind fun t2 => ((assign_Solve.f k [[0, 0], [0, 0]]).bind fun t3 => ((assign_Solve.f k []).bind fun t4 => ((assign_Value.f k [[3, 5], [4, 7]] [1, 0]).bind fun t5 => ((assign_Value.f k [[3, 5], [4, 7]] [(-1), 1]).bind fun t6 => ((assign_Value.f k [[3, 5], [4, 7]] [1, 1]).bind fun t7 => ((assign_Value.f k [[3, 5], [4, 7]] [1]).bind fun t8 => (((armillaryref22_Same.f k t1.1 [0, 1]).bind fun t9 => (if t9 = true then ((assign_VerifyDuals.f k [[3, 5], [4, 7]] t1.1 t1.2).bind fun t10 => (if t10 = true then ((armillaryref22_Same.f k t2.1 [(-1), 0]).bind fun t11 => (if t11 = true then ((armillaryref22_Same.f k t3.1 [0, 1]).bind fun t12 => (if t12 = true then (if (W .i64 ((W .i64 ((t4.1.length : Int) + (t4.2.f0.length : Int))) + (t4.2.f1.length : Int))) = 0 then (if t5.1 = 9 then (if t5.2 = true then (if t6.1 = 7 then (if t6.2 = true then (if t7.2 = true then (some false) else (if t8.2 = true then (some false) else ((assign_VerifyDuals.f k [[3, 5], [4, 7]] t1.1 (⟨[3, 5], [0, 2]⟩ : S26)).bind fun t13 => (if t13 = true then ((assign_VerifyDuals.f k [[3, 5], [4, 7]] t1.1 (⟨[3, 5], [0, 1]⟩ : S26)).bind fun t14 => (if t14 = true then (some false) else ((assign_VerifyDuals.f k [[3, 5], [4, 7]] t1.1 (⟨[4, 5], [0, 2]⟩ : S26)).bind fun t15 => (if t15 = true then (some false) else ((assign_VerifyDuals.f k [[3, 5], [4, 7]] [1, 0] (⟨[3, 5], [0, 2]⟩ : S26)).bind fun t16 => (if t16 = true then (some false) else ((assign_Valid.f k [[3, 5], [4, 7]]).bind fun t17 => (if t17 = true then ((assign_Valid.f k []).bind fun t18 => (if t18 = true then ((assign_Valid.f k [[1], []]).bind fun t19 => (if t19 = true then (some false) else ((assign_Valid.f k [[(-1)]]).bind fun t20 => (some (!t20))))) else (some false))) else (some false))))))))) else (some false))))) else (some false)) else (some false)) else (some false)) else (some false)) else (some false)) else (some false))) else (some false))) else (some false))) else (some false))).bind (armillarylaw22_sanity.k1))))))))))
def armillarylaw22_sanity.Post (I : Imm) (w : World) (r : Bool) (v : Value) (w' : World) : Prop :=
 ∃ (J : Imm), v = .bool r ∧ Got w w' I J []
theorem armillarylaw22_sanity.calls (k : Nat) (I0 : Imm)  (w : World) (hI : I0.at_ w)  (r : Bool) (h : armillarylaw22_sanity.f k  = some r) :
  Calls Try.prog 10 [].toArray w fun e w' => ∃ v, e = .returned v ∧ armillarylaw22_sanity.Post I0 w r v w' := by
 have H : ((assign_Solve.f k [[3, 5], [4, 7]]).bind fun t1 => ((assign_Solve.f k [[5], [7]]).bind fun t2 => ((assign_Solve.f k [[0, 0], [0, 0]]).bind fun t3 => ((assign_Solve.f k []).bind fun t4 => ((assign_Value.f k [[3, 5], [4, 7]] [1, 0]).bind fun t5 => ((assign_Value.f k [[3, 5], [4, 7]] [(-1), 1]).bind fun t6 => ((assign_Value.f k [[3, 5], [4, 7]] [1, 1]).bind fun t7 => ((assign_Value.f k [[3, 5], [4, 7]] [1]).bind fun t8 => (((armillaryref22_Same.f k t1.1 [0, 1]).bind fun t9 => (if t9 = true then ((assign_VerifyDuals.f k [[3, 5], [4, 7]] t1.1 t1.2).bind fun t10 => (if t10 = true then ((armillaryref22_Same.f k t2.1 [(-1), 0]).bind fun t11 => (if t11 = true then ((armillaryref22_Same.f k t3.1 [0, 1]).bind fun t12 => (if t12 = true then (if (W .i64 ((W .i64 ((t4.1.length : Int) + (t4.2.f0.length : Int))) + (t4.2.f1.length : Int))) = 0 then (if t5.1 = 9 then (if t5.2 = true then (if t6.1 = 7 then (if t6.2 = true then (if t7.2 = true then (some false) else (if t8.2 = true then (some false) else ((assign_VerifyDuals.f k [[3, 5], [4, 7]] t1.1 (⟨[3, 5], [0, 2]⟩ : S26)).bind fun t13 => (if t13 = true then ((assign_VerifyDuals.f k [[3, 5], [4, 7]] t1.1 (⟨[3, 5], [0, 1]⟩ : S26)).bind fun t14 => (if t14 = true then (some false) else ((assign_VerifyDuals.f k [[3, 5], [4, 7]] t1.1 (⟨[4, 5], [0, 2]⟩ : S26)).bind fun t15 => (if t15 = true then (some false) else ((assign_VerifyDuals.f k [[3, 5], [4, 7]] [1, 0] (⟨[3, 5], [0, 2]⟩ : S26)).bind fun t16 => (if t16 = true then (some false) else ((assign_Valid.f k [[3, 5], [4, 7]]).bind fun t17 => (if t17 = true then ((assign_Valid.f k []).bind fun t18 => (if t18 = true then ((assign_Valid.f k [[1], []]).bind fun t19 => (if t19 = true then (some false) else ((assign_Valid.f k [[(-1)]]).bind fun t20 => (some (!t20))))) else (some false))) else (some false))))))))) else (some false))))) else (some false)) else (some false)) else (some false)) else (some false)) else (some false)) else (some false))) else (some false))) else (some false))) else (some false))).bind (armillarylaw22_sanity.k1)))))))))) = some r := h
 clear h
 refine calls_body Try.func10 (by kernel_rfl) 179 (by kernel_rfl) (by kernel_rfl) ⟨w, fun _ => False, I0⟩ I0 [] [] (by kernel_rfl) (Sat.start w _ I0 hI) ?_
 generalize w.heap.size = nx0
 show OK _ K10_0 _ _ _ _ _ _ _ _
 refine OK.sr ?_
 refine RL.st 1 [] ?_
 refine OK.sr ?_
 refine RL.spt 4 [(1, .slice (some ⟨nx0 + 2, 0, none⟩) 2 2)] (nx0 + 3) [⟨nx0, [i6 3, i6 5], 2⟩, ⟨nx0 + 1, [i6 4, i6 7], 2⟩, ⟨nx0 + 2, [.slice (some ⟨nx0, 0, none⟩) 2 2, .slice (some ⟨nx0 + 1, 0, none⟩) 2 2], 24⟩] ?_
 refine OK.sr ?_
 refine RL.s 1 [(23, .slice (some ⟨nx0 + 2, 0, none⟩) 2 2), (1, .slice (some ⟨nx0 + 2, 0, none⟩) 2 2)] ?_
 refine RL.freezeL (d := (Ty.int .i64)) (xs := [3, 5]) (b := ⟨nx0, [i6 3, i6 5], 2⟩) 0 (by kernel_rfl) ⟨_, _, rfl, rfl, ⟨_, _, rfl, rfl, rfl⟩⟩ (Nat.le_of_ble_eq_true rfl) (fun I1 hi1 hr1 => ?_)
 refine RL.freezeL (d := (Ty.int .i64)) (xs := [4, 7]) (b := ⟨nx0 + 1, [i6 4, i6 7], 2⟩) 0 (by kernel_rfl) ⟨_, _, rfl, rfl, ⟨_, _, rfl, rfl, rfl⟩⟩ (Nat.le_of_ble_eq_true rfl) (fun I2 hi2 hr2 => ?_)
 refine RL.freezeL (d := (Ty.slice (Ty.int .i64))) (xs := [[3, 5], [4, 7]]) (b := ⟨nx0 + 2, [.slice (some ⟨nx0, 0, none⟩) 2 2, .slice (some ⟨nx0 + 1, 0, none⟩) 2 2], 24⟩) 0 (by kernel_rfl) ⟨_, _, rfl, ⟨_, _, rfl, (Nat.le_of_ble_eq_true rfl), (Rd.ext hi2 hr1)⟩, ⟨_, _, rfl, ⟨_, _, rfl, (Nat.le_of_ble_eq_true rfl), hr2⟩, rfl⟩⟩ (Nat.le_of_ble_eq_true rfl) (fun I3 hi3 hr3 => ?_)
 obtain ⟨t1, hA1, H⟩ := bnd H
 refine RL.callP 14 [.slice (some ⟨nx0 + 2, 0, none⟩) 2 2] (some 24) (fun w => assign_Solve.Post I3 w t1) (by kernel_rfl) (by kernel_rfl) (fun w hs => assign_Solve.calls k I3 [[3, 5], [4, 7]] (some ⟨nx0 + 2, 0, none⟩) 2 w hs.im (Nat.le_of_ble_eq_true rfl) hr3 t1 hA1) ?_
 rintro w v w' hs ⟨I4, A1, c1, cs1, A2, c2, cs2, A3, c3, cs3, rfl, hg, hp1, hp2, hp3⟩
 have hi4 := hg.le
 refine RL.resume (X' := [orow 3 1 A1 t1.1.length c1 cs1, orow 2 1 A2 t1.2.f0.length c2 cs2, orow 2 1 A3 t1.2.f1.length c3 cs3]) rfl (hs.call hg) ?_
 clear hs hg
 generalize w'.heap.size = nx1
 clear w w'
 refine RL.freeze (e := 2) (sz := 1) (S := A2) (n := t1.2.f0.length) (cap := c2) 1 (by kernel_rfl) hp2 rfl (fun I5 hi5 hl1 hr4 => ?_)
 skip
 refine RL.freeze (e := 2) (sz := 1) (S := A3) (n := t1.2.f1.length) (cap := c3) 1 (by kernel_rfl) (Reps.ext hi5 hp3) rfl (fun I6 hi6 hl2 hr5 => ?_)
 skip
 refine RL.simP (K' := [(2, .slice A1 t1.1.length c1), (3, pt nx1 0), (1, .slice (some ⟨nx0 + 2, 0, none⟩) 2 2)]) (nx' := nx1 + 1) (L' := [⟨nx1, [.slice A2 t1.2.f0.length c2, .slice A3 t1.2.f1.length c3], 26⟩]) [] (RFacts.nil _ _ _) 6 [.no, .no, .no, .no, .no, .l 0] (by kernel_rfl) (by kernel_rfl) ?_
 refine RL.nt ?_
 refine OK.sr ?_
 refine RL.spt 4 [(4, .slice (some ⟨nx1 + 3, 0, none⟩) 2 2), (2, .slice A1 t1.1.length c1), (3, pt nx1 0), (1, .slice (some ⟨nx0 + 2, 0, none⟩) 2 2)] (nx1 + 4) [⟨nx1, [.slice A2 t1.2.f0.length c2, .slice A3 t1.2.f1.length c3], 26⟩, ⟨nx1 + 1, [i6 5], 2⟩, ⟨nx1 + 2, [i6 7], 2⟩, ⟨nx1 + 3, [.slice (some ⟨nx1 + 1, 0, none⟩) 1 1, .slice (some ⟨nx1 + 2, 0, none⟩) 1 1], 24⟩] ?_
 refine OK.sr ?_
 refine RL.s 1 [(31, .slice (some ⟨nx1 + 3, 0, none⟩) 2 2), (2, .slice A1 t1.1.length c1), (3, pt nx1 0), (1, .slice (some ⟨nx0 + 2, 0, none⟩) 2 2)] ?_
 refine RL.freezeL (d := (Ty.int .i64)) (xs := [5]) (b := ⟨nx1 + 1, [i6 5], 2⟩) 1 (by kernel_rfl) ⟨_, _, rfl, rfl, rfl⟩ (Nat.le_of_ble_eq_true rfl) (fun I7 hi7 hr6 => ?_)
 refine RL.freezeL (d := (Ty.int .i64)) (xs := [7]) (b := ⟨nx1 + 2, [i6 7], 2⟩) 1 (by kernel_rfl) ⟨_, _, rfl, rfl, rfl⟩ (Nat.le_of_ble_eq_true rfl) (fun I8 hi8 hr7 => ?_)
 refine RL.freezeL (d := (Ty.slice (Ty.int .i64))) (xs := [[5], [7]]) (b := ⟨nx1 + 3, [.slice (some ⟨nx1 + 1, 0, none⟩) 1 1, .slice (some ⟨nx1 + 2, 0, none⟩) 1 1], 24⟩) 1 (by kernel_rfl) ⟨_, _, rfl, ⟨_, _, rfl, (Nat.le_of_ble_eq_true rfl), (Rd.ext hi8 hr6)⟩, ⟨_, _, rfl, ⟨_, _, rfl, (Nat.le_of_ble_eq_true rfl), hr7⟩, rfl⟩⟩ (Nat.le_of_ble_eq_true rfl) (fun I9 hi9 hr8 => ?_)
 obtain ⟨t2, hA2, H⟩ := bnd H
 refine RL.callP 14 [.slice (some ⟨nx1 + 3, 0, none⟩) 2 2] (some 32) (fun w => assign_Solve.Post I9 w t2) (by kernel_rfl) (by kernel_rfl) (fun w hs => assign_Solve.calls k I9 [[5], [7]] (some ⟨nx1 + 3, 0, none⟩) 2 w hs.im (Nat.le_of_ble_eq_true rfl) hr8 t2 hA2) ?_
 rintro w v w' hs ⟨I10, A4, c4, cs4, A5, c5, cs5, A6, c6, cs6, rfl, hg, hp4, hp5, hp6⟩
 have hi10 := hg.le
 refine RL.resume (X' := [orow 3 1 A1 t1.1.length c1 cs1, orow 3 1 A4 t2.1.length c4 cs4, orow 2 1 A5 t2.2.f0.length c5 cs5, orow 2 1 A6 t2.2.f1.length c6 cs6]) rfl (hs.call hg) ?_
 clear hs hg
 generalize w'.heap.size = nx2
 clear w w'
 refine RL.freeze (e := 2) (sz := 1) (S := A5) (n := t2.2.f0.length) (cap := c5) 2 (by kernel_rfl) hp5 rfl (fun I11 hi11 hl3 hr9 => ?_)
 skip
 refine RL.freeze (e := 2) (sz := 1) (S := A6) (n := t2.2.f1.length) (cap := c6) 2 (by kernel_rfl) (Reps.ext hi11 hp6) rfl (fun I12 hi12 hl4 hr10 => ?_)
 skip
 refine RL.simP (K' := [(5, .slice A4 t2.1.length c4), (2, .slice A1 t1.1.length c1), (3, pt nx1 0), (1, .slice (some ⟨nx0 + 2, 0, none⟩) 2 2)]) (nx' := nx2 + 1) (L' := [⟨nx1, [.slice A2 t1.2.f0.length c2, .slice A3 t1.2.f1.length c3], 26⟩, ⟨nx2, [.slice A5 t2.2.f0.length c5, .slice A6 t2.2.f1.length c6], 26⟩]) [] (RFacts.nil _ _ _) 6 [.no, .no, .no, .no, .no, .l 1] (by kernel_rfl) (by kernel_rfl) ?_
 refine RL.nt ?_
 refine OK.sr ?_
 refine RL.sp 3 [(38, .slice (some ⟨nx2 + 3, 0, none⟩) 2 2), (5, .slice A4 t2.1.length c4), (2, .slice A1 t1.1.length c1), (3, pt nx1 0), (1, .slice (some ⟨nx0 + 2, 0, none⟩) 2 2)] (nx2 + 4) [⟨nx1, [.slice A2 t1.2.f0.length c2, .slice A3 t1.2.f1.length c3], 26⟩, ⟨nx2, [.slice A5 t2.2.f0.length c5, .slice A6 t2.2.f1.length c6], 26⟩, ⟨nx2 + 1, [i6 0, i6 0], 2⟩, ⟨nx2 + 2, [i6 0, i6 0], 2⟩, ⟨nx2 + 3, [.slice (some ⟨nx2 + 1, 0, none⟩) 2 2, .slice (some ⟨nx2 + 2, 0, none⟩) 2 2], 24⟩] ?_
 refine RL.freezeL (d := (Ty.int .i64)) (xs := [0, 0]) (b := ⟨nx2 + 1, [i6 0, i6 0], 2⟩) 2 (by kernel_rfl) ⟨_, _, rfl, rfl, ⟨_, _, rfl, rfl, rfl⟩⟩ (Nat.le_of_ble_eq_true rfl) (fun I13 hi13 hr11 => ?_)
 refine RL.freezeL (d := (Ty.int .i64)) (xs := [0, 0]) (b := ⟨nx2 + 2, [i6 0, i6 0], 2⟩) 2 (by kernel_rfl) ⟨_, _, rfl, rfl, ⟨_, _, rfl, rfl, rfl⟩⟩ (Nat.le_of_ble_eq_true rfl) (fun I14 hi14 hr12 => ?_)
 refine RL.freezeL (d := (Ty.slice (Ty.int .i64))) (xs := [[0, 0], [0, 0]]) (b := ⟨nx2 + 3, [.slice (some ⟨nx2 + 1, 0, none⟩) 2 2, .slice (some ⟨nx2 + 2, 0, none⟩) 2 2], 24⟩) 2 (by kernel_rfl) ⟨_, _, rfl, ⟨_, _, rfl, (Nat.le_of_ble_eq_true rfl), (Rd.ext hi14 hr11)⟩, ⟨_, _, rfl, ⟨_, _, rfl, (Nat.le_of_ble_eq_true rfl), hr12⟩, rfl⟩⟩ (Nat.le_of_ble_eq_true rfl) (fun I15 hi15 hr13 => ?_)
 obtain ⟨t3, hA3, H⟩ := bnd H
 refine RL.callP 14 [.slice (some ⟨nx2 + 3, 0, none⟩) 2 2] (some 39) (fun w => assign_Solve.Post I15 w t3) (by kernel_rfl) (by kernel_rfl) (fun w hs => assign_Solve.calls k I15 [[0, 0], [0, 0]] (some ⟨nx2 + 3, 0, none⟩) 2 w hs.im (Nat.le_of_ble_eq_true rfl) hr13 t3 hA3) ?_
 rintro w v w' hs ⟨I16, A7, c7, cs7, A8, c8, cs8, A9, c9, cs9, rfl, hg, hp7, hp8, hp9⟩
 have hi16 := hg.le
 refine RL.resume (X' := [orow 3 1 A1 t1.1.length c1 cs1, orow 3 1 A4 t2.1.length c4 cs4, orow 3 1 A7 t3.1.length c7 cs7, orow 2 1 A8 t3.2.f0.length c8 cs8, orow 2 1 A9 t3.2.f1.length c9 cs9]) rfl (hs.call hg) ?_
 clear hs hg
 generalize w'.heap.size = nx3
 clear w w'
 refine RL.freeze (e := 2) (sz := 1) (S := A8) (n := t3.2.f0.length) (cap := c8) 3 (by kernel_rfl) hp8 rfl (fun I17 hi17 hl5 hr14 => ?_)
 skip
 refine RL.freeze (e := 2) (sz := 1) (S := A9) (n := t3.2.f1.length) (cap := c9) 3 (by kernel_rfl) (Reps.ext hi17 hp9) rfl (fun I18 hi18 hl6 hr15 => ?_)
 skip
 refine RL.simP (K' := [(7, .slice A7 t3.1.length c7), (5, .slice A4 t2.1.length c4), (2, .slice A1 t1.1.length c1), (3, pt nx1 0), (1, .slice (some ⟨nx0 + 2, 0, none⟩) 2 2)]) (nx' := nx3 + 1) (L' := [⟨nx1, [.slice A2 t1.2.f0.length c2, .slice A3 t1.2.f1.length c3], 26⟩, ⟨nx2, [.slice A5 t2.2.f0.length c5, .slice A6 t2.2.f1.length c6], 26⟩, ⟨nx3, [.slice A8 t3.2.f0.length c8, .slice A9 t3.2.f1.length c9], 26⟩]) [] (RFacts.nil _ _ _) 6 [.no, .no, .no, .no, .no, .l 2] (by kernel_rfl) (by kernel_rfl) ?_
 refine RL.nt ?_
 refine OK.sr ?_
 obtain ⟨t4, hA4, H⟩ := bnd H
 refine RL.callP 14 [.slice none 0 0] (some 43) (fun w => assign_Solve.Post I18 w t4) (by kernel_rfl) (by kernel_rfl) (fun w hs => assign_Solve.calls k I18 [] none 0 w hs.im (Nat.le_refl _) (Rd.nil _ _ _) t4 hA4) ?_
 rintro w v w' hs ⟨I19, A10, c10, cs10, A11, c11, cs11, A12, c12, cs12, rfl, hg, hp10, hp11, hp12⟩
 have hi19 := hg.le
 refine RL.resume (X' := [orow 3 1 A1 t1.1.length c1 cs1, orow 3 1 A4 t2.1.length c4 cs4, orow 3 1 A7 t3.1.length c7 cs7, orow 3 1 A10 t4.1.length c10 cs10, orow 2 1 A11 t4.2.f0.length c11 cs11, orow 2 1 A12 t4.2.f1.length c12 cs12]) rfl (hs.call hg) ?_
 clear hs hg
 generalize w'.heap.size = nx4
 clear w w'
 refine RL.freeze (e := 2) (sz := 1) (S := A11) (n := t4.2.f0.length) (cap := c11) 4 (by kernel_rfl) hp11 rfl (fun I20 hi20 hl7 hr16 => ?_)
 skip
 refine RL.freeze (e := 2) (sz := 1) (S := A12) (n := t4.2.f1.length) (cap := c12) 4 (by kernel_rfl) (Reps.ext hi20 hp12) rfl (fun I21 hi21 hl8 hr17 => ?_)
 skip
 refine RL.simP (K' := [(9, .slice A10 t4.1.length c10), (10, pt nx4 0), (7, .slice A7 t3.1.length c7), (5, .slice A4 t2.1.length c4), (2, .slice A1 t1.1.length c1), (3, pt nx1 0), (1, .slice (some ⟨nx0 + 2, 0, none⟩) 2 2)]) (nx' := nx4 + 1) (L' := [⟨nx1, [.slice A2 t1.2.f0.length c2, .slice A3 t1.2.f1.length c3], 26⟩, ⟨nx2, [.slice A5 t2.2.f0.length c5, .slice A6 t2.2.f1.length c6], 26⟩, ⟨nx3, [.slice A8 t3.2.f0.length c8, .slice A9 t3.2.f1.length c9], 26⟩, ⟨nx4, [.slice A11 t4.2.f0.length c11, .slice A12 t4.2.f1.length c12], 26⟩]) [] (RFacts.nil _ _ _) 6 [.no, .no, .no, .no, .no, .l 3] (by kernel_rfl) (by kernel_rfl) ?_
 refine RL.nt ?_
 refine OK.sr ?_
 refine RL.sp 2 [(48, .slice (some ⟨nx4 + 1, 0, none⟩) 2 2), (47, .slice (some ⟨nx0 + 2, 0, none⟩) 2 2), (9, .slice A10 t4.1.length c10), (10, pt nx4 0), (7, .slice A7 t3.1.length c7), (5, .slice A4 t2.1.length c4), (2, .slice A1 t1.1.length c1), (3, pt nx1 0), (1, .slice (some ⟨nx0 + 2, 0, none⟩) 2 2)] (nx4 + 2) [⟨nx1, [.slice A2 t1.2.f0.length c2, .slice A3 t1.2.f1.length c3], 26⟩, ⟨nx2, [.slice A5 t2.2.f0.length c5, .slice A6 t2.2.f1.length c6], 26⟩, ⟨nx3, [.slice A8 t3.2.f0.length c8, .slice A9 t3.2.f1.length c9], 26⟩, ⟨nx4, [.slice A11 t4.2.f0.length c11, .slice A12 t4.2.f1.length c12], 26⟩, ⟨nx4 + 1, [i6 1, i6 0], 3⟩] ?_
 refine RL.freezeL (d := (Ty.int .i64)) (xs := [1, 0]) (b := ⟨nx4 + 1, [i6 1, i6 0], 3⟩) 4 (by kernel_rfl) ⟨_, _, rfl, rfl, ⟨_, _, rfl, rfl, rfl⟩⟩ (Nat.le_of_ble_eq_true rfl) (fun I22 hi22 hr18 => ?_)
 obtain ⟨t5, hA5, H⟩ := bnd H
 refine RL.callP 15 [.slice (some ⟨nx0 + 2, 0, none⟩) 2 2, .slice (some ⟨nx4 + 1, 0, none⟩) 2 2] (some 49) (fun w => assign_Value.Post I22 w t5) (by kernel_rfl) (by kernel_rfl) (fun w hs => assign_Value.calls k I22 [[3, 5], [4, 7]] (some ⟨nx0 + 2, 0, none⟩) 2 [1, 0] (some ⟨nx4 + 1, 0, none⟩) 2 w hs.im (Nat.le_of_ble_eq_true rfl) (Rd.ext (Imm.le_trans (Imm.le_trans (Imm.le_trans (Imm.le_trans (Imm.le_trans (Imm.le_trans (Imm.le_trans (Imm.le_trans (Imm.le_trans (Imm.le_trans (Imm.le_trans (Imm.le_trans (Imm.le_trans (Imm.le_trans (Imm.le_trans (Imm.le_trans (Imm.le_trans (Imm.le_trans hi4 hi5) hi6) hi7) hi8) hi9) hi10) hi11) hi12) hi13) hi14) hi15) hi16) hi17) hi18) hi19) hi20) hi21) hi22) hr3) (Nat.le_of_ble_eq_true rfl) hr18 t5 hA5) ?_
 rintro w v w' hs ⟨I23, rfl, hg⟩
 have hi23 := hg.le
 refine RL.resume (X' := [orow 3 1 A1 t1.1.length c1 cs1, orow 3 1 A4 t2.1.length c4 cs4, orow 3 1 A7 t3.1.length c7 cs7, orow 3 1 A10 t4.1.length c10 cs10]) rfl (hs.call hg) ?_
 clear hs hg
 generalize w'.heap.size = nx5
 clear w w'
 refine RL.st 5 [(12, .bool t5.2), (11, i6 t5.1), (9, .slice A10 t4.1.length c10), (10, pt nx4 0), (7, .slice A7 t3.1.length c7), (5, .slice A4 t2.1.length c4), (2, .slice A1 t1.1.length c1), (3, pt nx1 0), (1, .slice (some ⟨nx0 + 2, 0, none⟩) 2 2)] ?_
 refine OK.sr ?_
 refine RL.sp 2 [(54, .slice (some ⟨nx5, 0, none⟩) 2 2), (53, .slice (some ⟨nx0 + 2, 0, none⟩) 2 2), (12, .bool t5.2), (11, i6 t5.1), (9, .slice A10 t4.1.length c10), (10, pt nx4 0), (7, .slice A7 t3.1.length c7), (5, .slice A4 t2.1.length c4), (2, .slice A1 t1.1.length c1), (3, pt nx1 0), (1, .slice (some ⟨nx0 + 2, 0, none⟩) 2 2)] (nx5 + 1) [⟨nx1, [.slice A2 t1.2.f0.length c2, .slice A3 t1.2.f1.length c3], 26⟩, ⟨nx2, [.slice A5 t2.2.f0.length c5, .slice A6 t2.2.f1.length c6], 26⟩, ⟨nx3, [.slice A8 t3.2.f0.length c8, .slice A9 t3.2.f1.length c9], 26⟩, ⟨nx4, [.slice A11 t4.2.f0.length c11, .slice A12 t4.2.f1.length c12], 26⟩, ⟨nx5, [i6 (-1), i6 1], 3⟩] ?_
 refine RL.freezeL (d := (Ty.int .i64)) (xs := [(-1), 1]) (b := ⟨nx5, [i6 (-1), i6 1], 3⟩) 4 (by kernel_rfl) ⟨_, _, rfl, rfl, ⟨_, _, rfl, rfl, rfl⟩⟩ (Nat.le_of_ble_eq_true rfl) (fun I24 hi24 hr19 => ?_)
 obtain ⟨t6, hA6, H⟩ := bnd H
 refine RL.callP 15 [.slice (some ⟨nx0 + 2, 0, none⟩) 2 2, .slice (some ⟨nx5, 0, none⟩) 2 2] (some 55) (fun w => assign_Value.Post I24 w t6) (by kernel_rfl) (by kernel_rfl) (fun w hs => assign_Value.calls k I24 [[3, 5], [4, 7]] (some ⟨nx0 + 2, 0, none⟩) 2 [(-1), 1] (some ⟨nx5, 0, none⟩) 2 w hs.im (Nat.le_of_ble_eq_true rfl) (Rd.ext (Imm.le_trans (Imm.le_trans (Imm.le_trans (Imm.le_trans (Imm.le_trans (Imm.le_trans (Imm.le_trans (Imm.le_trans (Imm.le_trans (Imm.le_trans (Imm.le_trans (Imm.le_trans (Imm.le_trans (Imm.le_trans (Imm.le_trans (Imm.le_trans (Imm.le_trans (Imm.le_trans (Imm.le_trans (Imm.le_trans hi4 hi5) hi6) hi7) hi8) hi9) hi10) hi11) hi12) hi13) hi14) hi15) hi16) hi17) hi18) hi19) hi20) hi21) hi22) hi23) hi24) hr3) (Nat.le_of_ble_eq_true rfl) hr19 t6 hA6) ?_
 rintro w v w' hs ⟨I25, rfl, hg⟩
 have hi25 := hg.le
 refine RL.resume (X' := [orow 3 1 A1 t1.1.length c1 cs1, orow 3 1 A4 t2.1.length c4 cs4, orow 3 1 A7 t3.1.length c7 cs7, orow 3 1 A10 t4.1.length c10 cs10]) rfl (hs.call hg) ?_
 clear hs hg
 generalize w'.heap.size = nx6
 clear w w'
 refine RL.st 5 [(14, .bool t6.2), (13, i6 t6.1), (12, .bool t5.2), (11, i6 t5.1), (9, .slice A10 t4.1.length c10), (10, pt nx4 0), (7, .slice A7 t3.1.length c7), (5, .slice A4 t2.1.length c4), (2, .slice A1 t1.1.length c1), (3, pt nx1 0), (1, .slice (some ⟨nx0 + 2, 0, none⟩) 2 2)] ?_
 refine OK.sr ?_
 refine RL.sp 2 [(60, .slice (some ⟨nx6, 0, none⟩) 2 2), (59, .slice (some ⟨nx0 + 2, 0, none⟩) 2 2), (14, .bool t6.2), (13, i6 t6.1), (12, .bool t5.2), (11, i6 t5.1), (9, .slice A10 t4.1.length c10), (10, pt nx4 0), (7, .slice A7 t3.1.length c7), (5, .slice A4 t2.1.length c4), (2, .slice A1 t1.1.length c1), (3, pt nx1 0), (1, .slice (some ⟨nx0 + 2, 0, none⟩) 2 2)] (nx6 + 1) [⟨nx1, [.slice A2 t1.2.f0.length c2, .slice A3 t1.2.f1.length c3], 26⟩, ⟨nx2, [.slice A5 t2.2.f0.length c5, .slice A6 t2.2.f1.length c6], 26⟩, ⟨nx3, [.slice A8 t3.2.f0.length c8, .slice A9 t3.2.f1.length c9], 26⟩, ⟨nx4, [.slice A11 t4.2.f0.length c11, .slice A12 t4.2.f1.length c12], 26⟩, ⟨nx6, [i6 1, i6 1], 3⟩] ?_
 refine RL.freezeL (d := (Ty.int .i64)) (xs := [1, 1]) (b := ⟨nx6, [i6 1, i6 1], 3⟩) 4 (by kernel_rfl) ⟨_, _, rfl, rfl, ⟨_, _, rfl, rfl, rfl⟩⟩ (Nat.le_of_ble_eq_true rfl) (fun I26 hi26 hr20 => ?_)
 obtain ⟨t7, hA7, H⟩ := bnd H
 refine RL.callP 15 [.slice (some ⟨nx0 + 2, 0, none⟩) 2 2, .slice (some ⟨nx6, 0, none⟩) 2 2] (some 61) (fun w => assign_Value.Post I26 w t7) (by kernel_rfl) (by kernel_rfl) (fun w hs => assign_Value.calls k I26 [[3, 5], [4, 7]] (some ⟨nx0 + 2, 0, none⟩) 2 [1, 1] (some ⟨nx6, 0, none⟩) 2 w hs.im (Nat.le_of_ble_eq_true rfl) (Rd.ext (Imm.le_trans (Imm.le_trans (Imm.le_trans (Imm.le_trans (Imm.le_trans (Imm.le_trans (Imm.le_trans (Imm.le_trans (Imm.le_trans (Imm.le_trans (Imm.le_trans (Imm.le_trans (Imm.le_trans (Imm.le_trans (Imm.le_trans (Imm.le_trans (Imm.le_trans (Imm.le_trans (Imm.le_trans (Imm.le_trans (Imm.le_trans (Imm.le_trans hi4 hi5) hi6) hi7) hi8) hi9) hi10) hi11) hi12) hi13) hi14) hi15) hi16) hi17) hi18) hi19) hi20) hi21) hi22) hi23) hi24) hi25) hi26) hr3) (Nat.le_of_ble_eq_true rfl) hr20 t7 hA7) ?_
 rintro w v w' hs ⟨I27, rfl, hg⟩
 have hi27 := hg.le
 refine RL.resume (X' := [orow 3 1 A1 t1.1.length c1 cs1, orow 3 1 A4 t2.1.length c4 cs4, orow 3 1 A7 t3.1.length c7 cs7, orow 3 1 A10 t4.1.length c10 cs10]) rfl (hs.call hg) ?_
 clear hs hg
 generalize w'.heap.size = nx7
 clear w w'
 refine RL.st 5 [(16, .bool t7.2), (14, .bool t6.2), (13, i6 t6.1), (12, .bool t5.2), (11, i6 t5.1), (9, .slice A10 t4.1.length c10), (10, pt nx4 0), (7, .slice A7 t3.1.length c7), (5, .slice A4 t2.1.length c4), (2, .slice A1 t1.1.length c1), (3, pt nx1 0), (1, .slice (some ⟨nx0 + 2, 0, none⟩) 2 2)] ?_
 refine OK.sr ?_
 refine RL.sp 2 [(66, .slice (some ⟨nx7, 0, none⟩) 1 1), (65, .slice (some ⟨nx0 + 2, 0, none⟩) 2 2), (16, .bool t7.2), (14, .bool t6.2), (13, i6 t6.1), (12, .bool t5.2), (11, i6 t5.1), (9, .slice A10 t4.1.length c10), (10, pt nx4 0), (7, .slice A7 t3.1.length c7), (5, .slice A4 t2.1.length c4), (2, .slice A1 t1.1.length c1), (3, pt nx1 0), (1, .slice (some ⟨nx0 + 2, 0, none⟩) 2 2)] (nx7 + 1) [⟨nx1, [.slice A2 t1.2.f0.length c2, .slice A3 t1.2.f1.length c3], 26⟩, ⟨nx2, [.slice A5 t2.2.f0.length c5, .slice A6 t2.2.f1.length c6], 26⟩, ⟨nx3, [.slice A8 t3.2.f0.length c8, .slice A9 t3.2.f1.length c9], 26⟩, ⟨nx4, [.slice A11 t4.2.f0.length c11, .slice A12 t4.2.f1.length c12], 26⟩, ⟨nx7, [i6 1], 3⟩] ?_
 refine RL.freezeL (d := (Ty.int .i64)) (xs := [1]) (b := ⟨nx7, [i6 1], 3⟩) 4 (by kernel_rfl) ⟨_, _, rfl, rfl, rfl⟩ (Nat.le_of_ble_eq_true rfl) (fun I28 hi28 hr21 => ?_)
 obtain ⟨t8, hA8, H⟩ := bnd H
 refine RL.callP 15 [.slice (some ⟨nx0 + 2, 0, none⟩) 2 2, .slice (some ⟨nx7, 0, none⟩) 1 1] (some 67) (fun w => assign_Value.Post I28 w t8) (by kernel_rfl) (by kernel_rfl) (fun w hs => assign_Value.calls k I28 [[3, 5], [4, 7]] (some ⟨nx0 + 2, 0, none⟩) 2 [1] (some ⟨nx7, 0, none⟩) 1 w hs.im (Nat.le_of_ble_eq_true rfl) (Rd.ext (Imm.le_trans (Imm.le_trans (Imm.le_trans (Imm.le_trans (Imm.le_trans (Imm.le_trans (Imm.le_trans (Imm.le_trans (Imm.le_trans (Imm.le_trans (Imm.le_trans (Imm.le_trans (Imm.le_trans (Imm.le_trans (Imm.le_trans (Imm.le_trans (Imm.le_trans (Imm.le_trans (Imm.le_trans (Imm.le_trans (Imm.le_trans (Imm.le_trans (Imm.le_trans (Imm.le_trans hi4 hi5) hi6) hi7) hi8) hi9) hi10) hi11) hi12) hi13) hi14) hi15) hi16) hi17) hi18) hi19) hi20) hi21) hi22) hi23) hi24) hi25) hi26) hi27) hi28) hr3) (Nat.le_of_ble_eq_true rfl) hr21 t8 hA8) ?_
 rintro w v w' hs ⟨I29, rfl, hg⟩
 have hi29 := hg.le
 refine RL.resume (X' := [orow 3 1 A1 t1.1.length c1 cs1, orow 3 1 A4 t2.1.length c4 cs4, orow 3 1 A7 t3.1.length c7 cs7, orow 3 1 A10 t4.1.length c10 cs10]) rfl (hs.call hg) ?_
 clear hs hg
 generalize w'.heap.size = nx8
 clear w w'
 refine RL.st 5 [(18, .bool t8.2), (16, .bool t7.2), (14, .bool t6.2), (13, i6 t6.1), (12, .bool t5.2), (11, i6 t5.1), (9, .slice A10 t4.1.length c10), (10, pt nx4 0), (7, .slice A7 t3.1.length c7), (5, .slice A4 t2.1.length c4), (2, .slice A1 t1.1.length c1), (3, pt nx1 0), (1, .slice (some ⟨nx0 + 2, 0, none⟩) 2 2)] ?_
 refine OK.sq ?_
 refine OK.join (fun K' I' _ L' X' => ∃ (x1 : Bool), K' = [(0, .bool x1)] ∧ L' = [⟨nx1, [.slice A2 t1.2.f0.length c2, .slice A3 t1.2.f1.length c3], 26⟩, ⟨nx2, [.slice A5 t2.2.f0.length c5, .slice A6 t2.2.f1.length c6], 26⟩, ⟨nx3, [.slice A8 t3.2.f0.length c8, .slice A9 t3.2.f1.length c9], 26⟩, ⟨nx4, [.slice A11 t4.2.f0.length c11, .slice A12 t4.2.f1.length c12], 26⟩] ∧ X' = [] ∧ Imm.le I29 I' ∧ armillarylaw22_sanity.k1 x1 = some r) ?_ ?_
 ·rintro _ I30 nx9 _ _ ⟨x1, rfl, rfl, rfl, hi30, H⟩
  rw [armillarylaw22_sanity.k1] at H
  refine QN.then_ ?_
  refine OK.re ?_
  obtain rfl := Option.some.inj H
  refine QN.body rfl [] (RFacts.nil _ _ _) (.no) (.bool x1) (by kernel_rfl) (by kernel_rfl) (by kernel_rfl) ?_ _ (.inr rfl)
  exact fun w' hs' => ⟨_, rfl, I30, rfl, hs'.got _ .slnil⟩
 ·intro Q_1 hJ1 hQ1
  obtain ⟨y1, H, HK1⟩ := bnd H
  refine OK.rg ?_
  refine RL.sp 2 [(71, .slice (some ⟨nx8, 0, none⟩) 2 2), (70, .slice A1 t1.1.length c1), (18, .bool t8.2), (16, .bool t7.2), (14, .bool t6.2), (13, i6 t6.1), (12, .bool t5.2), (11, i6 t5.1), (9, .slice A10 t4.1.length c10), (10, pt nx4 0), (7, .slice A7 t3.1.length c7), (5, .slice A4 t2.1.length c4), (2, .slice A1 t1.1.length c1), (3, pt nx1 0), (1, .slice (some ⟨nx0 + 2, 0, none⟩) 2 2)] (nx8 + 1) [⟨nx1, [.slice A2 t1.2.f0.length c2, .slice A3 t1.2.f1.length c3], 26⟩, ⟨nx2, [.slice A5 t2.2.f0.length c5, .slice A6 t2.2.f1.length c6], 26⟩, ⟨nx3, [.slice A8 t3.2.f0.length c8, .slice A9 t3.2.f1.length c9], 26⟩, ⟨nx4, [.slice A11 t4.2.f0.length c11, .slice A12 t4.2.f1.length c12], 26⟩, ⟨nx8, [i6 0, i6 1], 3⟩] ?_
  refine RL.freezeL (d := (Ty.int .i64)) (xs := [0, 1]) (b := ⟨nx8, [i6 0, i6 1], 3⟩) 4 (by kernel_rfl) ⟨_, _, rfl, rfl, ⟨_, _, rfl, rfl, rfl⟩⟩ (Nat.le_of_ble_eq_true rfl) (fun I31 hi31 hr22 => ?_)
  obtain ⟨t9, hA9, H⟩ := bnd H
  refine RL.callP 17 [.slice A1 t1.1.length c1, .slice (some ⟨nx8, 0, none⟩) 2 2] (some 72) (fun w v w' => ∃ I', Imm.le I31 I' ∧ armillaryref22_Same.Post I' w t9 v w') (by kernel_rfl) (by kernel_rfl) (fun w hs => ?_) ?_
  ·skip
   obtain ⟨JL1, hj1, hn1, hw1, hs⟩ := Sat.freeze (e := 3) (sz := 1) (S := A1) (n := t1.1.length) (cap := c1) (m := 0) hs (by kernel_rfl) (Reps.ext (Imm.le_trans (Imm.le_trans (Imm.le_trans (Imm.le_trans (Imm.le_trans (Imm.le_trans (Imm.le_trans (Imm.le_trans (Imm.le_trans (Imm.le_trans (Imm.le_trans (Imm.le_trans (Imm.le_trans (Imm.le_trans (Imm.le_trans (Imm.le_trans (Imm.le_trans (Imm.le_trans (Imm.le_trans (Imm.le_trans (Imm.le_trans (Imm.le_trans (Imm.le_trans (Imm.le_trans (Imm.le_trans hi5 hi6) hi7) hi8) hi9) hi10) hi11) hi12) hi13) hi14) hi15) hi16) hi17) hi18) hi19) hi20) hi21) hi22) hi23) hi24) hi25) hi26) hi27) hi28) hi29) hi31) hp1) rfl
   exact (armillaryref22_Same.calls k JL1 t1.1 A1 c1 [0, 1] (some ⟨nx8, 0, none⟩) 2 _ hs.im hn1 hw1 (Nat.le_of_ble_eq_true rfl) (Rd.ext hj1 hr22) t9 hA9).mono (fun e w' ⟨v, hv, hp⟩ => ⟨v, hv, JL1, hj1, hp⟩)
  rintro w v w' hs ⟨I', hle, J, rfl, hg⟩
  refine RL.resume (X' := [orow 3 1 A1 t1.1.length c1 cs1, orow 3 1 A4 t2.1.length c4 cs4, orow 3 1 A7 t3.1.length c7 cs7, orow 3 1 A10 t4.1.length c10 cs10]) rfl (hs.call (hg.back hle)) ?_
  clear hs hg hle I' J
  generalize w'.heap.size = nx10
  clear w w'
  refine RL.s 1 [(73, .bool t9), (18, .bool t8.2), (16, .bool t7.2), (14, .bool t6.2), (13, i6 t6.1), (12, .bool t5.2), (11, i6 t5.1), (9, .slice A10 t4.1.length c10), (10, pt nx4 0), (7, .slice A7 t3.1.length c7), (5, .slice A4 t2.1.length c4), (2, .slice A1 t1.1.length c1), (3, pt nx1 0), (1, .slice (some ⟨nx0 + 2, 0, none⟩) 2 2)] ?_
  refine RL.cases t9 (fun hb => ?_) (fun hb => ?_)
  ·have hc := hb
   rw [hb]
   rw [if_pos hc] at H; clear hb
   refine RL.simK (K' := [(76, .agg #[.slice A2 t1.2.f0.length c2, .slice A3 t1.2.f1.length c3]), (75, .slice A1 t1.1.length c1), (74, .slice (some ⟨nx0 + 2, 0, none⟩) 2 2), (73, .bool true), (18, .bool t8.2), (16, .bool t7.2), (14, .bool t6.2), (13, i6 t6.1), (12, .bool t5.2), (11, i6 t5.1), (9, .slice A10 t4.1.length c10), (10, pt nx4 0), (7, .slice A7 t3.1.length c7), (5, .slice A4 t2.1.length c4), (2, .slice A1 t1.1.length c1), (1, .slice (some ⟨nx0 + 2, 0, none⟩) 2 2)]) [] (RFacts.nil _ _ _) 3 [.no, .no, .l 0] (by kernel_rfl) (by kernel_rfl) ?_
   obtain ⟨t10, hA10, H⟩ := bnd H
   refine RL.callP 20 [.slice (some ⟨nx0 + 2, 0, none⟩) 2 2, .slice A1 t1.1.length c1, .agg #[.slice A2 t1.2.f0.length c2, .slice A3 t1.2.f1.length c3]] (some 77) (fun w v w' => ∃ I', Imm.le I31 I' ∧ assign_VerifyDuals.Post I' w t10 v w') (by kernel_rfl) (by kernel_rfl) (fun w hs => ?_) ?_
   ·skip
    obtain ⟨JL2, hj2, hn2, hw2, hs⟩ := Sat.freeze (e := 3) (sz := 1) (S := A1) (n := t1.1.length) (cap := c1) (m := 0) hs (by kernel_rfl) (Reps.ext (Imm.le_trans (Imm.le_trans (Imm.le_trans (Imm.le_trans (Imm.le_trans (Imm.le_trans (Imm.le_trans (Imm.le_trans (Imm.le_trans (Imm.le_trans (Imm.le_trans (Imm.le_trans (Imm.le_trans (Imm.le_trans (Imm.le_trans (Imm.le_trans (Imm.le_trans (Imm.le_trans (Imm.le_trans (Imm.le_trans (Imm.le_trans (Imm.le_trans (Imm.le_trans (Imm.le_trans (Imm.le_trans hi5 hi6) hi7) hi8) hi9) hi10) hi11) hi12) hi13) hi14) hi15) hi16) hi17) hi18) hi19) hi20) hi21) hi22) hi23) hi24) hi25) hi26) hi27) hi28) hi29) hi31) hp1) rfl
    exact (assign_VerifyDuals.calls k JL2 [[3, 5], [4, 7]] (some ⟨nx0 + 2, 0, none⟩) 2 t1.1 A1 c1 t1.2 A2 c2 A3 c3 _ hs.im (Nat.le_of_ble_eq_true rfl) (Rd.ext hj2 (Rd.ext (Imm.le_trans (Imm.le_trans (Imm.le_trans (Imm.le_trans (Imm.le_trans (Imm.le_trans (Imm.le_trans (Imm.le_trans (Imm.le_trans (Imm.le_trans (Imm.le_trans (Imm.le_trans (Imm.le_trans (Imm.le_trans (Imm.le_trans (Imm.le_trans (Imm.le_trans (Imm.le_trans (Imm.le_trans (Imm.le_trans (Imm.le_trans (Imm.le_trans (Imm.le_trans (Imm.le_trans (Imm.le_trans (Imm.le_trans hi4 hi5) hi6) hi7) hi8) hi9) hi10) hi11) hi12) hi13) hi14) hi15) hi16) hi17) hi18) hi19) hi20) hi21) hi22) hi23) hi24) hi25) hi26) hi27) hi28) hi29) hi31) hr3)) hn2 hw2 hl1 (Rd.ext hj2 (Rd.ext (Imm.le_trans (Imm.le_trans (Imm.le_trans (Imm.le_trans (Imm.le_trans (Imm.le_trans (Imm.le_trans (Imm.le_trans (Imm.le_trans (Imm.le_trans (Imm.le_trans (Imm.le_trans (Imm.le_trans (Imm.le_trans (Imm.le_trans (Imm.le_trans (Imm.le_trans (Imm.le_trans (Imm.le_trans (Imm.le_trans (Imm.le_trans (Imm.le_trans (Imm.le_trans (Imm.le_trans hi6 hi7) hi8) hi9) hi10) hi11) hi12) hi13) hi14) hi15) hi16) hi17) hi18) hi19) hi20) hi21) hi22) hi23) hi24) hi25) hi26) hi27) hi28) hi29) hi31) hr4)) hl2 (Rd.ext hj2 (Rd.ext (Imm.le_trans (Imm.le_trans (Imm.le_trans (Imm.le_trans (Imm.le_trans (Imm.le_trans (Imm.le_trans (Imm.le_trans (Imm.le_trans (Imm.le_trans (Imm.le_trans (Imm.le_trans (Imm.le_trans (Imm.le_trans (Imm.le_trans (Imm.le_trans (Imm.le_trans (Imm.le_trans (Imm.le_trans (Imm.le_trans (Imm.le_trans (Imm.le_trans (Imm.le_trans hi7 hi8) hi9) hi10) hi11) hi12) hi13) hi14) hi15) hi16) hi17) hi18) hi19) hi20) hi21) hi22) hi23) hi24) hi25) hi26) hi27) hi28) hi29) hi31) hr5)) t10 hA10).mono (fun e w' ⟨v, hv, hp⟩ => ⟨v, hv, JL2, hj2, hp⟩)
   rintro w v w' hs ⟨I', hle, J, rfl, hg⟩
   refine RL.resume (X' := [orow 3 1 A1 t1.1.length c1 cs1, orow 3 1 A4 t2.1.length c4 cs4, orow 3 1 A7 t3.1.length c7 cs7, orow 3 1 A10 t4.1.length c10 cs10]) rfl (hs.call (hg.back hle)) ?_
   clear hs hg hle I' J
   generalize w'.heap.size = nx11
   clear w w'
   refine RL.s 2 [(79, .bool t10), (18, .bool t8.2), (16, .bool t7.2), (14, .bool t6.2), (13, i6 t6.1), (12, .bool t5.2), (11, i6 t5.1), (9, .slice A10 t4.1.length c10), (10, pt nx4 0), (7, .slice A7 t3.1.length c7), (5, .slice A4 t2.1.length c4), (2, .slice A1 t1.1.length c1), (1, .slice (some ⟨nx0 + 2, 0, none⟩) 2 2)] ?_
   refine RL.cases t10 (fun hb => ?_) (fun hb => ?_)
   ·have hc := hb
    rw [hb]
    rw [if_pos hc] at H; clear hb
    refine RL.sp 2 [(81, .slice (some ⟨nx11, 0, none⟩) 2 2), (80, .slice A4 t2.1.length c4), (79, .bool true), (18, .bool t8.2), (16, .bool t7.2), (14, .bool t6.2), (13, i6 t6.1), (12, .bool t5.2), (11, i6 t5.1), (9, .slice A10 t4.1.length c10), (10, pt nx4 0), (7, .slice A7 t3.1.length c7), (2, .slice A1 t1.1.length c1), (1, .slice (some ⟨nx0 + 2, 0, none⟩) 2 2)] (nx11 + 1) [⟨nx1, [.slice A2 t1.2.f0.length c2, .slice A3 t1.2.f1.length c3], 26⟩, ⟨nx2, [.slice A5 t2.2.f0.length c5, .slice A6 t2.2.f1.length c6], 26⟩, ⟨nx3, [.slice A8 t3.2.f0.length c8, .slice A9 t3.2.f1.length c9], 26⟩, ⟨nx4, [.slice A11 t4.2.f0.length c11, .slice A12 t4.2.f1.length c12], 26⟩, ⟨nx11, [i6 (-1), i6 0], 3⟩] ?_
    refine RL.freezeL (d := (Ty.int .i64)) (xs := [(-1), 0]) (b := ⟨nx11, [i6 (-1), i6 0], 3⟩) 4 (by kernel_rfl) ⟨_, _, rfl, rfl, ⟨_, _, rfl, rfl, rfl⟩⟩ (Nat.le_of_ble_eq_true rfl) (fun I32 hi32 hr23 => ?_)
    obtain ⟨t11, hA11, H⟩ := bnd H
    refine RL.callP 17 [.slice A4 t2.1.length c4, .slice (some ⟨nx11, 0, none⟩) 2 2] (some 82) (fun w v w' => ∃ I', Imm.le I32 I' ∧ armillaryref22_Same.Post I' w t11 v w') (by kernel_rfl) (by kernel_rfl) (fun w hs => ?_) ?_
    ·skip
     obtain ⟨JL3, hj3, hn3, hw3, hs⟩ := Sat.freeze (e := 3) (sz := 1) (S := A4) (n := t2.1.length) (cap := c4) (m := 1) hs (by kernel_rfl) (Reps.ext (Imm.le_trans (Imm.le_trans (Imm.le_trans (Imm.le_trans (Imm.le_trans (Imm.le_trans (Imm.le_trans (Imm.le_trans (Imm.le_trans (Imm.le_trans (Imm.le_trans (Imm.le_trans (Imm.le_trans (Imm.le_trans (Imm.le_trans (Imm.le_trans (Imm.le_trans (Imm.le_trans (Imm.le_trans (Imm.le_trans hi11 hi12) hi13) hi14) hi15) hi16) hi17) hi18) hi19) hi20) hi21) hi22) hi23) hi24) hi25) hi26) hi27) hi28) hi29) hi31) hi32) hp4) rfl
     exact (armillaryref22_Same.calls k JL3 t2.1 A4 c4 [(-1), 0] (some ⟨nx11, 0, none⟩) 2 _ hs.im hn3 hw3 (Nat.le_of_ble_eq_true rfl) (Rd.ext hj3 hr23) t11 hA11).mono (fun e w' ⟨v, hv, hp⟩ => ⟨v, hv, JL3, hj3, hp⟩)
    rintro w v w' hs ⟨I', hle, J, rfl, hg⟩
    refine RL.resume (X' := [orow 3 1 A1 t1.1.length c1 cs1, orow 3 1 A4 t2.1.length c4 cs4, orow 3 1 A7 t3.1.length c7 cs7, orow 3 1 A10 t4.1.length c10 cs10]) rfl (hs.call (hg.back hle)) ?_
    clear hs hg hle I' J
    generalize w'.heap.size = nx12
    clear w w'
    refine RL.s 2 [(84, .bool t11), (18, .bool t8.2), (16, .bool t7.2), (14, .bool t6.2), (13, i6 t6.1), (12, .bool t5.2), (11, i6 t5.1), (9, .slice A10 t4.1.length c10), (10, pt nx4 0), (7, .slice A7 t3.1.length c7), (2, .slice A1 t1.1.length c1), (1, .slice (some ⟨nx0 + 2, 0, none⟩) 2 2)] ?_
    refine RL.cases t11 (fun hb => ?_) (fun hb => ?_)
    ·have hc := hb
     rw [hb]
     rw [if_pos hc] at H; clear hb
     refine RL.sp 2 [(86, .slice (some ⟨nx12, 0, none⟩) 2 2), (85, .slice A7 t3.1.length c7), (84, .bool true), (18, .bool t8.2), (16, .bool t7.2), (14, .bool t6.2), (13, i6 t6.1), (12, .bool t5.2), (11, i6 t5.1), (9, .slice A10 t4.1.length c10), (10, pt nx4 0), (2, .slice A1 t1.1.length c1), (1, .slice (some ⟨nx0 + 2, 0, none⟩) 2 2)] (nx12 + 1) [⟨nx1, [.slice A2 t1.2.f0.length c2, .slice A3 t1.2.f1.length c3], 26⟩, ⟨nx2, [.slice A5 t2.2.f0.length c5, .slice A6 t2.2.f1.length c6], 26⟩, ⟨nx3, [.slice A8 t3.2.f0.length c8, .slice A9 t3.2.f1.length c9], 26⟩, ⟨nx4, [.slice A11 t4.2.f0.length c11, .slice A12 t4.2.f1.length c12], 26⟩, ⟨nx12, [i6 0, i6 1], 3⟩] ?_
     refine RL.freezeL (d := (Ty.int .i64)) (xs := [0, 1]) (b := ⟨nx12, [i6 0, i6 1], 3⟩) 4 (by kernel_rfl) ⟨_, _, rfl, rfl, ⟨_, _, rfl, rfl, rfl⟩⟩ (Nat.le_of_ble_eq_true rfl) (fun I33 hi33 hr24 => ?_)
     obtain ⟨t12, hA12, H⟩ := bnd H
     refine RL.callP 17 [.slice A7 t3.1.length c7, .slice (some ⟨nx12, 0, none⟩) 2 2] (some 87) (fun w v w' => ∃ I', Imm.le I33 I' ∧ armillaryref22_Same.Post I' w t12 v w') (by kernel_rfl) (by kernel_rfl) (fun w hs => ?_) ?_
     ·skip
      obtain ⟨JL4, hj4, hn4, hw4, hs⟩ := Sat.freeze (e := 3) (sz := 1) (S := A7) (n := t3.1.length) (cap := c7) (m := 2) hs (by kernel_rfl) (Reps.ext (Imm.le_trans (Imm.le_trans (Imm.le_trans (Imm.le_trans (Imm.le_trans (Imm.le_trans (Imm.le_trans (Imm.le_trans (Imm.le_trans (Imm.le_trans (Imm.le_trans (Imm.le_trans (Imm.le_trans (Imm.le_trans (Imm.le_trans hi17 hi18) hi19) hi20) hi21) hi22) hi23) hi24) hi25) hi26) hi27) hi28) hi29) hi31) hi32) hi33) hp7) rfl
      exact (armillaryref22_Same.calls k JL4 t3.1 A7 c7 [0, 1] (some ⟨nx12, 0, none⟩) 2 _ hs.im hn4 hw4 (Nat.le_of_ble_eq_true rfl) (Rd.ext hj4 hr24) t12 hA12).mono (fun e w' ⟨v, hv, hp⟩ => ⟨v, hv, JL4, hj4, hp⟩)
     rintro w v w' hs ⟨I', hle, J, rfl, hg⟩
     refine RL.resume (X' := [orow 3 1 A1 t1.1.length c1 cs1, orow 3 1 A4 t2.1.length c4 cs4, orow 3 1 A7 t3.1.length c7 cs7, orow 3 1 A10 t4.1.length c10 cs10]) rfl (hs.call (hg.back hle)) ?_
     clear hs hg hle I' J
     generalize w'.heap.size = nx13
     clear w w'
     refine RL.s 2 [(89, .bool t12), (18, .bool t8.2), (16, .bool t7.2), (14, .bool t6.2), (13, i6 t6.1), (12, .bool t5.2), (11, i6 t5.1), (9, .slice A10 t4.1.length c10), (10, pt nx4 0), (2, .slice A1 t1.1.length c1), (1, .slice (some ⟨nx0 + 2, 0, none⟩) 2 2)] ?_
     refine RL.cases t12 (fun hb => ?_) (fun hb => ?_)
     ·have hc := hb
      rw [hb]
      rw [if_pos hc] at H; clear hb
      refine RL.simK (K' := [(102, .bool ((W .i64 ((W .i64 ((t4.1.length : Int) + (t4.2.f0.length : Int))) + (t4.2.f1.length : Int))) == 0)), (18, .bool t8.2), (16, .bool t7.2), (14, .bool t6.2), (13, i6 t6.1), (12, .bool t5.2), (11, i6 t5.1), (2, .slice A1 t1.1.length c1), (1, .slice (some ⟨nx0 + 2, 0, none⟩) 2 2)]) [] (RFacts.nil _ _ _) 13 [.no, .no, .no, .l 3, .no, .no, .no, .l 3, .no, .no, .no, .no, .no] (by kernel_rfl) (by kernel_rfl) ?_
      refine RL.cases ((W .i64 ((W .i64 ((t4.1.length : Int) + (t4.2.f0.length : Int))) + (t4.2.f1.length : Int))) == 0) (fun hb => ?_) (fun hb => ?_)
      ·have hc := (beq_iff_eq.1 hb)
       rw [hb]
       rw [if_pos hc] at H; clear hb
       refine RL.s 4 [(106, .bool (t5.1 == 9)), (18, .bool t8.2), (16, .bool t7.2), (14, .bool t6.2), (13, i6 t6.1), (12, .bool t5.2), (2, .slice A1 t1.1.length c1), (1, .slice (some ⟨nx0 + 2, 0, none⟩) 2 2)] ?_
       refine RL.cases (t5.1 == 9) (fun hb => ?_) (fun hb => ?_)
       ·have hc := (beq_iff_eq.1 hb)
        rw [hb]
        rw [if_pos hc] at H; clear hb
        refine RL.s 3 [(109, .bool t5.2), (18, .bool t8.2), (16, .bool t7.2), (14, .bool t6.2), (13, i6 t6.1), (2, .slice A1 t1.1.length c1), (1, .slice (some ⟨nx0 + 2, 0, none⟩) 2 2)] ?_
        refine RL.cases t5.2 (fun hb => ?_) (fun hb => ?_)
        ·have hc := hb
         rw [hb]
         rw [if_pos hc] at H; clear hb
         refine RL.s 4 [(113, .bool (t6.1 == 7)), (18, .bool t8.2), (16, .bool t7.2), (14, .bool t6.2), (2, .slice A1 t1.1.length c1), (1, .slice (some ⟨nx0 + 2, 0, none⟩) 2 2)] ?_
         refine RL.cases (t6.1 == 7) (fun hb => ?_) (fun hb => ?_)
         ·have hc := (beq_iff_eq.1 hb)
          rw [hb]
          rw [if_pos hc] at H; clear hb
          refine RL.s 3 [(116, .bool t6.2), (18, .bool t8.2), (16, .bool t7.2), (2, .slice A1 t1.1.length c1), (1, .slice (some ⟨nx0 + 2, 0, none⟩) 2 2)] ?_
          refine RL.cases t6.2 (fun hb => ?_) (fun hb => ?_)
          ·have hc := hb
           rw [hb]
           rw [if_pos hc] at H; clear hb
           refine RL.s 4 [(120, .bool (!t7.2)), (18, .bool t8.2), (2, .slice A1 t1.1.length c1), (1, .slice (some ⟨nx0 + 2, 0, none⟩) 2 2)] ?_
           refine RL.cases t7.2 (fun hb => ?_) (fun hb => ?_)
           ·have hc := hb
            rw [hb]
            rw [if_pos hc] at H; clear hb
            refine RL.simK (K' := [(0, .bool false)]) [] (RFacts.nil _ _ _) 59 (.no :: .no :: .no :: .no :: .no :: .no :: .no :: .no :: .no :: .no :: .no :: .no :: .no :: .no :: .no :: .no :: .no :: .no :: .no :: .no :: .no :: .no :: .no :: .no :: .no :: .no :: .no :: .no :: .no :: .no :: .no :: .no :: .no :: .no :: .no :: .no :: .no :: .no :: .no :: .no :: .no :: .no :: .no :: .no :: .no :: .no :: .no :: .no :: .no :: .no :: .no :: .no :: .no :: .no :: .no :: .no :: .no :: .no :: .no :: []) (by kernel_rfl) (by kernel_rfl) ?_
            refine RL.nil (by kernel_rfl) ?_
            obtain rfl := Option.some.inj H
            refine QN.sel (K' := [(0, .bool false)]) (L' := [⟨nx1, [.slice A2 t1.2.f0.length c2, .slice A3 t1.2.f1.length c3], 26⟩, ⟨nx2, [.slice A5 t2.2.f0.length c5, .slice A6 t2.2.f1.length c6], 26⟩, ⟨nx3, [.slice A8 t3.2.f0.length c8, .slice A9 t3.2.f1.length c9], 26⟩, ⟨nx4, [.slice A11 t4.2.f0.length c11, .slice A12 t4.2.f1.length c12], 26⟩]) [] (by kernel_rfl) (by kernel_rfl) (.cons_cons _ (.cons_cons _ (.cons_cons _ (.cons_cons _ .slnil)))) ?_
            refine QN.norm (X' := []) rfl rfl rfl (by kernel_rfl) ?_
            exact hJ1 _ _ _ _ _ ⟨false, rfl, rfl, rfl, (Imm.le_trans (Imm.le_trans hi31 hi32) hi33), HK1⟩
           ·have hc := (Bool.eq_false_iff.1 hb)
            rw [hb]
            rw [if_neg hc] at H; clear hb
            refine RL.s 4 [(124, .bool (!t8.2)), (2, .slice A1 t1.1.length c1), (1, .slice (some ⟨nx0 + 2, 0, none⟩) 2 2)] ?_
            refine RL.cases t8.2 (fun hb => ?_) (fun hb => ?_)
            ·have hc := hb
             rw [hb]
             rw [if_pos hc] at H; clear hb
             refine RL.simK (K' := [(0, .bool false)]) [] (RFacts.nil _ _ _) 55 (.no :: .no :: .no :: .no :: .no :: .no :: .no :: .no :: .no :: .no :: .no :: .no :: .no :: .no :: .no :: .no :: .no :: .no :: .no :: .no :: .no :: .no :: .no :: .no :: .no :: .no :: .no :: .no :: .no :: .no :: .no :: .no :: .no :: .no :: .no :: .no :: .no :: .no :: .no :: .no :: .no :: .no :: .no :: .no :: .no :: .no :: .no :: .no :: .no :: .no :: .no :: .no :: .no :: .no :: .no :: []) (by kernel_rfl) (by kernel_rfl) ?_
             refine RL.nil (by kernel_rfl) ?_
             obtain rfl := Option.some.inj H
             refine QN.sel (K' := [(0, .bool false)]) (L' := [⟨nx1, [.slice A2 t1.2.f0.length c2, .slice A3 t1.2.f1.length c3], 26⟩, ⟨nx2, [.slice A5 t2.2.f0.length c5, .slice A6 t2.2.f1.length c6], 26⟩, ⟨nx3, [.slice A8 t3.2.f0.length c8, .slice A9 t3.2.f1.length c9], 26⟩, ⟨nx4, [.slice A11 t4.2.f0.length c11, .slice A12 t4.2.f1.length c12], 26⟩]) [] (by kernel_rfl) (by kernel_rfl) (.cons_cons _ (.cons_cons _ (.cons_cons _ (.cons_cons _ .slnil)))) ?_
             refine QN.norm (X' := []) rfl rfl rfl (by kernel_rfl) ?_
             exact hJ1 _ _ _ _ _ ⟨false, rfl, rfl, rfl, (Imm.le_trans (Imm.le_trans hi31 hi32) hi33), HK1⟩
            ·have hc := (Bool.eq_false_iff.1 hb)
             rw [hb]
             rw [if_neg hc] at H; clear hb
             refine RL.sp 5 [(129, .agg #[.slice (some ⟨nx13, 0, none⟩) 2 2, .slice (some ⟨nx13 + 1, 0, none⟩) 2 2]), (126, .slice A1 t1.1.length c1), (125, .slice (some ⟨nx0 + 2, 0, none⟩) 2 2), (124, .bool true), (2, .slice A1 t1.1.length c1), (1, .slice (some ⟨nx0 + 2, 0, none⟩) 2 2)] (nx13 + 2) [⟨nx1, [.slice A2 t1.2.f0.length c2, .slice A3 t1.2.f1.length c3], 26⟩, ⟨nx2, [.slice A5 t2.2.f0.length c5, .slice A6 t2.2.f1.length c6], 26⟩, ⟨nx3, [.slice A8 t3.2.f0.length c8, .slice A9 t3.2.f1.length c9], 26⟩, ⟨nx4, [.slice A11 t4.2.f0.length c11, .slice A12 t4.2.f1.length c12], 26⟩, ⟨nx13, [i6 3, i6 5], 2⟩, ⟨nx13 + 1, [i6 0, i6 2], 2⟩] ?_
             refine RL.freezeL (d := (Ty.int .i64)) (xs := [3, 5]) (b := ⟨nx13, [i6 3, i6 5], 2⟩) 4 (by kernel_rfl) ⟨_, _, rfl, rfl, ⟨_, _, rfl, rfl, rfl⟩⟩ (Nat.le_of_ble_eq_true rfl) (fun I34 hi34 hr25 => ?_)
             refine RL.freezeL (d := (Ty.int .i64)) (xs := [0, 2]) (b := ⟨nx13 + 1, [i6 0, i6 2], 2⟩) 4 (by kernel_rfl) ⟨_, _, rfl, rfl, ⟨_, _, rfl, rfl, rfl⟩⟩ (Nat.le_of_ble_eq_true rfl) (fun I35 hi35 hr26 => ?_)
             obtain ⟨t13, hA13, H⟩ := bnd H
             refine RL.callP 20 [.slice (some ⟨nx0 + 2, 0, none⟩) 2 2, .slice A1 t1.1.length c1, .agg #[.slice (some ⟨nx13, 0, none⟩) 2 2, .slice (some ⟨nx13 + 1, 0, none⟩) 2 2]] (some 130) (fun w v w' => ∃ I', Imm.le I35 I' ∧ assign_VerifyDuals.Post I' w t13 v w') (by kernel_rfl) (by kernel_rfl) (fun w hs => ?_) ?_
             ·skip
              obtain ⟨JL5, hj5, hn5, hw5, hs⟩ := Sat.freeze (e := 3) (sz := 1) (S := A1) (n := t1.1.length) (cap := c1) (m := 0) hs (by kernel_rfl) (Reps.ext (Imm.le_trans (Imm.le_trans (Imm.le_trans (Imm.le_trans (Imm.le_trans (Imm.le_trans (Imm.le_trans (Imm.le_trans (Imm.le_trans (Imm.le_trans (Imm.le_trans (Imm.le_trans (Imm.le_trans (Imm.le_trans (Imm.le_trans (Imm.le_trans (Imm.le_trans (Imm.le_trans (Imm.le_trans (Imm.le_trans (Imm.le_trans (Imm.le_trans (Imm.le_trans (Imm.le_trans (Imm.le_trans (Imm.le_trans (Imm.le_trans (Imm.le_trans (Imm.le_trans hi5 hi6) hi7) hi8) hi9) hi10) hi11) hi12) hi13) hi14) hi15) hi16) hi17) hi18) hi19) hi20) hi21) hi22) hi23) hi24) hi25) hi26) hi27) hi28) hi29) hi31) hi32) hi33) hi34) hi35) hp1) rfl
              exact (assign_VerifyDuals.calls k JL5 [[3, 5], [4, 7]] (some ⟨nx0 + 2, 0, none⟩) 2 t1.1 A1 c1 (⟨[3, 5], [0, 2]⟩ : S26) (some ⟨nx13, 0, none⟩) 2 (some ⟨nx13 + 1, 0, none⟩) 2 _ hs.im (Nat.le_of_ble_eq_true rfl) (Rd.ext hj5 (Rd.ext (Imm.le_trans (Imm.le_trans (Imm.le_trans (Imm.le_trans (Imm.le_trans (Imm.le_trans (Imm.le_trans (Imm.le_trans (Imm.le_trans (Imm.le_trans (Imm.le_trans (Imm.le_trans (Imm.le_trans (Imm.le_trans (Imm.le_trans (Imm.le_trans (Imm.le_trans (Imm.le_trans (Imm.le_trans (Imm.le_trans (Imm.le_trans (Imm.le_trans (Imm.le_trans (Imm.le_trans (Imm.le_trans (Imm.le_trans (Imm.le_trans (Imm.le_trans (Imm.le_trans (Imm.le_trans hi4 hi5) hi6) hi7) hi8) hi9) hi10) hi11) hi12) hi13) hi14) hi15) hi16) hi17) hi18) hi19) hi20) hi21) hi22) hi23) hi24) hi25) hi26) hi27) hi28) hi29) hi31) hi32) hi33) hi34) hi35) hr3)) hn5 hw5 (Nat.le_of_ble_eq_true rfl) (Rd.ext hj5 (Rd.ext hi35 hr25)) (Nat.le_of_ble_eq_true rfl) (Rd.ext hj5 hr26) t13 hA13).mono (fun e w' ⟨v, hv, hp⟩ => ⟨v, hv, JL5, hj5, hp⟩)
             rintro w v w' hs ⟨I', hle, J, rfl, hg⟩
             refine RL.resume (X' := [orow 3 1 A1 t1.1.length c1 cs1, orow 3 1 A4 t2.1.length c4 cs4, orow 3 1 A7 t3.1.length c7 cs7, orow 3 1 A10 t4.1.length c10 cs10]) rfl (hs.call (hg.back hle)) ?_
             clear hs hg hle I' J
             generalize w'.heap.size = nx14
             clear w w'
             refine RL.s 2 [(132, .bool t13), (2, .slice A1 t1.1.length c1), (1, .slice (some ⟨nx0 + 2, 0, none⟩) 2 2)] ?_
             refine RL.cases t13 (fun hb => ?_) (fun hb => ?_)
             ·have hc := hb
              rw [hb]
              rw [if_pos hc] at H; clear hb
              refine RL.sp 5 [(137, .agg #[.slice (some ⟨nx14, 0, none⟩) 2 2, .slice (some ⟨nx14 + 1, 0, none⟩) 2 2]), (134, .slice A1 t1.1.length c1), (133, .slice (some ⟨nx0 + 2, 0, none⟩) 2 2), (132, .bool true), (2, .slice A1 t1.1.length c1), (1, .slice (some ⟨nx0 + 2, 0, none⟩) 2 2)] (nx14 + 2) [⟨nx1, [.slice A2 t1.2.f0.length c2, .slice A3 t1.2.f1.length c3], 26⟩, ⟨nx2, [.slice A5 t2.2.f0.length c5, .slice A6 t2.2.f1.length c6], 26⟩, ⟨nx3, [.slice A8 t3.2.f0.length c8, .slice A9 t3.2.f1.length c9], 26⟩, ⟨nx4, [.slice A11 t4.2.f0.length c11, .slice A12 t4.2.f1.length c12], 26⟩, ⟨nx14, [i6 3, i6 5], 2⟩, ⟨nx14 + 1, [i6 0, i6 1], 2⟩] ?_
              refine RL.freezeL (d := (Ty.int .i64)) (xs := [3, 5]) (b := ⟨nx14, [i6 3, i6 5], 2⟩) 4 (by kernel_rfl) ⟨_, _, rfl, rfl, ⟨_, _, rfl, rfl, rfl⟩⟩ (Nat.le_of_ble_eq_true rfl) (fun I36 hi36 hr27 => ?_)
              refine RL.freezeL (d := (Ty.int .i64)) (xs := [0, 1]) (b := ⟨nx14 + 1, [i6 0, i6 1], 2⟩) 4 (by kernel_rfl) ⟨_, _, rfl, rfl, ⟨_, _, rfl, rfl, rfl⟩⟩ (Nat.le_of_ble_eq_true rfl) (fun I37 hi37 hr28 => ?_)
              obtain ⟨t14, hA14, H⟩ := bnd H
              refine RL.callP 20 [.slice (some ⟨nx0 + 2, 0, none⟩) 2 2, .slice A1 t1.1.length c1, .agg #[.slice (some ⟨nx14, 0, none⟩) 2 2, .slice (some ⟨nx14 + 1, 0, none⟩) 2 2]] (some 138) (fun w v w' => ∃ I', Imm.le I37 I' ∧ assign_VerifyDuals.Post I' w t14 v w') (by kernel_rfl) (by kernel_rfl) (fun w hs => ?_) ?_
              ·skip
               obtain ⟨JL6, hj6, hn6, hw6, hs⟩ := Sat.freeze (e := 3) (sz := 1) (S := A1) (n := t1.1.length) (cap := c1) (m := 0) hs (by kernel_rfl) (Reps.ext (Imm.le_trans (Imm.le_trans (Imm.le_trans (Imm.le_trans (Imm.le_trans (Imm.le_trans (Imm.le_trans (Imm.le_trans (Imm.le_trans (Imm.le_trans (Imm.le_trans (Imm.le_trans (Imm.le_trans (Imm.le_trans (Imm.le_trans (Imm.le_trans (Imm.le_trans (Imm.le_trans (Imm.le_trans (Imm.le_trans (Imm.le_trans (Imm.le_trans (Imm.le_trans (Imm.le_trans (Imm.le_trans (Imm.le_trans (Imm.le_trans (Imm.le_trans (Imm.le_trans (Imm.le_trans (Imm.le_trans hi5 hi6) hi7) hi8) hi9) hi10) hi11) hi12) hi13) hi14) hi15) hi16) hi17) hi18) hi19) hi20) hi21) hi22) hi23) hi24) hi25) hi26) hi27) hi28) hi29) hi31) hi32) hi33) hi34) hi35) hi36) hi37) hp1) rfl
               exact (assign_VerifyDuals.calls k JL6 [[3, 5], [4, 7]] (some ⟨nx0 + 2, 0, none⟩) 2 t1.1 A1 c1 (⟨[3, 5], [0, 1]⟩ : S26) (some ⟨nx14, 0, none⟩) 2 (some ⟨nx14 + 1, 0, none⟩) 2 _ hs.im (Nat.le_of_ble_eq_true rfl) (Rd.ext hj6 (Rd.ext (Imm.le_trans (Imm.le_trans (Imm.le_trans (Imm.le_trans (Imm.le_trans (Imm.le_trans (Imm.le_trans (Imm.le_trans (Imm.le_trans (Imm.le_trans (Imm.le_trans (Imm.le_trans (Imm.le_trans (Imm.le_trans (Imm.le_trans (Imm.le_trans (Imm.le_trans (Imm.le_trans (Imm.le_trans (Imm.le_trans (Imm.le_trans (Imm.le_trans (Imm.le_trans (Imm.le_trans (Imm.le_trans (Imm.le_trans (Imm.le_trans (Imm.le_trans (Imm.le_trans (Imm.le_trans (Imm.le_trans (Imm.le_trans hi4 hi5) hi6) hi7) hi8) hi9) hi10) hi11) hi12) hi13) hi14) hi15) hi16) hi17) hi18) hi19) hi20) hi21) hi22) hi23) hi24) hi25) hi26) hi27) hi28) hi29) hi31) hi32) hi33) hi34) hi35) hi36) hi37) hr3)) hn6 hw6 (Nat.le_of_ble_eq_true rfl) (Rd.ext hj6 (Rd.ext hi37 hr27)) (Nat.le_of_ble_eq_true rfl) (Rd.ext hj6 hr28) t14 hA14).mono (fun e w' ⟨v, hv, hp⟩ => ⟨v, hv, JL6, hj6, hp⟩)
              rintro w v w' hs ⟨I', hle, J, rfl, hg⟩
              refine RL.resume (X' := [orow 3 1 A1 t1.1.length c1 cs1, orow 3 1 A4 t2.1.length c4 cs4, orow 3 1 A7 t3.1.length c7 cs7, orow 3 1 A10 t4.1.length c10 cs10]) rfl (hs.call (hg.back hle)) ?_
              clear hs hg hle I' J
              generalize w'.heap.size = nx15
              clear w w'
              refine RL.s 3 [(141, .bool (!t14)), (2, .slice A1 t1.1.length c1), (1, .slice (some ⟨nx0 + 2, 0, none⟩) 2 2)] ?_
              refine RL.cases t14 (fun hb => ?_) (fun hb => ?_)
              ·have hc := hb
               rw [hb]
               rw [if_pos hc] at H; clear hb
               refine RL.simK (K' := [(0, .bool false)]) [] (RFacts.nil _ _ _) 38 (.no :: .no :: .no :: .no :: .no :: .no :: .no :: .no :: .no :: .no :: .no :: .no :: .no :: .no :: .no :: .no :: .no :: .no :: .no :: .no :: .no :: .no :: .no :: .no :: .no :: .no :: .no :: .no :: .no :: .no :: .no :: .no :: .no :: .no :: .no :: .no :: .no :: .no :: []) (by kernel_rfl) (by kernel_rfl) ?_
               refine RL.nil (by kernel_rfl) ?_
               obtain rfl := Option.some.inj H
               refine QN.sel (K' := [(0, .bool false)]) (L' := [⟨nx1, [.slice A2 t1.2.f0.length c2, .slice A3 t1.2.f1.length c3], 26⟩, ⟨nx2, [.slice A5 t2.2.f0.length c5, .slice A6 t2.2.f1.length c6], 26⟩, ⟨nx3, [.slice A8 t3.2.f0.length c8, .slice A9 t3.2.f1.length c9], 26⟩, ⟨nx4, [.slice A11 t4.2.f0.length c11, .slice A12 t4.2.f1.length c12], 26⟩]) [] (by kernel_rfl) (by kernel_rfl) (.cons_cons _ (.cons_cons _ (.cons_cons _ (.cons_cons _ .slnil)))) ?_
               refine QN.norm (X' := []) rfl rfl rfl (by kernel_rfl) ?_
               exact hJ1 _ _ _ _ _ ⟨false, rfl, rfl, rfl, (Imm.le_trans (Imm.le_trans (Imm.le_trans (Imm.le_trans (Imm.le_trans (Imm.le_trans hi31 hi32) hi33) hi34) hi35) hi36) hi37), HK1⟩
              ·have hc := (Bool.eq_false_iff.1 hb)
               rw [hb]
               rw [if_neg hc] at H; clear hb
               refine RL.sp 5 [(146, .agg #[.slice (some ⟨nx15, 0, none⟩) 2 2, .slice (some ⟨nx15 + 1, 0, none⟩) 2 2]), (143, .slice A1 t1.1.length c1), (142, .slice (some ⟨nx0 + 2, 0, none⟩) 2 2), (141, .bool true), (1, .slice (some ⟨nx0 + 2, 0, none⟩) 2 2)] (nx15 + 2) [⟨nx1, [.slice A2 t1.2.f0.length c2, .slice A3 t1.2.f1.length c3], 26⟩, ⟨nx2, [.slice A5 t2.2.f0.length c5, .slice A6 t2.2.f1.length c6], 26⟩, ⟨nx3, [.slice A8 t3.2.f0.length c8, .slice A9 t3.2.f1.length c9], 26⟩, ⟨nx4, [.slice A11 t4.2.f0.length c11, .slice A12 t4.2.f1.length c12], 26⟩, ⟨nx15, [i6 4, i6 5], 2⟩, ⟨nx15 + 1, [i6 0, i6 2], 2⟩] ?_
               refine RL.freezeL (d := (Ty.int .i64)) (xs := [4, 5]) (b := ⟨nx15, [i6 4, i6 5], 2⟩) 4 (by kernel_rfl) ⟨_, _, rfl, rfl, ⟨_, _, rfl, rfl, rfl⟩⟩ (Nat.le_of_ble_eq_true rfl) (fun I38 hi38 hr29 => ?_)
               refine RL.freezeL (d := (Ty.int .i64)) (xs := [0, 2]) (b := ⟨nx15 + 1, [i6 0, i6 2], 2⟩) 4 (by kernel_rfl) ⟨_, _, rfl, rfl, ⟨_, _, rfl, rfl, rfl⟩⟩ (Nat.le_of_ble_eq_true rfl) (fun I39 hi39 hr30 => ?_)
               obtain ⟨t15, hA15, H⟩ := bnd H
               refine RL.callP 20 [.slice (some ⟨nx0 + 2, 0, none⟩) 2 2, .slice A1 t1.1.length c1, .agg #[.slice (some ⟨nx15, 0, none⟩) 2 2, .slice (some ⟨nx15 + 1, 0, none⟩) 2 2]] (some 147) (fun w v w' => ∃ I', Imm.le I39 I' ∧ assign_VerifyDuals.Post I' w t15 v w') (by kernel_rfl) (by kernel_rfl) (fun w hs => ?_) ?_
               ·skip
                obtain ⟨JL7, hj7, hn7, hw7, hs⟩ := Sat.freeze (e := 3) (sz := 1) (S := A1) (n := t1.1.length) (cap := c1) (m := 0) hs (by kernel_rfl) (Reps.ext (Imm.le_trans (Imm.le_trans (Imm.le_trans (Imm.le_trans (Imm.le_trans (Imm.le_trans (Imm.le_trans (Imm.le_trans (Imm.le_trans (Imm.le_trans (Imm.le_trans (Imm.le_trans (Imm.le_trans (Imm.le_trans (Imm.le_trans (Imm.le_trans (Imm.le_trans (Imm.le_trans (Imm.le_trans (Imm.le_trans (Imm.le_trans (Imm.le_trans (Imm.le_trans (Imm.le_trans (Imm.le_trans (Imm.le_trans (Imm.le_trans (Imm.le_trans (Imm.le_trans (Imm.le_trans (Imm.le_trans (Imm.le_trans (Imm.le_trans hi5 hi6) hi7) hi8) hi9) hi10) hi11) hi12) hi13) hi14) hi15) hi16) hi17) hi18) hi19) hi20) hi21) hi22) hi23) hi24) hi25) hi26) hi27) hi28) hi29) hi31) hi32) hi33) hi34) hi35) hi36) hi37) hi38) hi39) hp1) rfl
                exact (assign_VerifyDuals.calls k JL7 [[3, 5], [4, 7]] (some ⟨nx0 + 2, 0, none⟩) 2 t1.1 A1 c1 (⟨[4, 5], [0, 2]⟩ : S26) (some ⟨nx15, 0, none⟩) 2 (some ⟨nx15 + 1, 0, none⟩) 2 _ hs.im (Nat.le_of_ble_eq_true rfl) (Rd.ext hj7 (Rd.ext (Imm.le_trans (Imm.le_trans (Imm.le_trans (Imm.le_trans (Imm.le_trans (Imm.le_trans (Imm.le_trans (Imm.le_trans (Imm.le_trans (Imm.le_trans (Imm.le_trans (Imm.le_trans (Imm.le_trans (Imm.le_trans (Imm.le_trans (Imm.le_trans (Imm.le_trans (Imm.le_trans (Imm.le_trans (Imm.le_trans (Imm.le_trans (Imm.le_trans (Imm.le_trans (Imm.le_trans (Imm.le_trans (Imm.le_trans (Imm.le_trans (Imm.le_trans (Imm.le_trans (Imm.le_trans (Imm.le_trans (Imm.le_trans (Imm.le_trans (Imm.le_trans hi4 hi5) hi6) hi7) hi8) hi9) hi10) hi11) hi12) hi13) hi14) hi15) hi16) hi17) hi18) hi19) hi20) hi21) hi22) hi23) hi24) hi25) hi26) hi27) hi28) hi29) hi31) hi32) hi33) hi34) hi35) hi36) hi37) hi38) hi39) hr3)) hn7 hw7 (Nat.le_of_ble_eq_true rfl) (Rd.ext hj7 (Rd.ext hi39 hr29)) (Nat.le_of_ble_eq_true rfl) (Rd.ext hj7 hr30) t15 hA15).mono (fun e w' ⟨v, hv, hp⟩ => ⟨v, hv, JL7, hj7, hp⟩)
               rintro w v w' hs ⟨I', hle, J, rfl, hg⟩
               refine RL.resume (X' := [orow 3 1 A1 t1.1.length c1 cs1, orow 3 1 A4 t2.1.length c4 cs4, orow 3 1 A7 t3.1.length c7 cs7, orow 3 1 A10 t4.1.length c10 cs10]) rfl (hs.call (hg.back hle)) ?_
               clear hs hg hle I' J
               generalize w'.heap.size = nx16
               clear w w'
               refine RL.s 3 [(150, .bool (!t15)), (1, .slice (some ⟨nx0 + 2, 0, none⟩) 2 2)] ?_
               refine RL.cases t15 (fun hb => ?_) (fun hb => ?_)
               ·have hc := hb
                rw [hb]
                rw [if_pos hc] at H; clear hb
                refine RL.simK (K' := [(0, .bool false)]) [] (RFacts.nil _ _ _) 29 (.no :: .no :: .no :: .no :: .no :: .no :: .no :: .no :: .no :: .no :: .no :: .no :: .no :: .no :: .no :: .no :: .no :: .no :: .no :: .no :: .no :: .no :: .no :: .no :: .no :: .no :: .no :: .no :: .no :: []) (by kernel_rfl) (by kernel_rfl) ?_
                refine RL.nil (by kernel_rfl) ?_
                obtain rfl := Option.some.inj H
                refine QN.sel (K' := [(0, .bool false)]) (L' := [⟨nx1, [.slice A2 t1.2.f0.length c2, .slice A3 t1.2.f1.length c3], 26⟩, ⟨nx2, [.slice A5 t2.2.f0.length c5, .slice A6 t2.2.f1.length c6], 26⟩, ⟨nx3, [.slice A8 t3.2.f0.length c8, .slice A9 t3.2.f1.length c9], 26⟩, ⟨nx4, [.slice A11 t4.2.f0.length c11, .slice A12 t4.2.f1.length c12], 26⟩]) [] (by kernel_rfl) (by kernel_rfl) (.cons_cons _ (.cons_cons _ (.cons_cons _ (.cons_cons _ .slnil)))) ?_
                refine QN.norm (X' := []) rfl rfl rfl (by kernel_rfl) ?_
                exact hJ1 _ _ _ _ _ ⟨false, rfl, rfl, rfl, (Imm.le_trans (Imm.le_trans (Imm.le_trans (Imm.le_trans (Imm.le_trans (Imm.le_trans (Imm.le_trans (Imm.le_trans hi31 hi32) hi33) hi34) hi35) hi36) hi37) hi38) hi39), HK1⟩
               ·have hc := (Bool.eq_false_iff.1 hb)
                rw [hb]
                rw [if_neg hc] at H; clear hb
                refine RL.sp 5 [(155, .agg #[.slice (some ⟨nx16 + 1, 0, none⟩) 2 2, .slice (some ⟨nx16 + 2, 0, none⟩) 2 2]), (152, .slice (some ⟨nx16, 0, none⟩) 2 2), (151, .slice (some ⟨nx0 + 2, 0, none⟩) 2 2), (150, .bool true), (1, .slice (some ⟨nx0 + 2, 0, none⟩) 2 2)] (nx16 + 3) [⟨nx1, [.slice A2 t1.2.f0.length c2, .slice A3 t1.2.f1.length c3], 26⟩, ⟨nx2, [.slice A5 t2.2.f0.length c5, .slice A6 t2.2.f1.length c6], 26⟩, ⟨nx3, [.slice A8 t3.2.f0.length c8, .slice A9 t3.2.f1.length c9], 26⟩, ⟨nx4, [.slice A11 t4.2.f0.length c11, .slice A12 t4.2.f1.length c12], 26⟩, ⟨nx16, [i6 1, i6 0], 3⟩, ⟨nx16 + 1, [i6 3, i6 5], 2⟩, ⟨nx16 + 2, [i6 0, i6 2], 2⟩] ?_
                refine RL.freezeL (d := (Ty.int .i64)) (xs := [1, 0]) (b := ⟨nx16, [i6 1, i6 0], 3⟩) 4 (by kernel_rfl) ⟨_, _, rfl, rfl, ⟨_, _, rfl, rfl, rfl⟩⟩ (Nat.le_of_ble_eq_true rfl) (fun I40 hi40 hr31 => ?_)
                refine RL.freezeL (d := (Ty.int .i64)) (xs := [3, 5]) (b := ⟨nx16 + 1, [i6 3, i6 5], 2⟩) 4 (by kernel_rfl) ⟨_, _, rfl, rfl, ⟨_, _, rfl, rfl, rfl⟩⟩ (Nat.le_of_ble_eq_true rfl) (fun I41 hi41 hr32 => ?_)
                refine RL.freezeL (d := (Ty.int .i64)) (xs := [0, 2]) (b := ⟨nx16 + 2, [i6 0, i6 2], 2⟩) 4 (by kernel_rfl) ⟨_, _, rfl, rfl, ⟨_, _, rfl, rfl, rfl⟩⟩ (Nat.le_of_ble_eq_true rfl) (fun I42 hi42 hr33 => ?_)
                obtain ⟨t16, hA16, H⟩ := bnd H
                refine RL.callP 20 [.slice (some ⟨nx0 + 2, 0, none⟩) 2 2, .slice (some ⟨nx16, 0, none⟩) 2 2, .agg #[.slice (some ⟨nx16 + 1, 0, none⟩) 2 2, .slice (some ⟨nx16 + 2, 0, none⟩) 2 2]] (some 156) (fun w => assign_VerifyDuals.Post I42 w t16) (by kernel_rfl) (by kernel_rfl) (fun w hs => assign_VerifyDuals.calls k I42 [[3, 5], [4, 7]] (some ⟨nx0 + 2, 0, none⟩) 2 [1, 0] (some ⟨nx16, 0, none⟩) 2 (⟨[3, 5], [0, 2]⟩ : S26) (some ⟨nx16 + 1, 0, none⟩) 2 (some ⟨nx16 + 2, 0, none⟩) 2 w hs.im (Nat.le_of_ble_eq_true rfl) (Rd.ext (Imm.le_trans (Imm.le_trans (Imm.le_trans (Imm.le_trans (Imm.le_trans (Imm.le_trans (Imm.le_trans (Imm.le_trans (Imm.le_trans (Imm.le_trans (Imm.le_trans (Imm.le_trans (Imm.le_trans (Imm.le_trans (Imm.le_trans (Imm.le_trans (Imm.le_trans (Imm.le_trans (Imm.le_trans (Imm.le_trans (Imm.le_trans (Imm.le_trans (Imm.le_trans (Imm.le_trans (Imm.le_trans (Imm.le_trans (Imm.le_trans (Imm.le_trans (Imm.le_trans (Imm.le_trans (Imm.le_trans (Imm.le_trans (Imm.le_trans (Imm.le_trans (Imm.le_trans (Imm.le_trans (Imm.le_trans hi4 hi5) hi6) hi7) hi8) hi9) hi10) hi11) hi12) hi13) hi14) hi15) hi16) hi17) hi18) hi19) hi20) hi21) hi22) hi23) hi24) hi25) hi26) hi27) hi28) hi29) hi31) hi32) hi33) hi34) hi35) hi36) hi37) hi38) hi39) hi40) hi41) hi42) hr3) (Nat.le_of_ble_eq_true rfl) (Rd.ext (Imm.le_trans hi41 hi42) hr31) (Nat.le_of_ble_eq_true rfl) (Rd.ext hi42 hr32) (Nat.le_of_ble_eq_true rfl) hr33 t16 hA16) ?_
                rintro w v w' hs ⟨I43, rfl, hg⟩
                have hi43 := hg.le
                refine RL.resume (X' := [orow 3 1 A1 t1.1.length c1 cs1, orow 3 1 A4 t2.1.length c4 cs4, orow 3 1 A7 t3.1.length c7 cs7, orow 3 1 A10 t4.1.length c10 cs10]) rfl (hs.call hg) ?_
                clear hs hg
                generalize w'.heap.size = nx17
                clear w w'
                refine RL.s 3 [(159, .bool (!t16)), (1, .slice (some ⟨nx0 + 2, 0, none⟩) 2 2)] ?_
                refine RL.cases t16 (fun hb => ?_) (fun hb => ?_)
                ·have hc := hb
                 rw [hb]
                 rw [if_pos hc] at H; clear hb
                 refine RL.s 20 [(0, .bool false)] ?_
                 refine RL.nil (by kernel_rfl) ?_
                 obtain rfl := Option.some.inj H
                 refine QN.sel (K' := [(0, .bool false)]) (L' := [⟨nx1, [.slice A2 t1.2.f0.length c2, .slice A3 t1.2.f1.length c3], 26⟩, ⟨nx2, [.slice A5 t2.2.f0.length c5, .slice A6 t2.2.f1.length c6], 26⟩, ⟨nx3, [.slice A8 t3.2.f0.length c8, .slice A9 t3.2.f1.length c9], 26⟩, ⟨nx4, [.slice A11 t4.2.f0.length c11, .slice A12 t4.2.f1.length c12], 26⟩]) [] (by kernel_rfl) (by kernel_rfl) (.cons_cons _ (.cons_cons _ (.cons_cons _ (.cons_cons _ .slnil)))) ?_
                 refine QN.norm (X' := []) rfl rfl rfl (by kernel_rfl) ?_
                 exact hJ1 _ _ _ _ _ ⟨false, rfl, rfl, rfl, (Imm.le_trans (Imm.le_trans (Imm.le_trans (Imm.le_trans (Imm.le_trans (Imm.le_trans (Imm.le_trans (Imm.le_trans (Imm.le_trans (Imm.le_trans (Imm.le_trans (Imm.le_trans hi31 hi32) hi33) hi34) hi35) hi36) hi37) hi38) hi39) hi40) hi41) hi42) hi43), HK1⟩
                ·have hc := (Bool.eq_false_iff.1 hb)
                 rw [hb]
                 rw [if_neg hc] at H; clear hb
                 refine RL.s 1 [(160, .slice (some ⟨nx0 + 2, 0, none⟩) 2 2), (159, .bool true)] ?_
                 obtain ⟨t17, hA17, H⟩ := bnd H
                 refine RL.callP 11 [.slice (some ⟨nx0 + 2, 0, none⟩) 2 2] (some 161) (fun w => assign_Valid.Post I43 w t17) (by kernel_rfl) (by kernel_rfl) (fun w hs => assign_Valid.calls k I43 [[3, 5], [4, 7]] (some ⟨nx0 + 2, 0, none⟩) 2 w hs.im (Nat.le_of_ble_eq_true rfl) (Rd.ext (Imm.le_trans (Imm.le_trans (Imm.le_trans (Imm.le_trans (Imm.le_trans (Imm.le_trans (Imm.le_trans (Imm.le_trans (Imm.le_trans (Imm.le_trans (Imm.le_trans (Imm.le_trans (Imm.le_trans (Imm.le_trans (Imm.le_trans (Imm.le_trans (Imm.le_trans (Imm.le_trans (Imm.le_trans (Imm.le_trans (Imm.le_trans (Imm.le_trans (Imm.le_trans (Imm.le_trans (Imm.le_trans (Imm.le_trans (Imm.le_trans (Imm.le_trans (Imm.le_trans (Imm.le_trans (Imm.le_trans (Imm.le_trans (Imm.le_trans (Imm.le_trans (Imm.le_trans (Imm.le_trans (Imm.le_trans (Imm.le_trans hi4 hi5) hi6) hi7) hi8) hi9) hi10) hi11) hi12) hi13) hi14) hi15) hi16) hi17) hi18) hi19) hi20) hi21) hi22) hi23) hi24) hi25) hi26) hi27) hi28) hi29) hi31) hi32) hi33) hi34) hi35) hi36) hi37) hi38) hi39) hi40) hi41) hi42) hi43) hr3) t17 hA17) ?_
                 rintro w v w' hs ⟨I44, rfl, hg⟩
                 have hi44 := hg.le
                 refine RL.resume (X' := [orow 3 1 A1 t1.1.length c1 cs1, orow 3 1 A4 t2.1.length c4 cs4, orow 3 1 A7 t3.1.length c7 cs7, orow 3 1 A10 t4.1.length c10 cs10]) rfl (hs.call hg) ?_
                 clear hs hg
                 generalize w'.heap.size = nx18
                 clear w w'
                 refine RL.s 2 [(163, .bool t17)] ?_
                 refine RL.cases t17 (fun hb => ?_) (fun hb => ?_)
                 ·have hc := hb
                  rw [hb]
                  rw [if_pos hc] at H; clear hb
                  obtain ⟨t18, hA18, H⟩ := bnd H
                  refine RL.callP 11 [.slice none 0 0] (some 164) (fun w => assign_Valid.Post I44 w t18) (by kernel_rfl) (by kernel_rfl) (fun w hs => assign_Valid.calls k I44 [] none 0 w hs.im (Nat.le_refl _) (Rd.nil _ _ _) t18 hA18) ?_
                  rintro w v w' hs ⟨I45, rfl, hg⟩
                  have hi45 := hg.le
                  refine RL.resume (X' := [orow 3 1 A1 t1.1.length c1 cs1, orow 3 1 A4 t2.1.length c4 cs4, orow 3 1 A7 t3.1.length c7 cs7, orow 3 1 A10 t4.1.length c10 cs10]) rfl (hs.call hg) ?_
                  clear hs hg
                  generalize w'.heap.size = nx19
                  clear w w'
                  refine RL.s 2 [(166, .bool t18)] ?_
                  refine RL.cases t18 (fun hb => ?_) (fun hb => ?_)
                  ·have hc := hb
                   rw [hb]
                   rw [if_pos hc] at H; clear hb
                   refine RL.sp 3 [(169, .slice (some ⟨nx19 + 2, 0, none⟩) 2 2), (166, .bool true)] (nx19 + 3) [⟨nx1, [.slice A2 t1.2.f0.length c2, .slice A3 t1.2.f1.length c3], 26⟩, ⟨nx2, [.slice A5 t2.2.f0.length c5, .slice A6 t2.2.f1.length c6], 26⟩, ⟨nx3, [.slice A8 t3.2.f0.length c8, .slice A9 t3.2.f1.length c9], 26⟩, ⟨nx4, [.slice A11 t4.2.f0.length c11, .slice A12 t4.2.f1.length c12], 26⟩, ⟨nx19, [i6 1], 2⟩, ⟨nx19 + 1, [], 2⟩, ⟨nx19 + 2, [.slice (some ⟨nx19, 0, none⟩) 1 1, .slice (some ⟨nx19 + 1, 0, none⟩) 0 0], 24⟩] ?_
                   refine RL.freezeL (d := (Ty.int .i64)) (xs := [1]) (b := ⟨nx19, [i6 1], 2⟩) 4 (by kernel_rfl) ⟨_, _, rfl, rfl, rfl⟩ (Nat.le_of_ble_eq_true rfl) (fun I46 hi46 hr34 => ?_)
                   refine RL.freezeL (d := (Ty.int .i64)) (xs := []) (b := ⟨nx19 + 1, [], 2⟩) 4 (by kernel_rfl) rfl (Nat.le_of_ble_eq_true rfl) (fun I47 hi47 hr35 => ?_)
                   refine RL.freezeL (d := (Ty.slice (Ty.int .i64))) (xs := [[1], []]) (b := ⟨nx19 + 2, [.slice (some ⟨nx19, 0, none⟩) 1 1, .slice (some ⟨nx19 + 1, 0, none⟩) 0 0], 24⟩) 4 (by kernel_rfl) ⟨_, _, rfl, ⟨_, _, rfl, (Nat.le_of_ble_eq_true rfl), (Rd.ext hi47 hr34)⟩, ⟨_, _, rfl, ⟨_, _, rfl, (Nat.le_of_ble_eq_true rfl), hr35⟩, rfl⟩⟩ (Nat.le_of_ble_eq_true rfl) (fun I48 hi48 hr36 => ?_)
                   obtain ⟨t19, hA19, H⟩ := bnd H
                   refine RL.callP 11 [.slice (some ⟨nx19 + 2, 0, none⟩) 2 2] (some 170) (fun w => assign_Valid.Post I48 w t19) (by kernel_rfl) (by kernel_rfl) (fun w hs => assign_Valid.calls k I48 [[1], []] (some ⟨nx19 + 2, 0, none⟩) 2 w hs.im (Nat.le_of_ble_eq_true rfl) hr36 t19 hA19) ?_
                   rintro w v w' hs ⟨I49, rfl, hg⟩
                   have hi49 := hg.le
                   refine RL.resume (X' := [orow 3 1 A1 t1.1.length c1 cs1, orow 3 1 A4 t2.1.length c4 cs4, orow 3 1 A7 t3.1.length c7 cs7, orow 3 1 A10 t4.1.length c10 cs10]) rfl (hs.call hg) ?_
                   clear hs hg
                   generalize w'.heap.size = nx20
                   clear w w'
                   refine RL.s 3 [(173, .bool (!t19))] ?_
                   refine RL.cases t19 (fun hb => ?_) (fun hb => ?_)
                   ·have hc := hb
                    rw [hb]
                    rw [if_pos hc] at H; clear hb
                    refine RL.s 6 [(0, .bool false)] ?_
                    refine RL.nil (by kernel_rfl) ?_
                    obtain rfl := Option.some.inj H
                    refine QN.sel (K' := [(0, .bool false)]) (L' := [⟨nx1, [.slice A2 t1.2.f0.length c2, .slice A3 t1.2.f1.length c3], 26⟩, ⟨nx2, [.slice A5 t2.2.f0.length c5, .slice A6 t2.2.f1.length c6], 26⟩, ⟨nx3, [.slice A8 t3.2.f0.length c8, .slice A9 t3.2.f1.length c9], 26⟩, ⟨nx4, [.slice A11 t4.2.f0.length c11, .slice A12 t4.2.f1.length c12], 26⟩]) [] (by kernel_rfl) (by kernel_rfl) (.cons_cons _ (.cons_cons _ (.cons_cons _ (.cons_cons _ .slnil)))) ?_
                    refine QN.norm (X' := []) rfl rfl rfl (by kernel_rfl) ?_
                    exact hJ1 _ _ _ _ _ ⟨false, rfl, rfl, rfl, (Imm.le_trans (Imm.le_trans (Imm.le_trans (Imm.le_trans (Imm.le_trans (Imm.le_trans (Imm.le_trans (Imm.le_trans (Imm.le_trans (Imm.le_trans (Imm.le_trans (Imm.le_trans (Imm.le_trans (Imm.le_trans (Imm.le_trans (Imm.le_trans (Imm.le_trans (Imm.le_trans hi31 hi32) hi33) hi34) hi35) hi36) hi37) hi38) hi39) hi40) hi41) hi42) hi43) hi44) hi45) hi46) hi47) hi48) hi49), HK1⟩
                   ·have hc := (Bool.eq_false_iff.1 hb)
                    rw [hb]
                    rw [if_neg hc] at H; clear hb
                    refine RL.sp 2 [(175, .slice (some ⟨nx20 + 1, 0, none⟩) 1 1), (173, .bool true)] (nx20 + 2) [⟨nx1, [.slice A2 t1.2.f0.length c2, .slice A3 t1.2.f1.length c3], 26⟩, ⟨nx2, [.slice A5 t2.2.f0.length c5, .slice A6 t2.2.f1.length c6], 26⟩, ⟨nx3, [.slice A8 t3.2.f0.length c8, .slice A9 t3.2.f1.length c9], 26⟩, ⟨nx4, [.slice A11 t4.2.f0.length c11, .slice A12 t4.2.f1.length c12], 26⟩, ⟨nx20, [i6 (-1)], 2⟩, ⟨nx20 + 1, [.slice (some ⟨nx20, 0, none⟩) 1 1], 24⟩] ?_
                    refine RL.freezeL (d := (Ty.int .i64)) (xs := [(-1)]) (b := ⟨nx20, [i6 (-1)], 2⟩) 4 (by kernel_rfl) ⟨_, _, rfl, rfl, rfl⟩ (Nat.le_of_ble_eq_true rfl) (fun I50 hi50 hr37 => ?_)
                    refine RL.freezeL (d := (Ty.slice (Ty.int .i64))) (xs := [[(-1)]]) (b := ⟨nx20 + 1, [.slice (some ⟨nx20, 0, none⟩) 1 1], 24⟩) 4 (by kernel_rfl) ⟨_, _, rfl, ⟨_, _, rfl, (Nat.le_of_ble_eq_true rfl), hr37⟩, rfl⟩ (Nat.le_of_ble_eq_true rfl) (fun I51 hi51 hr38 => ?_)
                    obtain ⟨t20, hA20, H⟩ := bnd H
                    refine RL.callP 11 [.slice (some ⟨nx20 + 1, 0, none⟩) 1 1] (some 176) (fun w => assign_Valid.Post I51 w t20) (by kernel_rfl) (by kernel_rfl) (fun w hs => assign_Valid.calls k I51 [[(-1)]] (some ⟨nx20 + 1, 0, none⟩) 1 w hs.im (Nat.le_of_ble_eq_true rfl) hr38 t20 hA20) ?_
                    rintro w v w' hs ⟨I52, rfl, hg⟩
                    have hi52 := hg.le
                    refine RL.resume (X' := [orow 3 1 A1 t1.1.length c1 cs1, orow 3 1 A4 t2.1.length c4 cs4, orow 3 1 A7 t3.1.length c7 cs7, orow 3 1 A10 t4.1.length c10 cs10]) rfl (hs.call hg) ?_
                    clear hs hg
                    generalize w'.heap.size = nx21
                    clear w w'
                    refine RL.s 3 [(0, .bool (!t20))] ?_
                    refine RL.nil (by kernel_rfl) ?_
                    obtain rfl := Option.some.inj H
                    refine QN.sel (K' := [(0, .bool (!t20))]) (L' := [⟨nx1, [.slice A2 t1.2.f0.length c2, .slice A3 t1.2.f1.length c3], 26⟩, ⟨nx2, [.slice A5 t2.2.f0.length c5, .slice A6 t2.2.f1.length c6], 26⟩, ⟨nx3, [.slice A8 t3.2.f0.length c8, .slice A9 t3.2.f1.length c9], 26⟩, ⟨nx4, [.slice A11 t4.2.f0.length c11, .slice A12 t4.2.f1.length c12], 26⟩]) [] (by kernel_rfl) (by kernel_rfl) (.cons_cons _ (.cons_cons _ (.cons_cons _ (.cons_cons _ .slnil)))) ?_
                    refine QN.norm (X' := []) rfl rfl rfl (by kernel_rfl) ?_
                    exact hJ1 _ _ _ _ _ ⟨(!t20), rfl, rfl, rfl, (Imm.le_trans (Imm.le_trans (Imm.le_trans (Imm.le_trans (Imm.le_trans (Imm.le_trans (Imm.le_trans (Imm.le_trans (Imm.le_trans (Imm.le_trans (Imm.le_trans (Imm.le_trans (Imm.le_trans (Imm.le_trans (Imm.le_trans (Imm.le_trans (Imm.le_trans (Imm.le_trans (Imm.le_trans (Imm.le_trans (Imm.le_trans hi31 hi32) hi33) hi34) hi35) hi36) hi37) hi38) hi39) hi40) hi41) hi42) hi43) hi44) hi45) hi46) hi47) hi48) hi49) hi50) hi51) hi52), HK1⟩
                  ·have hc := (Bool.eq_false_iff.1 hb)
                   rw [hb]
                   rw [if_neg hc] at H; clear hb
                   refine RL.s 13 [(0, .bool false)] ?_
                   refine RL.nil (by kernel_rfl) ?_
                   obtain rfl := Option.some.inj H
                   refine QN.sel (K' := [(0, .bool false)]) (L' := [⟨nx1, [.slice A2 t1.2.f0.length c2, .slice A3 t1.2.f1.length c3], 26⟩, ⟨nx2, [.slice A5 t2.2.f0.length c5, .slice A6 t2.2.f1.length c6], 26⟩, ⟨nx3, [.slice A8 t3.2.f0.length c8, .slice A9 t3.2.f1.length c9], 26⟩, ⟨nx4, [.slice A11 t4.2.f0.length c11, .slice A12 t4.2.f1.length c12], 26⟩]) [] (by kernel_rfl) (by kernel_rfl) (.cons_cons _ (.cons_cons _ (.cons_cons _ (.cons_cons _ .slnil)))) ?_
                   refine QN.norm (X' := []) rfl rfl rfl (by kernel_rfl) ?_
                   exact hJ1 _ _ _ _ _ ⟨false, rfl, rfl, rfl, (Imm.le_trans (Imm.le_trans (Imm.le_trans (Imm.le_trans (Imm.le_trans (Imm.le_trans (Imm.le_trans (Imm.le_trans (Imm.le_trans (Imm.le_trans (Imm.le_trans (Imm.le_trans (Imm.le_trans (Imm.le_trans hi31 hi32) hi33) hi34) hi35) hi36) hi37) hi38) hi39) hi40) hi41) hi42) hi43) hi44) hi45), HK1⟩
                 ·have hc := (Bool.eq_false_iff.1 hb)
                  rw [hb]
                  rw [if_neg hc] at H; clear hb
                  refine RL.s 16 [(0, .bool false)] ?_
                  refine RL.nil (by kernel_rfl) ?_
                  obtain rfl := Option.some.inj H
                  refine QN.sel (K' := [(0, .bool false)]) (L' := [⟨nx1, [.slice A2 t1.2.f0.length c2, .slice A3 t1.2.f1.length c3], 26⟩, ⟨nx2, [.slice A5 t2.2.f0.length c5, .slice A6 t2.2.f1.length c6], 26⟩, ⟨nx3, [.slice A8 t3.2.f0.length c8, .slice A9 t3.2.f1.length c9], 26⟩, ⟨nx4, [.slice A11 t4.2.f0.length c11, .slice A12 t4.2.f1.length c12], 26⟩]) [] (by kernel_rfl) (by kernel_rfl) (.cons_cons _ (.cons_cons _ (.cons_cons _ (.cons_cons _ .slnil)))) ?_
                  refine QN.norm (X' := []) rfl rfl rfl (by kernel_rfl) ?_
                  exact hJ1 _ _ _ _ _ ⟨false, rfl, rfl, rfl, (Imm.le_trans (Imm.le_trans (Imm.le_trans (Imm.le_trans (Imm.le_trans (Imm.le_trans (Imm.le_trans (Imm.le_trans (Imm.le_trans (Imm.le_trans (Imm.le_trans (Imm.le_trans (Imm.le_trans hi31 hi32) hi33) hi34) hi35) hi36) hi37) hi38) hi39) hi40) hi41) hi42) hi43) hi44), HK1⟩
             ·have hc := (Bool.eq_false_iff.1 hb)
              rw [hb]
              rw [if_neg hc] at H; clear hb
              refine RL.simK (K' := [(0, .bool false)]) [] (RFacts.nil _ _ _) 47 (.no :: .no :: .no :: .no :: .no :: .no :: .no :: .no :: .no :: .no :: .no :: .no :: .no :: .no :: .no :: .no :: .no :: .no :: .no :: .no :: .no :: .no :: .no :: .no :: .no :: .no :: .no :: .no :: .no :: .no :: .no :: .no :: .no :: .no :: .no :: .no :: .no :: .no :: .no :: .no :: .no :: .no :: .no :: .no :: .no :: .no :: .no :: []) (by kernel_rfl) (by kernel_rfl) ?_
              refine RL.nil (by kernel_rfl) ?_
              obtain rfl := Option.some.inj H
              refine QN.sel (K' := [(0, .bool false)]) (L' := [⟨nx1, [.slice A2 t1.2.f0.length c2, .slice A3 t1.2.f1.length c3], 26⟩, ⟨nx2, [.slice A5 t2.2.f0.length c5, .slice A6 t2.2.f1.length c6], 26⟩, ⟨nx3, [.slice A8 t3.2.f0.length c8, .slice A9 t3.2.f1.length c9], 26⟩, ⟨nx4, [.slice A11 t4.2.f0.length c11, .slice A12 t4.2.f1.length c12], 26⟩]) [] (by kernel_rfl) (by kernel_rfl) (.cons_cons _ (.cons_cons _ (.cons_cons _ (.cons_cons _ .slnil)))) ?_
              refine QN.norm (X' := []) rfl rfl rfl (by kernel_rfl) ?_
              exact hJ1 _ _ _ _ _ ⟨false, rfl, rfl, rfl, (Imm.le_trans (Imm.le_trans (Imm.le_trans (Imm.le_trans hi31 hi32) hi33) hi34) hi35), HK1⟩
          ·have hc := (Bool.eq_false_iff.1 hb)
           rw [hb]
           rw [if_neg hc] at H; clear hb
           refine RL.simK (K' := [(0, .bool false)]) [] (RFacts.nil _ _ _) 63 (.no :: .no :: .no :: .no :: .no :: .no :: .no :: .no :: .no :: .no :: .no :: .no :: .no :: .no :: .no :: .no :: .no :: .no :: .no :: .no :: .no :: .no :: .no :: .no :: .no :: .no :: .no :: .no :: .no :: .no :: .no :: .no :: .no :: .no :: .no :: .no :: .no :: .no :: .no :: .no :: .no :: .no :: .no :: .no :: .no :: .no :: .no :: .no :: .no :: .no :: .no :: .no :: .no :: .no :: .no :: .no :: .no :: .no :: .no :: .no :: .no :: .no :: .no :: []) (by kernel_rfl) (by kernel_rfl) ?_
           refine RL.nil (by kernel_rfl) ?_
           obtain rfl := Option.some.inj H
           refine QN.sel (K' := [(0, .bool false)]) (L' := [⟨nx1, [.slice A2 t1.2.f0.length c2, .slice A3 t1.2.f1.length c3], 26⟩, ⟨nx2, [.slice A5 t2.2.f0.length c5, .slice A6 t2.2.f1.length c6], 26⟩, ⟨nx3, [.slice A8 t3.2.f0.length c8, .slice A9 t3.2.f1.length c9], 26⟩, ⟨nx4, [.slice A11 t4.2.f0.length c11, .slice A12 t4.2.f1.length c12], 26⟩]) [] (by kernel_rfl) (by kernel_rfl) (.cons_cons _ (.cons_cons _ (.cons_cons _ (.cons_cons _ .slnil)))) ?_
           refine QN.norm (X' := []) rfl rfl rfl (by kernel_rfl) ?_
           exact hJ1 _ _ _ _ _ ⟨false, rfl, rfl, rfl, (Imm.le_trans (Imm.le_trans hi31 hi32) hi33), HK1⟩
         ·have hc := (beq_eq_false_iff_ne.1 hb)
          rw [hb]
          rw [if_neg hc] at H; clear hb
          refine RL.simK (K' := [(0, .bool false)]) [] (RFacts.nil _ _ _) 66 (.no :: .no :: .no :: .no :: .no :: .no :: .no :: .no :: .no :: .no :: .no :: .no :: .no :: .no :: .no :: .no :: .no :: .no :: .no :: .no :: .no :: .no :: .no :: .no :: .no :: .no :: .no :: .no :: .no :: .no :: .no :: .no :: .no :: .no :: .no :: .no :: .no :: .no :: .no :: .no :: .no :: .no :: .no :: .no :: .no :: .no :: .no :: .no :: .no :: .no :: .no :: .no :: .no :: .no :: .no :: .no :: .no :: .no :: .no :: .no :: .no :: .no :: .no :: .no :: .no :: .no :: []) (by kernel_rfl) (by kernel_rfl) ?_
          refine RL.nil (by kernel_rfl) ?_
          obtain rfl := Option.some.inj H
          refine QN.sel (K' := [(0, .bool false)]) (L' := [⟨nx1, [.slice A2 t1.2.f0.length c2, .slice A3 t1.2.f1.length c3], 26⟩, ⟨nx2, [.slice A5 t2.2.f0.length c5, .slice A6 t2.2.f1.length c6], 26⟩, ⟨nx3, [.slice A8 t3.2.f0.length c8, .slice A9 t3.2.f1.length c9], 26⟩, ⟨nx4, [.slice A11 t4.2.f0.length c11, .slice A12 t4.2.f1.length c12], 26⟩]) [] (by kernel_rfl) (by kernel_rfl) (.cons_cons _ (.cons_cons _ (.cons_cons _ (.cons_cons _ .slnil)))) ?_
          refine QN.norm (X' := []) rfl rfl rfl (by kernel_rfl) ?_
          exact hJ1 _ _ _ _ _ ⟨false, rfl, rfl, rfl, (Imm.le_trans (Imm.le_trans hi31 hi32) hi33), HK1⟩
        ·have hc := (Bool.eq_false_iff.1 hb)
         rw [hb]
         rw [if_neg hc] at H; clear hb
         refine RL.simK (K' := [(0, .bool false)]) [] (RFacts.nil _ _ _) 70 (.no :: .no :: .no :: .no :: .no :: .no :: .no :: .no :: .no :: .no :: .no :: .no :: .no :: .no :: .no :: .no :: .no :: .no :: .no :: .no :: .no :: .no :: .no :: .no :: .no :: .no :: .no :: .no :: .no :: .no :: .no :: .no :: .no :: .no :: .no :: .no :: .no :: .no :: .no :: .no :: .no :: .no :: .no :: .no :: .no :: .no :: .no :: .no :: .no :: .no :: .no :: .no :: .no :: .no :: .no :: .no :: .no :: .no :: .no :: .no :: .no :: .no :: .no :: .no :: .no :: .no :: .no :: .no :: .no :: .no :: []) (by kernel_rfl) (by kernel_rfl) ?_
         refine RL.nil (by kernel_rfl) ?_
         obtain rfl := Option.some.inj H
         refine QN.sel (K' := [(0, .bool false)]) (L' := [⟨nx1, [.slice A2 t1.2.f0.length c2, .slice A3 t1.2.f1.length c3], 26⟩, ⟨nx2, [.slice A5 t2.2.f0.length c5, .slice A6 t2.2.f1.length c6], 26⟩, ⟨nx3, [.slice A8 t3.2.f0.length c8, .slice A9 t3.2.f1.length c9], 26⟩, ⟨nx4, [.slice A11 t4.2.f0.length c11, .slice A12 t4.2.f1.length c12], 26⟩]) [] (by kernel_rfl) (by kernel_rfl) (.cons_cons _ (.cons_cons _ (.cons_cons _ (.cons_cons _ .slnil)))) ?_
         refine QN.norm (X' := []) rfl rfl rfl (by kernel_rfl) ?_
         exact hJ1 _ _ _ _ _ ⟨false, rfl, rfl, rfl, (Imm.le_trans (Imm.le_trans hi31 hi32) hi33), HK1⟩
       ·have hc := (beq_eq_false_iff_ne.1 hb)
        rw [hb]
        rw [if_neg hc] at H; clear hb
        refine RL.simK (K' := [(0, .bool false)]) [] (RFacts.nil _ _ _) 73 (.no :: .no :: .no :: .no :: .no :: .no :: .no :: .no :: .no :: .no :: .no :: .no :: .no :: .no :: .no :: .no :: .no :: .no :: .no :: .no :: .no :: .no :: .no :: .no :: .no :: .no :: .no :: .no :: .no :: .no :: .no :: .no :: .no :: .no :: .no :: .no :: .no :: .no :: .no :: .no :: .no :: .no :: .no :: .no :: .no :: .no :: .no :: .no :: .no :: .no :: .no :: .no :: .no :: .no :: .no :: .no :: .no :: .no :: .no :: .no :: .no :: .no :: .no :: .no :: .no :: .no :: .no :: .no :: .no :: .no :: .no :: .no :: .no :: []) (by kernel_rfl) (by kernel_rfl) ?_
        refine RL.nil (by kernel_rfl) ?_
        obtain rfl := Option.some.inj H
        refine QN.sel (K' := [(0, .bool false)]) (L' := [⟨nx1, [.slice A2 t1.2.f0.length c2, .slice A3 t1.2.f1.length c3], 26⟩, ⟨nx2, [.slice A5 t2.2.f0.length c5, .slice A6 t2.2.f1.length c6], 26⟩, ⟨nx3, [.slice A8 t3.2.f0.length c8, .slice A9 t3.2.f1.length c9], 26⟩, ⟨nx4, [.slice A11 t4.2.f0.length c11, .slice A12 t4.2.f1.length c12], 26⟩]) [] (by kernel_rfl) (by kernel_rfl) (.cons_cons _ (.cons_cons _ (.cons_cons _ (.cons_cons _ .slnil)))) ?_
        refine QN.norm (X' := []) rfl rfl rfl (by kernel_rfl) ?_
        exact hJ1 _ _ _ _ _ ⟨false, rfl, rfl, rfl, (Imm.le_trans (Imm.le_trans hi31 hi32) hi33), HK1⟩
      ·have hc := (beq_eq_false_iff_ne.1 hb)
       rw [hb]
       rw [if_neg hc] at H; clear hb
       refine RL.simK (K' := [(0, .bool false)]) [] (RFacts.nil _ _ _) 77 (.no :: .no :: .no :: .no :: .no :: .no :: .no :: .no :: .no :: .no :: .no :: .no :: .no :: .no :: .no :: .no :: .no :: .no :: .no :: .no :: .no :: .no :: .no :: .no :: .no :: .no :: .no :: .no :: .no :: .no :: .no :: .no :: .no :: .no :: .no :: .no :: .no :: .no :: .no :: .no :: .no :: .no :: .no :: .no :: .no :: .no :: .no :: .no :: .no :: .no :: .no :: .no :: .no :: .no :: .no :: .no :: .no :: .no :: .no :: .no :: .no :: .no :: .no :: .no :: .no :: .no :: .no :: .no :: .no :: .no :: .no :: .no :: .no :: .no :: .no :: .no :: .no :: []) (by kernel_rfl) (by kernel_rfl) ?_
       refine RL.nil (by kernel_rfl) ?_
       obtain rfl := Option.some.inj H
       refine QN.sel (K' := [(0, .bool false)]) (L' := [⟨nx1, [.slice A2 t1.2.f0.length c2, .slice A3 t1.2.f1.length c3], 26⟩, ⟨nx2, [.slice A5 t2.2.f0.length c5, .slice A6 t2.2.f1.length c6], 26⟩, ⟨nx3, [.slice A8 t3.2.f0.length c8, .slice A9 t3.2.f1.length c9], 26⟩, ⟨nx4, [.slice A11 t4.2.f0.length c11, .slice A12 t4.2.f1.length c12], 26⟩]) [] (by kernel_rfl) (by kernel_rfl) (.cons_cons _ (.cons_cons _ (.cons_cons _ (.cons_cons _ .slnil)))) ?_
       refine QN.norm (X' := []) rfl rfl rfl (by kernel_rfl) ?_
       exact hJ1 _ _ _ _ _ ⟨false, rfl, rfl, rfl, (Imm.le_trans (Imm.le_trans hi31 hi32) hi33), HK1⟩
     ·have hc := (Bool.eq_false_iff.1 hb)
      rw [hb]
      rw [if_neg hc] at H; clear hb
      refine RL.simK (K' := [(0, .bool false)]) [] (RFacts.nil _ _ _) 90 (.no :: .no :: .no :: .no :: .no :: .no :: .no :: .no :: .no :: .no :: .no :: .no :: .no :: .no :: .no :: .no :: .no :: .no :: .no :: .no :: .no :: .no :: .no :: .no :: .no :: .no :: .no :: .no :: .no :: .no :: .no :: .no :: .no :: .no :: .no :: .no :: .no :: .no :: .no :: .no :: .no :: .no :: .no :: .no :: .no :: .no :: .no :: .no :: .no :: .no :: .no :: .no :: .no :: .no :: .no :: .no :: .no :: .no :: .no :: .no :: .no :: .no :: .no :: .no :: .no :: .no :: .no :: .no :: .no :: .no :: .no :: .no :: .no :: .no :: .no :: .no :: .no :: .no :: .no :: .no :: .no :: .no :: .no :: .no :: .no :: .no :: .no :: .no :: .no :: .no :: []) (by kernel_rfl) (by kernel_rfl) ?_
      refine RL.nil (by kernel_rfl) ?_
      obtain rfl := Option.some.inj H
      refine QN.sel (K' := [(0, .bool false)]) (L' := [⟨nx1, [.slice A2 t1.2.f0.length c2, .slice A3 t1.2.f1.length c3], 26⟩, ⟨nx2, [.slice A5 t2.2.f0.length c5, .slice A6 t2.2.f1.length c6], 26⟩, ⟨nx3, [.slice A8 t3.2.f0.length c8, .slice A9 t3.2.f1.length c9], 26⟩, ⟨nx4, [.slice A11 t4.2.f0.length c11, .slice A12 t4.2.f1.length c12], 26⟩]) [] (by kernel_rfl) (by kernel_rfl) (.cons_cons _ (.cons_cons _ (.cons_cons _ (.cons_cons _ .slnil)))) ?_
      refine QN.norm (X' := []) rfl rfl rfl (by kernel_rfl) ?_
      exact hJ1 _ _ _ _ _ ⟨false, rfl, rfl, rfl, (Imm.le_trans (Imm.le_trans hi31 hi32) hi33), HK1⟩
    ·have hc := (Bool.eq_false_iff.1 hb)
     rw [hb]
     rw [if_neg hc] at H; clear hb
     refine RL.simK (K' := [(0, .bool false)]) [] (RFacts.nil _ _ _) 95 (.no :: .no :: .no :: .no :: .no :: .no :: .no :: .no :: .no :: .no :: .no :: .no :: .no :: .no :: .no :: .no :: .no :: .no :: .no :: .no :: .no :: .no :: .no :: .no :: .no :: .no :: .no :: .no :: .no :: .no :: .no :: .no :: .no :: .no :: .no :: .no :: .no :: .no :: .no :: .no :: .no :: .no :: .no :: .no :: .no :: .no :: .no :: .no :: .no :: .no :: .no :: .no :: .no :: .no :: .no :: .no :: .no :: .no :: .no :: .no :: .no :: .no :: .no :: .no :: .no :: .no :: .no :: .no :: .no :: .no :: .no :: .no :: .no :: .no :: .no :: .no :: .no :: .no :: .no :: .no :: .no :: .no :: .no :: .no :: .no :: .no :: .no :: .no :: .no :: .no :: .no :: .no :: .no :: .no :: .no :: []) (by kernel_rfl) (by kernel_rfl) ?_
     refine RL.nil (by kernel_rfl) ?_
     obtain rfl := Option.some.inj H
     refine QN.sel (K' := [(0, .bool false)]) (L' := [⟨nx1, [.slice A2 t1.2.f0.length c2, .slice A3 t1.2.f1.length c3], 26⟩, ⟨nx2, [.slice A5 t2.2.f0.length c5, .slice A6 t2.2.f1.length c6], 26⟩, ⟨nx3, [.slice A8 t3.2.f0.length c8, .slice A9 t3.2.f1.length c9], 26⟩, ⟨nx4, [.slice A11 t4.2.f0.length c11, .slice A12 t4.2.f1.length c12], 26⟩]) [] (by kernel_rfl) (by kernel_rfl) (.cons_cons _ (.cons_cons _ (.cons_cons _ (.cons_cons _ .slnil)))) ?_
     refine QN.norm (X' := []) rfl rfl rfl (by kernel_rfl) ?_
     exact hJ1 _ _ _ _ _ ⟨false, rfl, rfl, rfl, (Imm.le_trans hi31 hi32), HK1⟩
   ·have hc := (Bool.eq_false_iff.1 hb)
    rw [hb]
    rw [if_neg hc] at H; clear hb
    refine RL.simK (K' := [(0, .bool false)]) [] (RFacts.nil _ _ _) 100 (.no :: .no :: .no :: .no :: .no :: .no :: .no :: .no :: .no :: .no :: .no :: .no :: .no :: .no :: .no :: .no :: .no :: .no :: .no :: .no :: .no :: .no :: .no :: .no :: .no :: .no :: .no :: .no :: .no :: .no :: .no :: .no :: .no :: .no :: .no :: .no :: .no :: .no :: .no :: .no :: .no :: .no :: .no :: .no :: .no :: .no :: .no :: .no :: .no :: .no :: .no :: .no :: .no :: .no :: .no :: .no :: .no :: .no :: .no :: .no :: .no :: .no :: .no :: .no :: .no :: .no :: .no :: .no :: .no :: .no :: .no :: .no :: .no :: .no :: .no :: .no :: .no :: .no :: .no :: .no :: .no :: .no :: .no :: .no :: .no :: .no :: .no :: .no :: .no :: .no :: .no :: .no :: .no :: .no :: .no :: .no :: .no :: .no :: .no :: .no :: []) (by kernel_rfl) (by kernel_rfl) ?_
    refine RL.nil (by kernel_rfl) ?_
    obtain rfl := Option.some.inj H
    refine QN.sel (K' := [(0, .bool false)]) (L' := [⟨nx1, [.slice A2 t1.2.f0.length c2, .slice A3 t1.2.f1.length c3], 26⟩, ⟨nx2, [.slice A5 t2.2.f0.length c5, .slice A6 t2.2.f1.length c6], 26⟩, ⟨nx3, [.slice A8 t3.2.f0.length c8, .slice A9 t3.2.f1.length c9], 26⟩, ⟨nx4, [.slice A11 t4.2.f0.length c11, .slice A12 t4.2.f1.length c12], 26⟩]) [] (by kernel_rfl) (by kernel_rfl) (.cons_cons _ (.cons_cons _ (.cons_cons _ (.cons_cons _ .slnil)))) ?_
    refine QN.norm (X' := []) rfl rfl rfl (by kernel_rfl) ?_
    exact hJ1 _ _ _ _ _ ⟨false, rfl, rfl, rfl, hi31, HK1⟩
  ·have hc := (Bool.eq_false_iff.1 hb)
   rw [hb]
   rw [if_neg hc] at H; clear hb
   refine RL.simK (K' := [(0, .bool false)]) [] (RFacts.nil _ _ _) 106 (.no :: .no :: .no :: .no :: .no :: .no :: .no :: .no :: .no :: .no :: .no :: .no :: .no :: .no :: .no :: .no :: .no :: .no :: .no :: .no :: .no :: .no :: .no :: .no :: .no :: .no :: .no :: .no :: .no :: .no :: .no :: .no :: .no :: .no :: .no :: .no :: .no :: .no :: .no :: .no :: .no :: .no :: .no :: .no :: .no :: .no :: .no :: .no :: .no :: .no :: .no :: .no :: .no :: .no :: .no :: .no :: .no :: .no :: .no :: .no :: .no :: .no :: .no :: .no :: .no :: .no :: .no :: .no :: .no :: .no :: .no :: .no :: .no :: .no :: .no :: .no :: .no :: .no :: .no :: .no :: .no :: .no :: .no :: .no :: .no :: .no :: .no :: .no :: .no :: .no :: .no :: .no :: .no :: .no :: .no :: .no :: .no :: .no :: .no :: .no :: .no :: .no :: .no :: .no :: .no :: .no :: []) (by kernel_rfl) (by kernel_rfl) ?_
   refine RL.nil (by kernel_rfl) ?_
   obtain rfl := Option.some.inj H
   refine QN.sel (K' := [(0, .bool false)]) (L' := [⟨nx1, [.slice A2 t1.2.f0.length c2, .slice A3 t1.2.f1.length c3], 26⟩, ⟨nx2, [.slice A5 t2.2.f0.length c5, .slice A6 t2.2.f1.length c6], 26⟩, ⟨nx3, [.slice A8 t3.2.f0.length c8, .slice A9 t3.2.f1.length c9], 26⟩, ⟨nx4, [.slice A11 t4.2.f0.length c11, .slice A12 t4.2.f1.length c12], 26⟩]) [] (by kernel_rfl) (by kernel_rfl) (.cons_cons _ (.cons_cons _ (.cons_cons _ (.cons_cons _ .slnil)))) ?_
   refine QN.norm (X' := []) rfl rfl rfl (by kernel_rfl) ?_
   exact hJ1 _ _ _ _ _ ⟨false, rfl, rfl, rfl, hi31, HK1⟩

end Go.Proofs.Ytdmhbcgmimfjcaa
namespace Go.Proofs.Ytdmhbcgmimfjcaa.hun
open Go Go.Proofs.Ytdmhbcgmimfjcaa Go.Proofs.Ytdmhbcgmimfjcaa.RW
set_option maxRecDepth 1000000
theorem sane (k : Nat) : armillarylaw22_sanity.f (k + 60) = some true := by kernel_rfl
end Go.Proofs.Ytdmhbcgmimfjcaa.hun
namespace Go.Proofs.Ytdmhbcgmimfjcaa
open Go Go.Proofs.Ytdmhbcgmimfjcaa.RW
set_option linter.unusedVariables false
set_option maxRecDepth 100000
set_option maxHeartbeats 8000000

/-! ### armillaryref22_Optimum: function 23, armillary/armillaryref22.Optimum -/
noncomputable def K23_0 : Code := cBody Try.f23
def armillaryref22_Optimum.f (k : Nat) (a0 : List (List Int)) : Option (Int) := ((armillaryref22_Best.f k a0 0).bind fun t1 => (if 0 < (t1.length : Int) then (some (t1.getD (0 : Int).toNat 0)) else none))
def armillaryref22_Optimum.Post (I : Imm) (w : World) (r : Int) (v : Value) (w' : World) : Prop :=
 ∃ (J : Imm), v = .int .i64 r ∧ Got w w' I J []
theorem armillaryref22_Optimum.calls (k : Nat) (I0 : Imm) (a0 : List (List Int)) (Ap0 : Option Addr) (cp0 : Nat) (w : World) (hI : I0.at_ w) (hlp0 : a0.length ≤ cp0) (hrp0 : Rd (Ty.slice (Ty.int .i64)) I0 Ap0 a0) (r : Int) (h : armillaryref22_Optimum.f k a0 = some r) :
  Calls Try.prog 23 [.slice Ap0 a0.length cp0].toArray w fun e w' => ∃ v, e = .returned v ∧ armillaryref22_Optimum.Post I0 w r v w' := by
 have H : ((armillaryref22_Best.f k a0 0).bind fun t1 => (if 0 < (t1.length : Int) then (some (t1.getD (0 : Int).toNat 0)) else none)) = some r := h
 clear h
 refine calls_body Try.func23 (by kernel_rfl) 7 (by kernel_rfl) (by kernel_rfl) ⟨w, fun _ => False, I0⟩ I0 [] [(0, .slice Ap0 a0.length cp0)] (by kernel_rfl) (Sat.start w _ I0 hI) ?_
 generalize w.heap.size = nx0
 show OK _ K23_0 _ _ _ _ _ _ _ _
 refine OK.sr ?_
 refine RL.st 1 [(0, .slice Ap0 a0.length cp0)] ?_
 refine OK.sr ?_
 refine RL.s 1 [(3, .slice Ap0 a0.length cp0)] ?_
 obtain ⟨t1, hA1, H⟩ := bnd H
 refine RL.callP 24 [.slice Ap0 a0.length cp0, i6 0] (some 4) (fun w => armillaryref22_Best.Post I0 w t1) (by kernel_rfl) (by kernel_rfl) (fun w hs => armillaryref22_Best.calls k I0 a0 Ap0 cp0 0 w hs.im hlp0 hrp0 t1 hA1) ?_
 rintro w v w' hs ⟨I1, A1, c1, cs1, rfl, hg, hp1⟩
 have hi1 := hg.le
 refine RL.resume (X' := [orow 2 1 A1 t1.length c1 cs1]) rfl (hs.call hg) ?_
 clear hs hg
 generalize w'.heap.size = nx1
 clear w w'
 have hib0 : (0 : Int) ≤ 0 := by decide
 obtain ⟨hib1, H⟩ := ifs H
 have hx01_ := hib0; have hx11_ := hib1
 refine RL.ownAddr (e := 2) (sz := 1) (S := A1) (n := t1.length) (cap := c1) (cs := cs1) 0 (by kernel_rfl) (by omega) (fun g1_ hA1_ => ?_)
 have hc1_ := Ty.int_own hp1 0 hib0 hib1
 refine RL.idx 1 .i64 0 hA1_ t1.length c1 (some 5) (by kernel_rfl) (by kernel_rfl) (T := 24) (e := 2) (by kernel_rfl) (by kernel_rfl) hib0 hib1 (K' := [(5, pt g1_ (0 + (0 : Int).toNat * 1)), (4, .slice A1 t1.length c1), (3, .slice Ap0 a0.length cp0)]) (by kernel_rfl) ?_
 refine RL.simK (K' := [(2, i6 (t1.getD (0 : Int).toNat 0))]) [(⟨g1_, 0 + (0 : Int).toNat * 1, none⟩, i6 (t1.getD (0 : Int).toNat 0))] (RFacts.ownQ (e := 2) (sz := 1) (S := A1) (n := t1.length) (cap := c1) (cs := cs1) 0 (by kernel_rfl) hA1_ (0 + (0 : Int).toNat * 1) ((0 : Int).toNat * 1 + 0) (by omega) (hc1_ 0 _ rfl) (RFacts.nil _ _ _)) 2 [.r 0, .no] (by kernel_rfl) (by kernel_rfl) ?_
 refine RL.nt ?_
 refine OK.re ?_
 obtain rfl := Option.some.inj H
 refine QN.body rfl [] (RFacts.nil _ _ _) (.no) (i6 (t1.getD (0 : Int).toNat 0)) (by kernel_rfl) (by kernel_rfl) (by kernel_rfl) ?_ _ (.inr rfl)
 exact fun w' hs' => ⟨_, rfl, I1, rfl, hs'.got _ (.cons _ .slnil)⟩

end Go.Proofs.Ytdmhbcgmimfjcaa
