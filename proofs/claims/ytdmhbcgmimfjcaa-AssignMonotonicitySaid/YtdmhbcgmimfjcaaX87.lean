/- Words of the walk, the functions' walks and plain laws, joined; no conditions beyond those that the theorems name. -/
import Derived.Test.YtdmhbcgmimfjcaaX85
import Derived.Test.YtdmhbcgmimfjcaaX86
namespace Go.Proofs.Ytdmhbcgmimfjcaa
open Go Go.Proofs.Ytdmhbcgmimfjcaa.RW hun
set_option linter.unusedVariables false
set_option maxRecDepth 100000
set_option maxHeartbeats 4000000
namespace mono
/-- the greatest of the first n numbers, or 0 -/
def mx (f : Nat → Int) : Nat → Int
  | 0 => 0
  | n + 1 => iMax (mx f n) (f n)
theorem iMax_e (a c : Int) : iMax a c = if c > a then c else a := rfl
theorem mx_spec {f : Nat → Int} {B : Int} (hB : 0 ≤ B) : ∀ n, (∀ j, j < n → f j ≤ B) → 0 ≤ mx f n ∧ mx f n ≤ B ∧ ∀ j, j < n → f j ≤ mx f n
  | 0, _ => ⟨Int.le_refl _, hB, fun j hj => absurd hj (by omega)⟩
  | n + 1, h => by
    obtain ⟨h1, h2, h3⟩ := mx_spec hB n (fun j hj => h j (by omega))
    have h4 := h n (by omega)
    simp only [mx]
    rw [iMax_e]
    by_cases e : f n > mx f n
    · rw [if_pos e]
      refine ⟨by omega, h4, fun j hj => ?_⟩
      by_cases e2 : j = n
      · subst e2; omega
      · have := h3 j (by omega); omega
    · rw [if_neg e]
      refine ⟨h1, h2, fun j hj => ?_⟩
      by_cases e2 : j = n
      · subst e2; omega
      · exact h3 j (by omega)
section
variable {w : List (List Int)} {m : Nat}
theorem row_ (h : Vw w m) {i : Nat} (hi : i < w.length) : ∀ (d k n : Nat), d + n = m → d < k → armillarylaw22_AssignMonotonicity.l3 w (i : Int) k (mx (we w i) n) (n : Int) = some (mx (we w i) m) := by
  have hrl := h.rl i hi
  have hl : ((w.getD i []).length : Int) = (m : Int) := by show ((row w i).length : Int) = _; omega
  have hm := h.mr
  intro d
  induction d with
  | zero =>
    intro k n hd hk
    obtain ⟨k, rfl⟩ : ∃ m, k = m + 1 := ⟨k - 1, by omega⟩
    obtain rfl : n = m := by omega
    simp only [armillarylaw22_AssignMonotonicity.l3, tn, hl]
    rw [if_pos (by omega), if_pos (by omega), if_neg (by omega)]
  | succ d ih =>
    intro k n hd hk
    obtain ⟨k, rfl⟩ : ∃ m, k = m + 1 := ⟨k - 1, by omega⟩
    simp only [armillarylaw22_AssignMonotonicity.l3, tn, hl]
    rw [if_pos (by omega), if_pos (by omega), if_pos (by omega), if_pos (by omega), if_pos (by omega), if_pos (by omega), if_pos (by omega), Wn (by omega)]
    exact ih k (n + 1) (by omega) (by omega)
theorem rows_ (h : Vw w m) : ∀ (d k n : Nat), d + n = w.length → d + 20 ≤ k → armillarylaw22_AssignMonotonicity.l2 w k (sm (fun i => mx (we w i) m) n) (n : Int) = some (sm (fun i => mx (we w i) m) w.length) := by
  have hn12 := h.nr
  have hm := h.mr
  intro d
  induction d with
  | zero =>
    intro k n hd hk
    obtain ⟨k, rfl⟩ : ∃ m, k = m + 1 := ⟨k - 1, by omega⟩
    obtain rfl : n = w.length := by omega
    simp only [armillarylaw22_AssignMonotonicity.l2]
    rw [if_neg (by omega)]
  | succ d ih =>
    intro k n hd hk
    obtain ⟨k, rfl⟩ : ∃ m, k = m + 1 := ⟨k - 1, by omega⟩
    have hmx : ∀ i, i < w.length → 0 ≤ mx (we w i) m ∧ mx (we w i) m ≤ 1073741824 := fun i hi => by
      obtain ⟨h1, h2, _⟩ := mx_spec (f := we w i) (B := 1073741824) (by omega) m (fun j hj => (h.eb i j hi hj).2)
      exact ⟨h1, h2⟩
    have h1 := sm_bounds (f := fun i => mx (we w i) m) (B := 1073741824) n (fun j hj => hmx j (by omega))
    have h2 := hmx n (by omega)
    simp only [armillarylaw22_AssignMonotonicity.l2]
    rw [if_pos (by omega), show armillarylaw22_AssignMonotonicity.l3 w (n : Int) k 0 0 = _ from row_ h (by omega) m k 0 (by omega) (by omega), Option.bind_some]
    simp only [armillarylaw22_AssignMonotonicity.k9, Option.bind_some]
    rw [Wn (by omega), W64 (by omega) (by omega)]
    exact ih k (n + 1) (by omega) (by omega)
theorem last_ (h : Vw w m) {i : Nat} (hi : i < w.length) (he : W .i64 ((w.length : Int) - 1) = (i : Int)) : ∀ (d k n : Nat), d + n = m → d < k → armillarylaw22_AssignMonotonicity.l1 w k (mx (we w i) n) (n : Int) = some (mx (we w i) m) := by
  have hrl := h.rl i hi
  have hl : ((w.getD i []).length : Int) = (m : Int) := by show ((row w i).length : Int) = _; omega
  have hm := h.mr
  intro d
  induction d with
  | zero =>
    intro k n hd hk
    obtain ⟨k, rfl⟩ : ∃ m, k = m + 1 := ⟨k - 1, by omega⟩
    obtain rfl : n = m := by omega
    simp only [armillarylaw22_AssignMonotonicity.l1, he, tn, hl]
    rw [if_neg (by omega)]
  | succ d ih =>
    intro k n hd hk
    obtain ⟨k, rfl⟩ : ∃ m, k = m + 1 := ⟨k - 1, by omega⟩
    simp only [armillarylaw22_AssignMonotonicity.l1, he, tn, hl]
    rw [if_pos (by omega), if_pos (by omega), if_pos (by omega), Wn (by omega)]
    exact ih k (n + 1) (by omega) (by omega)
theorem le_add {w' : List (List Int)} {m' : Nat} {V V' δ : Int} (h : Opt w m 0 none' V) (h' : Opt w' m' 0 none' V') (k : ∀ a, IsA w m 0 none' a → ∃ a', IsA w' m' 0 none' a' ∧ val w a ≤ val w' a' + δ) : V ≤ V' + δ := by
  obtain ⟨a, h1, h2⟩ := h.2
  obtain ⟨a', h3, h4⟩ := k a h1
  have := h'.1 a' h3
  omega
theorem bound (h : Vw w m) {V : Int} (hV : Opt w m 0 none' V) : V ≤ sm (fun i => mx (we w i) m) w.length := by
  obtain ⟨a, h1, h2⟩ := hV.2
  rw [← h2]
  refine sm_le _ (fun i hi => ?_)
  obtain ⟨h3, _, h4⟩ := mx_spec (f := we w i) (B := 1073741824) (by omega) m (fun j hj => (h.eb i j hi hj).2)
  show (if a i = -1 then 0 else we w i (a i).toNat) ≤ _
  by_cases e : a i = -1
  · rw [if_pos e]; exact h3
  · obtain ⟨_, h5, h6, _⟩ := (h1.rg i hi).resolve_left e
    rw [if_neg e]; exact h4 _ (by omega)
theorem row_take {w : List (List Int)} {n1 i : Nat} (hi : i < n1) : row (w.take n1) i = row w i := by
  show (w.take n1).getD i [] = w.getD i []
  rw [List.getD_eq_getElem?_getD, List.getD_eq_getElem?_getD, List.getElem?_take, if_pos hi]
theorem takes (h : Vw w m) {n1 : Nat} (hn : n1 + 1 = w.length) : ∃ m', Vw (w.take n1) m' ∧ m' ≤ m ∧ (n1 ≠ 0 → m' = m) := by
  have hl : (w.take n1).length = n1 := by rw [List.length_take]; omega
  have hn12 := h.nr
  have hm := h.mr
  by_cases e : n1 = 0
  · exact ⟨0, ⟨by omega, by omega, fun _ => rfl, fun i hi => by omega, fun i j hi hj => by omega⟩, by omega, fun h => absurd e h⟩
  · refine ⟨m, ⟨by omega, hm, fun h0 => by omega, fun i hi => ?_, fun i j hi hj => ?_⟩, by omega, fun _ => rfl⟩
    · rw [row_take (by omega)]; exact h.rl i (by omega)
    · show 0 ≤ g (row (w.take n1) i) j ∧ g (row (w.take n1) i) j ≤ _
      rw [row_take (by omega)]; exact h.eb i j (by omega) hj
theorem without (h : Vw w m) {n1 m' : Nat} (hn : n1 + 1 = w.length) (hm1 : m' ≤ m) (hm2 : n1 ≠ 0 → m' = m) {V V' : Int} (hV : Opt w m 0 none' V) (hV' : Opt (w.take n1) m' 0 none' V') : V' ≤ V ∧ V ≤ V' + mx (we w n1) m := by
  have hl : (w.take n1).length = n1 := by rw [List.length_take]; omega
  have hwe : ∀ i j, i < n1 → we (w.take n1) i j = we w i j := fun i j hi => by show g (row (w.take n1) i) j = _; rw [row_take hi]
  constructor
  · have h0 := hV'.le hV (fun a ha => by
      refine ⟨fun i => if i < n1 then a i else -1, ⟨fun i hi => ?_, fun i i' hi hi' h0 he => ?_⟩, ?_⟩
      · show (if i < n1 then a i else -1) = -1 ∨ _ ∧ 0 ≤ (if i < n1 then a i else -1) ∧ (if i < n1 then a i else -1) < (m : Int) ∧ _
        by_cases e : i < n1
        · rw [if_pos e]
          exact (ha.rg i (by omega)).imp id (fun ⟨h1, h2, h3, h4⟩ => ⟨h1, h2, by omega, rfl⟩)
        · rw [if_neg e]; exact .inl rfl
      · have h0' : 0 ≤ (if i < n1 then a i else -1) := h0
        have he' : (if i < n1 then a i else -1) = (if i' < n1 then a i' else -1) := he
        by_cases e : i < n1
        · by_cases e2 : i' < n1
          · rw [if_pos e] at h0' he'
            rw [if_pos e2] at he'
            exact ha.inj i i' (by omega) (by omega) h0' he'
          · rw [if_pos e] at h0' he'
            rw [if_neg e2] at he'
            omega
        · rw [if_neg e] at h0'; omega
      · refine Int.le_of_eq ?_
        show sm (fun i => if a i = -1 then 0 else we (w.take n1) i (a i).toNat) (w.take n1).length = sm _ w.length
        rw [hl, ← hn]
        simp only [sm]
        rw [if_pos (if_neg (by omega)), Int.add_zero]
        refine sm_congr _ (fun i hi => ?_)
        rw [hwe i _ hi, if_pos hi])
    exact h0
  · refine le_add hV hV' (fun a ha => ⟨a, ⟨fun i hi => ?_, fun i i' hi hi' => ha.inj i i' (by omega) (by omega)⟩, ?_⟩)
    · refine (ha.rg i (by omega)).imp id (fun ⟨h1, h2, h3, h4⟩ => ⟨h1, h2, ?_, h4⟩)
      rw [hm2 (by omega)]; exact h3
    · show sm (fun i => if a i = -1 then 0 else we w i (a i).toNat) w.length ≤ sm (fun i => if a i = -1 then 0 else we (w.take n1) i (a i).toNat) (w.take n1).length + _
      rw [hl, ← hn]
      simp only [sm]
      have e1 : sm (fun i => if a i = -1 then 0 else we (w.take n1) i (a i).toNat) n1 = sm (fun i => if a i = -1 then 0 else we w i (a i).toNat) n1 := sm_congr _ (fun i hi => by rw [hwe i _ hi])
      obtain ⟨h3, _, h4⟩ := mx_spec (f := we w n1) (B := 1073741824) (by omega) m (fun j hj => (h.eb n1 j (by omega) hj).2)
      have e2 : (if a n1 = -1 then 0 else we w n1 (a n1).toNat) ≤ mx (we w n1) m := by
        by_cases e : a n1 = -1
        · rw [if_pos e]; exact h3
        · obtain ⟨_, h5, h6, _⟩ := (ha.rg n1 (by omega)).resolve_left e
          rw [if_neg e]; exact h4 _ (by omega)
      omega
theorem row_set {w : List (List Int)} {r i : Nat} (hr : r < w.length) (x : List Int) : row (w.set r x) i = if i = r then x else row w i := by
  show (w.set r x).getD i [] = if i = r then x else w.getD i []
  rw [List.getD_eq_getElem?_getD, List.getD_eq_getElem?_getD, List.getElem?_set]
  by_cases e : r = i
  · subst e; simp [hr]
  · rw [if_neg e, if_neg (fun h => e h.symm)]
theorem we_more (h : Vw w m) {r k : Nat} (hr : r < w.length) (hk : k < m) (x : Int) (i j : Nat) : we (w.set r ((row w r).set k x)) i j = if i = r ∧ j = k then x else we w i j := by
  have hrl := h.rl r hr
  show g (row (w.set r ((row w r).set k x)) i) j = _
  rw [row_set hr]
  by_cases e : i = r
  · subst e
    rw [if_pos rfl, gset (by omega)]
    by_cases e2 : j = k
    · rw [if_pos e2, if_pos ⟨rfl, e2⟩]
    · rw [if_neg e2, if_neg (fun h => e2 h.2)]
  · rw [if_neg e, if_neg (fun h => e h.1)]
theorem more_v (h : Vw w m) {r k : Nat} (hr : r < w.length) (hk : k < m) {x : Int} (hx : 0 ≤ x ∧ x ≤ 1073741824) : Vw (w.set r ((row w r).set k x)) m := by
  refine ⟨by rw [List.length_set]; exact h.nr, h.mr, by rw [List.length_set]; exact h.z, fun i hi => ?_, fun i j hi hj => ?_⟩
  · rw [List.length_set] at hi
    rw [row_set hr]
    by_cases e : i = r
    · rw [if_pos e, List.length_set]; exact h.rl r hr
    · rw [if_neg e]; exact h.rl i hi
  · rw [List.length_set] at hi
    rw [we_more h hr hk]
    split
    · exact hx
    · exact h.eb i j hi hj
theorem increased (h : Vw w m) {r k : Nat} (hr : r < w.length) (hk : k < m) {x V V' : Int} (hx : we w r k ≤ x) (hV : Opt w m 0 none' V) (hV' : Opt (w.set r ((row w r).set k x)) m 0 none' V') : V ≤ V' ∧ V' ≤ V + (x - we w r k) := by
  have hl : (w.set r ((row w r).set k x)).length = w.length := List.length_set
  constructor
  · refine hV.le hV' (fun a ha => ⟨a, ⟨fun i hi => ha.rg i (by omega), fun i i' hi hi' => ha.inj i i' (by omega) (by omega)⟩, ?_⟩)
    show sm _ w.length ≤ sm _ (w.set r ((row w r).set k x)).length
    rw [hl]
    refine sm_le _ (fun i hi => ?_)
    show (if a i = -1 then 0 else we w i (a i).toNat) ≤ if a i = -1 then 0 else we (w.set r ((row w r).set k x)) i (a i).toNat
    by_cases e : a i = -1
    · rw [if_pos e, if_pos e]; exact Int.le_refl _
    · rw [if_neg e, if_neg e, we_more h hr hk]
      by_cases e2 : i = r ∧ (a i).toNat = k
      · rw [if_pos e2, e2.2, e2.1]; exact hx
      · rw [if_neg e2]; exact Int.le_refl _
  · refine le_add hV' hV (fun a ha => ⟨a, ⟨fun i hi => ha.rg i (by omega), fun i i' hi hi' => ha.inj i i' (by omega) (by omega)⟩, ?_⟩)
    show sm (fun i => if a i = -1 then 0 else we (w.set r ((row w r).set k x)) i (a i).toNat) (w.set r ((row w r).set k x)).length ≤ sm (fun i => if a i = -1 then 0 else we w i (a i).toNat) w.length + (x - we w r k)
    rw [hl]
    have h1 := sm_upd (fun i => if a i = -1 then 0 else we w i (a i).toNat) r ((if a r = -1 then 0 else we w r (a r).toNat) + (x - we w r k)) w.length hr
    refine Int.le_trans (sm_le (h := fun j => if j = r then (if a r = -1 then 0 else we w r (a r).toNat) + (x - we w r k) else (if a j = -1 then 0 else we w j (a j).toNat)) _ (fun i hi => ?_)) (by rw [h1]; omega)
    show (if a i = -1 then 0 else we (w.set r ((row w r).set k x)) i (a i).toNat) ≤ if i = r then _ else _
    rw [we_more h hr hk]
    by_cases e : i = r
    · subst e
      rw [if_pos rfl]
      by_cases e1 : a i = -1
      · rw [if_pos e1, if_pos e1]; omega
      · rw [if_neg e1, if_neg e1]
        by_cases e2 : (a i).toNat = k
        · rw [if_pos ⟨rfl, e2⟩, e2]; omega
        · rw [if_neg (fun h => e2 h.2)]; omega
    · rw [if_neg e, if_neg (show ¬ (i = r ∧ (a i).toNat = k) from fun h => e h.1)]
      exact Int.le_refl _
theorem place {a : Int} (ha : 0 ≤ a ∧ a ≤ 255) {n : Nat} (hn : 0 < n) : ∃ i : Nat, (W .i64 a).tmod (n : Int) = (i : Int) ∧ i < n := by
  rw [W64 (by omega) (by omega)]
  have h1 := Int.tmod_nonneg (n : Int) ha.1
  have h2 := Int.tmod_lt_of_pos a (by omega : (0 : Int) < (n : Int))
  exact ⟨(a.tmod (n : Int)).toNat, by omega, by omega⟩
end
end mono
theorem armillarylaw22_AssignMonotonicity_main (a0 : List (List Int)) (a1 a2 a3 : Int) (hl : a0.length ≤ 9223372036854775807) (ha : 0 ≤ a1 ∧ a1 ≤ 255) (hb : 0 ≤ a2 ∧ a2 ≤ 255) (hc : -2147483648 ≤ a3 ∧ a3 ≤ 2147483647) : ∃ k, armillarylaw22_AssignMonotonicity.f k a0 a1 a2 a3 = some true := by
  refine ⟨a0.length + 2000, ?_⟩
  obtain ⟨w, m, e1, h, _, _⟩ := made a0 12 12 (by omega) (by omega) hl (k := a0.length + 2000) (by omega)
  have hn := h.nr
  have hm := h.mr
  obtain ⟨V, ev, ov, bv⟩ := optimum h (k := a0.length + 2000) (by omega)
  have hbd := mono.bound h ov
  unfold armillarylaw22_AssignMonotonicity.f
  rw [show armillarylaw22_sanity.f (a0.length + 2000) = some true from sane (a0.length + 1940), Option.bind_some]
  rw [show armillaryref22_Made.f (a0.length + 2000) a0 12 12 = some w from e1, Option.bind_some, ev, Option.bind_some]
  rw [show armillarylaw22_AssignMonotonicity.l2 w (a0.length + 2000) 0 0 = _ from mono.rows_ h w.length (a0.length + 2000) 0 (by omega) (by omega), Option.bind_some]
  unfold armillarylaw22_AssignMonotonicity.k7
  rw [if_neg (by omega), decide_eq_false (by omega), Option.bind_some]
  unfold armillarylaw22_AssignMonotonicity.k6
  rw [if_neg (by decide)]
  by_cases hw0 : (w.length : Int) = 0
  · rw [if_pos hw0, Option.bind_some]
    have : w.length = 0 := by omega
    rw [this] at hbd
    have : V = 0 := by
      have : sm (fun i => mono.mx (we w i) m) 0 = 0 := rfl
      omega
    unfold armillarylaw22_AssignMonotonicity.k5
    rw [if_pos rfl, if_pos this]
    rfl
  · rw [if_neg hw0, columnsR h, Option.bind_some, Option.bind_some]
    by_cases hm0 : (m : Int) = 0
    · rw [beq_iff_eq.2 hm0]
      have hm0' : m = 0 := by omega
      subst hm0'
      have h0 : sm (fun i => mono.mx (we w i) 0) w.length = 0 := by
        have : sm (fun i => mono.mx (we w i) 0) w.length = sm (fun _ => 0) w.length := sm_congr _ (fun i hi => rfl)
        rw [this, sm_const]; simp
      have : V = 0 := by omega
      unfold armillarylaw22_AssignMonotonicity.k5
      rw [if_pos rfl, if_pos this]
      rfl
    · rw [beq_eq_false_iff_ne.2 hm0]
      obtain ⟨n1, hn1⟩ : ∃ n1, n1 + 1 = w.length := ⟨w.length - 1, by omega⟩
      have hwl : W .i64 ((w.length : Int) - 1) = (n1 : Int) := by rw [W64 (by omega) (by omega)]; omega
      obtain ⟨m', hu, hm1, hm2⟩ := mono.takes h hn1
      obtain ⟨V', ev', ov', bv'⟩ := optimum hu (k := a0.length + 2000) (by omega)
      have hwo := mono.without h hn1 hm1 hm2 ov ov'
      obtain ⟨hx0, hx1, hx2⟩ := mono.mx_spec (f := we w n1) (B := 1073741824) (by omega) m (fun j hj => (h.eb n1 j (by omega) hj).2)
      unfold armillarylaw22_AssignMonotonicity.k5
      rw [if_neg (by decide), hwl, if_pos (by omega), if_pos (by omega), show armillarylaw22_AssignMonotonicity.l1 w (a0.length + 2000) 0 0 = _ from mono.last_ h (i := n1) (by omega) hwl m (a0.length + 2000) 0 (by omega) (by omega), Option.bind_some]
      unfold armillarylaw22_AssignMonotonicity.k4
      rw [hwl, if_pos (by omega), if_pos (by omega), show rpart w 0 (n1 : Int) = w.take n1 from by unfold rpart; simp, ev', Option.bind_some, if_neg (by omega), if_neg (by omega), W64 (by omega) (by omega), decide_eq_false (by omega), Option.bind_some]
      unfold armillarylaw22_AssignMonotonicity.k3
      obtain ⟨r, hr, hrn⟩ := mono.place ha (n := w.length) (by omega)
      obtain ⟨c, hcc, hcm⟩ := mono.place hb (n := m) (by omega)
      have hrl := h.rl r hrn
      have he := h.eb r c hrn hcm
      have hrow : w.getD r [] = row w r := rfl
      have nil1 : ∀ z : List (List Int), ([] : List (List Int)) ++ z = z := fun _ => rfl
      have nil2 : ∀ z : List Int, ([] : List Int) ++ z = z := fun _ => rfl
      obtain ⟨x, hx, hxb⟩ : ∃ x, iMin (W .i64 (we w r c + iMax (W .i64 a3) (W .i64 (0 - W .i64 a3)))) 1073741824 = x ∧ we w r c ≤ x ∧ x ≤ 1073741824 := by
        refine ⟨_, rfl, ?_⟩
        have e2 : ∀ a c : Int, iMin a c = if c < a then c else a := fun _ _ => rfl
        rw [W64 (x := a3) (by omega) (by omega), W64 (x := 0 - a3) (by omega) (by omega), mono.iMax_e, e2]
        have h3 : 0 ≤ (if 0 - a3 > a3 then 0 - a3 else a3) ∧ (if 0 - a3 > a3 then 0 - a3 else a3) ≤ 2147483648 := by split <;> omega
        rw [W64 (by omega) (by omega)]
        split <;> omega
      have hv2 := mono.more_v h hrn hcm (x := x) (by omega)
      obtain ⟨V2, ev2, ov2, bv2⟩ := optimum hv2 (k := a0.length + 2000) (by omega)
      have hin := mono.increased h hrn hcm hxb.1 ov ov2
      have hcell : (row w r).getD c 0 = we w r c := rfl
      simp only [hr, columnsR h, Option.bind_some, hcc, tn, hrow, nil1, nil2, hcell, hx]
      have hlr : ((row w r).length : Int) = (m : Int) := by omega
      have hlen2 : (w.set r ((row w r).set c x)).length = w.length := List.length_set
      have hrow2 : (w.set r ((row w r).set c x)).getD r [] = (row w r).set c x := by
        have := mono.row_set (i := r) hrn ((row w r).set c x)
        rw [if_pos rfl] at this
        exact this
      have hcell2 : ((row w r).set c x).getD c 0 = x := by
        have := gset (l := row w r) (i := c) (by omega) x c
        rw [if_pos rfl] at this
        exact this
      simp only [hrow2, hcell2, hlen2, List.length_set, hlr, List.length_nil]
      rw [if_neg (by decide), if_neg hw0, if_neg hm0, if_pos (by omega), if_pos (by omega), if_pos (by omega), if_pos (by omega), if_pos (by omega), if_pos (by omega), if_pos (by omega), if_pos (by omega), if_pos (by omega), if_pos (by omega), if_pos (by omega), if_pos (by omega), if_pos (by omega), if_pos (by omega), ev2, Option.bind_some]
      rw [if_pos (by omega), if_pos (by omega), if_pos (by omega), if_pos (by omega), if_pos (by omega), if_pos (by omega), if_pos (by omega), if_pos (by omega), if_pos (by omega), W64 (x := V + x) (by omega) (by omega), W64 (by omega) (by omega), if_pos (by omega)]
      rfl
theorem armillarylaw22_AssignMonotonicity_holds {p0 : List Int → Prop} (a0 : List (List Int)) (a1 a2 a3 : Int) (hp0 : ∀ x ∈ a0, p0 x) (hl : a0.length ≤ 9223372036854775807) (hp1 : (Lit.int .u8 a1).wf = true) (hp2 : (Lit.int .u8 a2).wf = true) (hp3 : (Lit.int .i32 a3).wf = true) : ∃ k, armillarylaw22_AssignMonotonicity.f k a0 a1 a2 a3 = some true :=
  armillarylaw22_AssignMonotonicity_main a0 a1 a2 a3 hl (by simpa [Lit.wf, IntKind.min, IntKind.max, IntKind.signed, IntKind.bits] using hp1) (by simpa [Lit.wf, IntKind.min, IntKind.max, IntKind.signed, IntKind.bits] using hp2) (by simpa [Lit.wf, IntKind.min, IntKind.max, IntKind.signed, IntKind.bits] using hp3)
end Go.Proofs.Ytdmhbcgmimfjcaa
