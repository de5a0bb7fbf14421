/- Words of the walk, the functions' walks and plain laws, joined; no conditions beyond those that the theorems name. -/
import Derived.Test.YtihmbmeelheinaaV6
import Derived.Test.YtihmbmeelheinaaV1
import Derived.ChangeArms
import Derived.DataReads
import Derived.OpenShut
import Derived.Test.YtihmbmeelheinaaV2
namespace Go.Proofs.Ytihmbmeelheinaa.hun
open Go Go.Proofs.Ytihmbmeelheinaa Go.Proofs.Ytihmbmeelheinaa.RW
set_option linter.unusedVariables false
set_option maxRecDepth 100000
set_option maxHeartbeats 4000000
theorem far_lists (k : Nat) : assign_solution_augments0.l5 (k + 13) (List.replicate 12 0) (List.replicate 12 0) 0 = some (List.replicate 12 1152921504606846976, List.replicate 12 (-1)) := by kernel_rfl
theorem grep {n : Nat} {x : Int} {j : Nat} (h : j < n) : g (List.replicate n x) j = x := by
 unfold g; rw [List.getD_eq_getElem?_getD, List.getElem?_replicate, if_pos h]; rfl
theorem gbrep {n : Nat} {x : Bool} {j : Nat} (h : j < n) : gb (List.replicate n x) j = x := by
 unfold gb; rw [List.getD_eq_getElem?_getD, List.getElem?_replicate, if_pos h]; rfl
theorem mul_succ (i : Nat) (M : Int) : ((i + 1 : Nat) : Int) * M = i * M + M := by rw [Int.natCast_add, Int.add_mul]; simp
theorem augment {M : Int} {i : Nat} {b R u v : List Int} (mt : Mt i R) (pt : Pt M i b R u v) (hi : i < 12) (hM0 : 0 ≤ M) (hM : M ≤ 1073741824) (hw : ∀ r j, r < 12 → j < 12 → 0 ≤ wt b r j ∧ wt b r j ≤ M) {k : Nat} (hk : 400 ≤ k) :
  ∃ R' u' v', assign_solution_augments0.f k (i : Int) ⟨R, u, v⟩ b = some ⟨R', u', v'⟩ ∧ Mt (i + 1) R' ∧ Pt M (i + 1) b R' u' v' := by
 have hiM : 0 ≤ (i : Int) * M ∧ (i : Int) * M ≤ 11811160064 := by
  have h1 : (i : Int) * M ≤ 11 * M := Int.mul_le_mul_of_nonneg_right (by omega) hM0
  have h2 : 0 ≤ (i : Int) * M := Int.mul_nonneg (by omega) hM0
  omega
 have hvb : ∀ j, j < 12 → 0 ≤ g v j ∧ g v j ≤ 14000000000 := fun j hj => by have h1 := pt.vpos j hj; have h2 := pt.vb j hj; omega
 have hui := pt.uzero i (Nat.le_refl _) hi
 obtain ⟨u0, e0, hu0l, hu0, hu0i, hu0M, hu0f⟩ := raise i hi R u v b M hM0 hM hvb hw 12 k 0 u rfl (by omega) pt.ul (by omega)
 have hother : ∀ r, r < 12 → r ≠ i → g u0 r = g u r := fun r _ h => hu0 r h
 have av : Av M i b R u0 v (List.replicate 12 1152921504606846976) (List.replicate 12 (-1)) (List.replicate 12 false) [(i : Int)] (-1) (i : Int) [] (g u0 i) := by
  refine ⟨hu0l, pt.vl, rfl, rfl, rfl, fun r j hr hj => ?_, fun j r hj hr => ?_, pt.vpos, pt.vzero, fun r hr hr2 => ?_, ⟨by omega, Int.le_refl _, hu0M⟩, fun j hj => ?_, fun r hr => ?_, fun j hj => ?_, (fun c hc => by cases hc), rfl, fun m hm => ?_, fun r => ?_, fun m m' hm hm' _ => ?_, .inl ⟨rfl, rfl, rfl⟩, trivial, fun j hj => ?_, fun j r hj hd hr hne => ?_, fun j hj hd h => absurd rfl h, fun _ j hj => grep hj⟩
  ·show 0 ≤ g u0 r + g v j - wt b r j
   by_cases e : r = i
   ·subst e
    have := hu0f j (Nat.zero_le _) hj
    omega
   ·rw [hu0 r e]
    exact pt.feas r j (by omega) hj
  ·have hri := mt.rng j hj
   show g u0 r + g v j - wt b r j = 0
   rw [hu0 r (by omega)]
   exact pt.tight j r hj hr
  ·rw [hu0 r (by omega)]
   exact pt.uzero r (by omega) hr2
  ·have := pt.vb j hj; omega
  ·by_cases e : r = i
   ·subst e; omega
   ·rw [hu0 r e]
    have := pt.ub r hr; omega
  ·rw [gbrep hj]; simp
  ·simp only [List.length_cons, List.length_nil] at hm
   obtain rfl : m = 0 := by omega
   show 0 ≤ (i : Int) ∧ (i : Int) < 12
   omega
  ·constructor
   ·rintro ⟨m, hm, hr⟩
    simp only [List.length_cons, List.length_nil] at hm
    obtain rfl : m = 0 := by omega
    have h1 : (i : Int) = (r : Int) := hr
    exact .inl (by omega)
   ·rintro (h | ⟨c, hc, _⟩)
    ·exact ⟨0, by simp, by rw [h]; rfl⟩
    ·cases hc
  ·simp only [List.length_cons, List.length_nil] at hm hm'
   omega
  ·rw [grep hj]; omega
  ·rcases hr with h | ⟨c, hc, _⟩
   ·exact absurd (by rw [h]) hne
   ·cases hc
 obtain ⟨u', v', sl', fr', done', tree', q, ds', e1, fin, hq⟩ := search mt hi hM0 hM hw 12 k u0 v _ _ _ _ _ _ [] av (Nat.le_refl _) (Nat.le_refl _) (by omega)
 have hpath := fin.path
 have hq12 : q < 12 := hpath.1
 have vac : Vac i b u' v' R q := by
  refine ⟨mt.len, hq12, fun j hj _ => mt.rng j hj, fun j j' hj hj' _ _ h0 he => mt.inj j j' hj hj' h0 he, fun r hr => ?_, fun j r hj _ hr => fin.tight j r hj hr, fun j hj _ hr => fin.vzero j hj hr⟩
  obtain ⟨j, hj, hjr⟩ := mt.onto r hr
  exact ⟨j, hj, fun e => by rw [e, hq] at hjr; omega, hjr⟩
 have hds : ds'.length ≤ 100 := by
  -- no column comes twice on the path
  have hnd : ∀ (l : List Nat), PathOK i b R u' v' fr' l → ∀ (f : Nat → Bool), (∀ c, c ∈ l → f c = true) → l.length ≤ cntF f 12 := by
   intro l
   induction l with
   | nil => intro _ f _; exact Nat.zero_le _
   | cons c l ih =>
    intro h f hf
    have h1 := ih h.2.2.2 (fun j => if j = c then false else f j) (fun c' hc' => by
     have : c' ≠ c := fun e => h.2.2.1 (e ▸ hc')
     rw [if_neg this]
     exact hf c' (List.mem_cons_of_mem _ hc'))
    have h2 := cntF_lt (f := f) (g := fun j => if j = c then false else f j) (i := c) (hf c List.mem_cons_self) (if_pos rfl) (fun j hj => if_neg hj) 12 h.1
    simp only [List.length_cons]
    omega
  have h1 := hnd _ hpath (fun _ => true) (fun _ _ => rfl)
  have h2 : cntF (fun _ => true) 12 = 12 := by rfl
  simp only [List.length_cons] at h1
  omega
 obtain ⟨R', e2, mt', tight', zero'⟩ := flip hi ds'.length k R q ds' (Nat.le_refl _) (by omega) hpath vac (fun p hp => ⟨rfl, (fin.pm p hp).1, (fin.pm p hp).2⟩)
 refine ⟨R', u', v', ?_, mt', fin.ul, fin.vl, fun r j hr hj => fin.feas r j (by omega) hj, tight', fin.vpos, zero', fun r hr hr2 => fin.uzero r (by omega) hr2, fun j hj => ?_, fun r hr => ?_⟩
 ·unfold assign_solution_augments0.f
  obtain ⟨k', rfl⟩ : ∃ m, k = m + 13 := ⟨k - 13, by omega⟩
  rw [far_lists, Option.bind_some]
  simp only [assign_solution_augments0.k10]
  rw [show assign_solution_augments0.l4 (i : Int) ⟨R, u, v⟩ b (k' + 13) u 0 = some u0 from e0, Option.bind_some]
  simp only [assign_solution_augments0.k9]
  rw [e1, Option.bind_some]
  simp only [assign_solution_augments0.k3]
  rw [e2, Option.bind_some]
  rfl
 ·have h1 := fin.vb j hj
  have h2 := fin.ui
  rw [mul_succ]; omega
 ·have h1 := fin.ub r hr
  have h2 := fin.ui
  rw [mul_succ]; omega
/-- All twelve rows. -/
theorem rows {M : Int} {b : List Int} (hM0 : 0 ≤ M) (hM : M ≤ 1073741824) (hw : ∀ r j, r < 12 → j < 12 → 0 ≤ wt b r j ∧ wt b r j ≤ M) : ∀ (d k i : Nat) (R u v : List Int), d + i = 12 → d + 401 ≤ k → Mt i R → Pt M i b R u v →
  ∃ R' u' v', assign_hungarians0.l1 b k R u v (i : Int) = some (R', u', v') ∧ Mt 12 R' ∧ Pt M 12 b R' u' v' := by
 intro d
 induction d with
 | zero =>
  intro k i R u v hd hk mt pt
  obtain ⟨k, rfl⟩ : ∃ m, k = m + 1 := ⟨k - 1, by omega⟩
  obtain rfl : i = 12 := by omega
  refine ⟨R, u, v, ?_, mt, pt⟩
  simp only [assign_hungarians0.l1]
  rw [if_neg (by omega)]
 | succ d ih =>
  intro k i R u v hd hk mt pt
  obtain ⟨k, rfl⟩ : ∃ m, k = m + 1 := ⟨k - 1, by omega⟩
  obtain ⟨R1, u1, v1, e1, mt1, pt1⟩ := augment mt pt (by omega) hM0 hM hw (k := k) (by omega)
  obtain ⟨R', u', v', e, mt', pt'⟩ := ih k (i + 1) R1 u1 v1 (by omega) (by omega) mt1 pt1
  refine ⟨R', u', v', ?_, mt', pt'⟩
  simp only [assign_hungarians0.l1]
  rw [if_pos (by omega), e1, Option.bind_some, Wn (by omega)]
  exact e
theorem rows0 (k : Nat) : assign_hungarians0.l2 (k + 13) (List.replicate 12 0) 0 = some (List.replicate 12 (-1)) := by kernel_rfl
theorem hungarian {M : Int} {b : List Int} (hM0 : 0 ≤ M) (hM : M ≤ 1073741824) (hw : ∀ r j, r < 12 → j < 12 → 0 ≤ wt b r j ∧ wt b r j ≤ M) {k : Nat} (hk : 500 ≤ k) :
  ∃ s : S89, assign_hungarians0.f k b = some s ∧ Mt 12 s.f0 ∧ Pt M 12 b s.f0 s.f1 s.f2 := by
 have mt : Mt 0 (List.replicate 12 (-1)) := ⟨rfl, fun j hj => .inl (grep hj), fun j j' hj _ h0 _ => by rw [grep hj] at h0; omega, fun r hr => by omega⟩
 have pt : Pt M 0 b (List.replicate 12 (-1)) (List.replicate 12 0) (List.replicate 12 0) := by
  refine ⟨rfl, rfl, fun r j hr => by omega, fun j r hj hr => ?_, fun j hj => ?_, fun j hj _ => grep hj, fun r _ hr => grep hr, fun j hj => ?_, fun r hr => ?_⟩
  ·rw [grep hj] at hr; omega
  ·rw [grep hj]; exact Int.le_refl _
  ·rw [grep hj]; simp
  ·rw [grep hr]; simp; exact hM0
 obtain ⟨R', u', v', e, mt', pt'⟩ := rows hM0 hM hw 12 k 0 _ _ _ rfl (by omega) mt pt
 refine ⟨⟨R', u', v'⟩, ?_, mt', pt'⟩
 unfold assign_hungarians0.f
 obtain ⟨k', rfl⟩ : ∃ m, k = m + 13 := ⟨k - 13, by omega⟩
 rw [rows0, Option.bind_some]
 simp only [assign_hungarians0.k2]
 rw [show assign_hungarians0.l1 b (k' + 13) (List.replicate 12 (-1)) (List.replicate 12 0) (List.replicate 12 0) 0 = _ from e, Option.bind_some]
 rfl
/-! ### sums -/
def sm (f : Nat → Int) : Nat → Int
 | 0 => 0
 | n + 1 => sm f n + f n
theorem sm_congr {f h : Nat → Int} : ∀ n, (∀ j, j < n → f j = h j) → sm f n = sm h n
 | 0, _ => rfl
 | n + 1, e => by simp only [sm]; rw [sm_congr n (fun j hj => e j (by omega)), e n (by omega)]
theorem sm_le {f h : Nat → Int} : ∀ n, (∀ j, j < n → f j ≤ h j) → sm f n ≤ sm h n
 | 0, _ => Int.le_refl _
 | n + 1, e => by have h1 := sm_le n (fun j hj => e j (by omega)); have h2 := e n (by omega); simp only [sm]; omega
theorem sm_add (f h : Nat → Int) : ∀ n, sm (fun j => f j + h j) n = sm f n + sm h n
 | 0 => rfl
 | n + 1 => by simp only [sm]; rw [sm_add f h n]; omega
theorem sm_bounds {f : Nat → Int} {B : Int} : ∀ n, (∀ j, j < n → 0 ≤ f j ∧ f j ≤ B) → 0 ≤ sm f n ∧ sm f n ≤ n * B
 | 0, _ => by simp [sm]
 | n + 1, e => by
  have h1 := sm_bounds n (fun j hj => e j (by omega))
  have h2 := e n (by omega)
  simp only [sm]
  rw [mul_succ]
  omega
/-- The matching's value. -/
theorem value {M : Int} {b : List Int} {s : S89} (hM0 : 0 ≤ M) (hM : M ≤ 1073741824) (hw : ∀ r j, r < 12 → j < 12 → 0 ≤ wt b r j ∧ wt b r j ≤ M) (mt : Mt 12 s.f0) {k : Nat} (hk : 14 ≤ k) : assign_solution_values0.f k s b = some (sm (fun j => wt b (g s.f0 j).toNat j) 12) := by
 have hall : ∀ j, j < 12 → 0 ≤ g s.f0 j ∧ g s.f0 j < 12 := fun j hj => by
  rcases mt.rng j hj with h | h
  ·obtain ⟨j', hj', e⟩ : ∃ j', j' < 12 ∧ g s.f0 j' = -1 := ⟨j, hj, h⟩
   -- twelve rows, eleven columns
   exfalso
   have hch : ∀ (r : Nat), r < 12 → ∃ c, c < 12 ∧ g s.f0 c = (r : Int) := mt.onto
   have hex : ∃ f : Nat → Nat, ∀ (r : Nat), r < 12 → f r < 12 ∧ g s.f0 (f r) = (r : Int) := ⟨fun r => if h : r < 12 then (hch r h).choose else 0, fun r hr => by simp only [hr, dif_pos]; exact (hch r hr).choose_spec⟩
   obtain ⟨f, hf⟩ := hex
   obtain ⟨a, c, h1, h2, h3⟩ := pigeon 11 (fun r => if f r < j then f r else f r - 1) (fun r hr => by
    have h4 := hf r (by omega)
    have h5 : f r ≠ j := fun e2 => by rw [e2, h] at h4; omega
    show (if f r < j then f r else f r - 1) < 11
    split <;> omega)
   have h4 := hf a (by omega)
   have h5 := hf c (by omega)
   have h6 : f a ≠ j := fun e2 => by rw [e2, h] at h4; omega
   have h7 : f c ≠ j := fun e2 => by rw [e2, h] at h5; omega
   have h8 : f a = f c := by
    have h3' : (if f a < j then f a else f a - 1) = (if f c < j then f c else f c - 1) := h3
    split at h3' <;> split at h3' <;> omega
   rw [h8] at h4
   omega
  ·exact h
 have key : ∀ (d k n : Nat) (x : Int), d + n = 12 → d < k → x = sm (fun j => wt b (g s.f0 j).toNat j) n → assign_solution_values0.l1 s b k x (n : Int) = some (sm (fun j => wt b (g s.f0 j).toNat j) 12) := by
  intro d
  induction d with
  | zero =>
   intro k n x hd hk hx
   obtain ⟨k, rfl⟩ : ∃ m, k = m + 1 := ⟨k - 1, by omega⟩
   obtain rfl : n = 12 := by omega
   simp only [assign_solution_values0.l1]
   rw [if_neg (by omega), hx]
  | succ d ih =>
   intro k n x hd hk hx
   obtain ⟨k, rfl⟩ : ∃ m, k = m + 1 := ⟨k - 1, by omega⟩
   have hn : n < 12 := by omega
   have h1 := hall n hn
   have h2 := hw (g s.f0 n).toNat n (by omega) hn
   have h3 := sm_bounds (f := fun j => wt b (g s.f0 j).toNat j) (B := M) n (fun j hj => hw _ j (by have := hall j (by omega); omega) (by omega))
   have h4 : (n : Int) * M ≤ 12 * M := Int.mul_le_mul_of_nonneg_right (by omega) hM0
   have h5 : 0 ≤ s.f0.getD n 0 ∧ s.f0.getD n 0 < 12 := h1
   simp only [assign_solution_values0.l1, tn]
   rw [if_pos (by omega), if_pos (by omega), if_pos (by omega), if_pos (by omega), if_pos (by omega), if_pos (by omega), if_pos (by omega), Wn (by omega)]
   rw [show W .i64 (x + b.getD ((s.f0.getD n 0).toNat * 12 + n) 0) = x + wt b (g s.f0 n).toNat n from W64 (by show _ ≤ x + wt b (g s.f0 n).toNat n; omega) (by show x + wt b (g s.f0 n).toNat n ≤ _; omega)]
   exact ih k (n + 1) _ (by omega) (by omega) (by rw [hx]; rfl)
 unfold assign_solution_values0.f
 rw [show assign_solution_values0.l1 s b k 0 0 = _ from key 12 k 0 0 rfl (by omega) rfl, Option.bind_some]
 rfl
end Go.Proofs.Ytihmbmeelheinaa.hun
namespace Go.Proofs.Ytihmbmeelheinaa.hun
open Go Go.Proofs.Ytihmbmeelheinaa Go.Proofs.Ytihmbmeelheinaa.RW
set_option linter.unusedVariables false
set_option maxRecDepth 100000
set_option maxHeartbeats 4000000
/-! ### the matrix -/
abbrev row (w : List (List Int)) (i : Nat) : List Int := w.getD i []
abbrev we (w : List (List Int)) (i j : Nat) : Int := g (row w i) j
/-- A valid matrix of n rows and m columns. -/
structure Vw (w : List (List Int)) (m : Nat) : Prop where
 nr : w.length ≤ 12
 mr : m ≤ 12
 z : w.length = 0 → m = 0
 rl : ∀ i, i < w.length → (row w i).length = m
 eb : ∀ i j, i < w.length → j < m → 0 ≤ we w i j ∧ we w i j ≤ 1073741824
theorem cell_eq {a c j d : Nat} (hj : j < 12) (hd : d < 12) : a * 12 + j = c * 12 + d ↔ a = c ∧ j = d := by omega
/-- A row of the padded matrix. -/
theorem pad_row {w : List (List Int)} {m : Nat} (h : Vw w m) {used : List Bool} (hu : used.length = m) {i : Nat} (hi : i < w.length) : ∀ (d k n : Nat) (x : List Int), d + n = m → d < k → x.length = 144 →
  ∃ x', assign_pad.l2 w used (i : Int) k x (n : Int) = some x' ∧ x'.length = 144 ∧ ∀ r j, r < 12 → j < 12 → wt x' r j = if r = i ∧ n ≤ j ∧ j < m ∧ gb used j = false then we w i j else wt x r j := by
 intro d
 induction d with
 | zero =>
  intro k n x hd hk hx
  obtain ⟨k, rfl⟩ : ∃ m, k = m + 1 := ⟨k - 1, by omega⟩
  have hl := h.rl i hi
  refine ⟨x, ?_, hx, fun r j hr hj => ?_⟩
  ·simp only [assign_pad.l2, tn]
   rw [if_neg (by show ¬ (n : Int) < ((row w i).length : Int); omega)]
  ·rw [if_neg (by omega)]
 | succ d ih =>
  intro k n x hd hk hx
  obtain ⟨k, rfl⟩ : ∃ m, k = m + 1 := ⟨k - 1, by omega⟩
  have hl := h.rl i hi
  have hn := h.nr
  have hm := h.mr
  simp only [assign_pad.l2, tn]
  rw [if_pos (by show (n : Int) < ((row w i).length : Int); omega), if_pos (by omega), if_pos (by show (n : Int) < ((row w i).length : Int); omega), if_pos (by omega), if_pos (by omega), Wn (by omega)]
  cases hd' : gb used n with
  | true =>
   rw [if_pos hd', Option.bind_some]
   obtain ⟨x', e, h1, h2⟩ := ih k (n + 1) x (by omega) (by omega) hx
   refine ⟨x', e, h1, fun r j hr hj => ?_⟩
   rw [h2 r j hr hj]
   by_cases e1 : j = n
   ·subst e1
    rw [if_neg (by omega), if_neg (by rw [hd']; simp)]
   ·have : (r = i ∧ n + 1 ≤ j ∧ j < m ∧ gb used j = false) ↔ (r = i ∧ n ≤ j ∧ j < m ∧ gb used j = false) := by
     constructor
     ·rintro ⟨a, b, c⟩; exact ⟨a, by omega, c⟩
     ·rintro ⟨a, b, c⟩; exact ⟨a, by omega, c⟩
    simp only [this]
  | false =>
   rw [if_neg (by show ¬ gb used n = true; rw [hd']; decide), if_pos (by omega), if_pos (by omega), if_pos (by omega), if_pos (by omega), Option.bind_some]
   have hkey : ∀ q, g (x.set (i * 12 + n) (we w i n)) q = if q = i * 12 + n then we w i n else g x q := fun q => gset (by omega) _ q
   obtain ⟨x', e, h1, h2⟩ := ih k (n + 1) (x.set (i * 12 + n) (we w i n)) (by omega) (by omega) (by rw [List.length_set]; exact hx)
   refine ⟨x', e, h1, fun r j hr hj => ?_⟩
   rw [h2 r j hr hj]
   show (if r = i ∧ n + 1 ≤ j ∧ j < m ∧ gb used j = false then we w i j else g (x.set (i * 12 + n) (we w i n)) (r * 12 + j)) = _
   rw [hkey]
   by_cases e1 : r = i ∧ j = n
   ·obtain ⟨e2, e3⟩ := e1
    subst e2; subst e3
    rw [if_neg (by omega), if_pos rfl, if_pos ⟨rfl, Nat.le_refl _, by omega, hd'⟩]
   ·rw [if_neg (c := r * 12 + j = i * 12 + n) (fun h3 => e1 ((cell_eq hj (by omega)).1 h3))]
    have : (r = i ∧ n + 1 ≤ j ∧ j < m ∧ gb used j = false) ↔ (r = i ∧ n ≤ j ∧ j < m ∧ gb used j = false) := by
     constructor
     ·rintro ⟨a, b, c⟩; exact ⟨a, by omega, c⟩
     ·rintro ⟨a, b, c⟩
      refine ⟨a, ?_, c⟩
      rcases Nat.lt_or_ge n j with h4 | h4
      ·exact h4
      ·exact absurd ⟨a, by omega⟩ e1
    simp only [this]
/-- The padded matrix: weights of the rows from 'first' on, at columns that aren't used. -/
abbrev pw (w : List (List Int)) (m first : Nat) (used : List Bool) (r j : Nat) : Int := if first ≤ r ∧ r < w.length ∧ j < m ∧ gb used j = false then we w r j else 0
theorem pad {w : List (List Int)} {m : Nat} (h : Vw w m) {used : List Bool} (hu : used.length = m) {first k : Nat} (hk : 50 ≤ k) (hf : first ≤ w.length) :
  ∃ b, assign_pad.f k w (first : Int) used = some b ∧ b.length = 144 ∧ ∀ r j, r < 12 → j < 12 → wt b r j = pw w m first used r j := by
 have hn := h.nr
 have hm := h.mr
 have key : ∀ (d k n : Nat) (x : List Int), d + n = w.length → d + 20 < k → x.length = 144 → ∃ x', assign_pad.l1 w used k x (n : Int) = some x' ∧ x'.length = 144 ∧ ∀ r j, r < 12 → j < 12 → wt x' r j = if n ≤ r ∧ r < w.length ∧ j < m ∧ gb used j = false then we w r j else wt x r j := by
  intro d
  induction d with
  | zero =>
   intro k n x hd hk hx
   obtain ⟨k, rfl⟩ : ∃ m, k = m + 1 := ⟨k - 1, by omega⟩
   refine ⟨x, ?_, hx, fun r j hr hj => ?_⟩
   ·simp only [assign_pad.l1]
    rw [if_neg (by omega)]
   ·rw [if_neg (by omega)]
  | succ d ih =>
   intro k n x hd hk hx
   obtain ⟨k, rfl⟩ : ∃ m, k = m + 1 := ⟨k - 1, by omega⟩
   obtain ⟨x1, e1, h1, h2⟩ := pad_row h hu (i := n) (by omega) m k 0 x (by omega) (by omega) hx
   obtain ⟨x', e, h3, h4⟩ := ih k (n + 1) x1 (by omega) (by omega) h1
   refine ⟨x', ?_, h3, fun r j hr hj => ?_⟩
   ·simp only [assign_pad.l1]
    rw [if_pos (by omega), if_pos (by omega), if_pos (by omega), show assign_pad.l2 w used (n : Int) k x 0 = some x1 from e1]
    simp only [Option.bind_some, assign_pad.k3]
    rw [Wn (by omega)]
    exact e
   ·rw [h4 r j hr hj, h2 r j hr hj]
    by_cases e2 : r = n
    ·subst e2
     rw [if_neg (by omega)]
     by_cases e3 : j < m ∧ gb used j = false
     ·rw [if_pos ⟨rfl, Nat.zero_le _, e3⟩, if_pos ⟨Nat.le_refl _, by omega, e3⟩]
     ·rw [if_neg (fun h5 => e3 h5.2.2), if_neg (fun h5 => e3 h5.2.2)]
    ·rw [if_neg (c := r = n ∧ _) (fun h5 => e2 h5.1)]
     have : (n + 1 ≤ r ∧ r < w.length ∧ j < m ∧ gb used j = false) ↔ (n ≤ r ∧ r < w.length ∧ j < m ∧ gb used j = false) := by
      constructor
      ·rintro ⟨a, b⟩; exact ⟨by omega, b⟩
      ·rintro ⟨a, b⟩; exact ⟨by omega, b⟩
     simp only [this]
 obtain ⟨b, e, h1, h2⟩ := key (w.length - first) k first (List.replicate 144 0) (by omega) (by omega) rfl
 refine ⟨b, ?_, h1, fun r j hr hj => ?_⟩
 ·unfold assign_pad.f
  rw [e]
  rfl
 ·rw [h2 r j hr hj]
  have : wt (List.replicate 144 0) r j = 0 := grep (by omega)
  rw [this]
/-! ### sums over permuted places -/
theorem sm_upd (f : Nat → Int) (a : Nat) (x : Int) : ∀ n, a < n → sm (fun j => if j = a then x else f j) n = sm f n - f a + x
 | n + 1, h => by
  simp only [sm]
  by_cases e : a = n
  ·subst e
   rw [if_pos rfl, sm_congr (f := fun j => if j = a then x else f j) (h := f) a (fun j hj => if_neg (by omega))]
   omega
  ·rw [sm_upd f a x n (by omega), if_neg (fun h => e h.symm)]
   omega
theorem sm_perm (u : Nat → Int) : ∀ (n : Nat) (ρ : Nat → Nat), (∀ j, j < n → ρ j < n) → (∀ j j', j < n → j' < n → ρ j = ρ j' → j = j') → sm (fun j => u (ρ j)) n = sm u n := by
 intro n
 induction n with
 | zero => intro _ _ _; rfl
 | succ n ih =>
  intro ρ h1 h2
  by_cases ha : ∃ a, a < n ∧ ρ a = n
  ·obtain ⟨a, han, hρ⟩ := ha
   have hn : ρ n < n := by
    have h3 := h1 n (by omega)
    have : ρ n ≠ n := fun e => by have := h2 a n (by omega) (by omega) (by rw [hρ, e]); omega
    omega
   have h3 := ih (fun j => if j = a then ρ n else ρ j) (fun j hj => by
    show (if j = a then ρ n else ρ j) < n
    split
    ·exact hn
    ·rename_i e
     have h4 := h1 j (by omega)
     have : ρ j ≠ n := fun e2 => e (h2 j a (by omega) (by omega) (by rw [hρ, e2]))
     omega) (fun j j' hj hj' e => by
    have e' : (if j = a then ρ n else ρ j) = (if j' = a then ρ n else ρ j') := e
    by_cases e1 : j = a <;> by_cases e2 : j' = a
    ·omega
    ·rw [if_pos e1, if_neg e2] at e'
     have := h2 n j' (by omega) (by omega) e'
     omega
    ·rw [if_neg e1, if_pos e2] at e'
     have := h2 j n (by omega) (by omega) e'
     omega
    ·rw [if_neg e1, if_neg e2] at e'
     exact h2 j j' (by omega) (by omega) e')
   have h4 := sm_upd (fun j => u (ρ j)) a (u (ρ n)) n han
   have h5 : sm (fun j => u ((fun j => if j = a then ρ n else ρ j) j)) n = sm (fun j => if j = a then u (ρ n) else u (ρ j)) n := sm_congr n (fun j _ => by
    show u (if j = a then ρ n else ρ j) = _
    split <;> rfl)
   rw [h5, h4] at h3
   simp only [sm]
   have h6 : u (ρ a) = u n := by rw [hρ]
   have h7 : (fun j => u (ρ j)) a = u (ρ a) := rfl
   omega
  ·have hlt : ∀ j, j < n → ρ j < n := fun j hj => by
    have h3 := h1 j (by omega)
    have : ρ j ≠ n := fun e => ha ⟨j, hj, e⟩
    omega
   have hn : ρ n = n := by
    rcases Nat.lt_or_ge (ρ n) n with h3 | h3
    ·exfalso
     obtain ⟨a, c, h4, h5, h6⟩ := pigeon n ρ (fun j hj => by
      by_cases e : j = n
      ·rw [e]; exact h3
      ·exact hlt j (by omega))
     have := h2 a c (by omega) (by omega) h6
     omega
    ·have := h1 n (by omega); omega
   simp only [sm]
   rw [hn, ih ρ hlt (fun j j' hj hj' e => h2 j j' (by omega) (by omega) e)]
/-- Some of the places, each at most once: no more than all. -/
theorem sm_part (v : Nat → Int) (m : Nat) : ∀ (n : Nat) (a : Nat → Int) (t : Nat → Bool), (∀ j, j < m → t j = true → 0 ≤ v j) → (∀ i, i < n → a i = -1 ∨ (0 ≤ a i ∧ a i < (m : Int) ∧ t (a i).toNat = true)) → (∀ i i', i < n → i' < n → 0 ≤ a i → a i = a i' → i = i') →
  sm (fun i => if a i = -1 then 0 else v (a i).toNat) n ≤ sm (fun j => if t j = true then v j else 0) m := by
 intro n
 induction n with
 | zero =>
  intro a t hv _ _
  have h1 : ∀ m', m' ≤ m → 0 ≤ sm (fun j => if t j = true then v j else 0) m' := by
   intro m'
   induction m' with
   | zero => intro _; exact Int.le_refl _
   | succ m' ih =>
    intro h
    have := ih (by omega)
    simp only [sm]
    split
    ·rename_i e; have := hv m' (by omega) e; omega
    ·omega
  exact h1 m (Nat.le_refl _)
 | succ n ih =>
  intro a t hv ha hinj
  simp only [sm]
  by_cases e : a n = -1
  ·rw [if_pos e]
   have := ih a t hv (fun i hi => ha i (by omega)) (fun i i' hi hi' => hinj i i' (by omega) (by omega))
   omega
  ·rw [if_neg e]
   have h1 := (ha n (by omega)).resolve_left e
   have h2 := ih a (fun j => if j = (a n).toNat then false else t j) (fun j hj h3 => by
    have h3' : (if j = (a n).toNat then false else t j) = true := h3
    split at h3'
    ·cases h3'
    ·exact hv j hj h3') (fun i hi => by
    rcases ha i (by omega) with h3 | ⟨h3, h4, h5⟩
    ·exact .inl h3
    ·refine .inr ⟨h3, h4, ?_⟩
     show (if (a i).toNat = (a n).toNat then false else t (a i).toNat) = true
     rw [if_neg (fun h6 => by have := hinj i n (by omega) (by omega) h3 (by omega); omega)]
     exact h5) (fun i i' hi hi' => hinj i i' (by omega) (by omega))
   have h3 := sm_upd (fun j => if t j = true then v j else 0) (a n).toNat 0 m (by omega)
   have h4 : sm (fun j => if (if j = (a n).toNat then false else t j) = true then v j else 0) m = sm (fun j => if j = (a n).toNat then 0 else if t j = true then v j else 0) m := sm_congr m (fun j _ => by
    by_cases e2 : j = (a n).toNat
    ·simp [e2]
    ·simp [e2])
   rw [h4, h3] at h2
   have h5 : (if t (a n).toNat = true then v (a n).toNat else 0) = v (a n).toNat := if_pos h1.2.2
   omega
end Go.Proofs.Ytihmbmeelheinaa.hun
namespace Go.Proofs.Ytihmbmeelheinaa.hun
open Go Go.Proofs.Ytihmbmeelheinaa Go.Proofs.Ytihmbmeelheinaa.RW
set_option linter.unusedVariables false
set_option maxRecDepth 100000
set_option maxHeartbeats 4000000
/-- An assignment of rows from 'first' on to columns that aren't used. -/
structure IsA (w : List (List Int)) (m first : Nat) (used : Nat → Bool) (a : Nat → Int) : Prop where
 rg : ∀ i, i < w.length → a i = -1 ∨ (first ≤ i ∧ 0 ≤ a i ∧ a i < (m : Int) ∧ used (a i).toNat = false)
 inj : ∀ i i', i < w.length → i' < w.length → 0 ≤ a i → a i = a i' → i = i'
def val (w : List (List Int)) (a : Nat → Int) : Int := sm (fun i => if a i = -1 then 0 else we w i (a i).toNat) w.length
/-- The best value of such assignments. -/
def Opt (w : List (List Int)) (m first : Nat) (used : Nat → Bool) (V : Int) : Prop := (∀ a, IsA w m first used a → val w a ≤ V) ∧ ∃ a, IsA w m first used a ∧ val w a = V
theorem Opt.uniq {w : List (List Int)} {m first : Nat} {used : Nat → Bool} {V V' : Int} (h : Opt w m first used V) (h' : Opt w m first used V') : V = V' := by
 obtain ⟨a, h1, h2⟩ := h.2
 obtain ⟨a', h3, h4⟩ := h'.2
 have h5 := h.1 a' h3
 have h6 := h'.1 a h1
 omega
theorem Opt.congr {w : List (List Int)} {m first : Nat} {used used' : Nat → Bool} {V : Int} (e : ∀ j, j < m → used j = used' j) (h : Opt w m first used V) : Opt w m first used' V := by
 have key : ∀ {t t' : Nat → Bool}, (∀ j, j < m → t j = t' j) → ∀ a, IsA w m first t a → IsA w m first t' a := fun e a h => ⟨fun i hi => (h.rg i hi).imp id (fun ⟨h1, h2, h3, h4⟩ => ⟨h1, h2, h3, by rw [← e _ (by omega)]; exact h4⟩), h.inj⟩
 exact ⟨fun a ha => h.1 a (key (fun j hj => (e j hj).symm) a ha), h.2.elim fun a ha => ⟨a, key e a ha.1, ha.2⟩⟩
theorem sm_mono {f : Nat → Int} : ∀ (n' n : Nat), n ≤ n' → (∀ j, n ≤ j → j < n' → 0 ≤ f j) → sm f n ≤ sm f n'
 | 0, n, h, _ => by
  obtain rfl : n = 0 := by omega
  exact Int.le_refl _
 | n' + 1, n, h, hf => by
  by_cases e : n = n' + 1
  ·rw [e]; exact Int.le_refl _
  ·have h1 := sm_mono n' n (by omega) (fun j h2 h3 => hf j h2 (by omega))
   have h2 := hf n' (by omega) (by omega)
   simp only [sm]; omega
/-- Weak duality. -/
theorem weak {w : List (List Int)} {m first : Nat} {used : Nat → Bool} {a U D : Nat → Int} (ha : IsA w m first used a) (hU : ∀ i, i < w.length → 0 ≤ U i) (hD : ∀ j, j < m → 0 ≤ D j) (hf : ∀ i j, first ≤ i → i < w.length → j < m → used j = false → we w i j ≤ U i + D j) : val w a ≤ sm U w.length + sm D m := by
 have h1 : val w a ≤ sm (fun i => U i + (if a i = -1 then 0 else D (a i).toNat)) w.length := by
  refine sm_le _ (fun i hi => ?_)
  have h2 := hU i hi
  by_cases e : a i = -1
  ·simp only [e, if_pos]; omega
  ·rw [if_neg e, if_neg e]
   obtain ⟨h3, h4, h5, h6⟩ := (ha.rg i hi).resolve_left e
   exact hf i _ h3 hi (by omega) h6
 rw [sm_add] at h1
 have h2 := sm_part D m w.length a (fun _ => true) (fun j hj _ => hD j hj) (fun i hi => (ha.rg i hi).imp id (fun h => ⟨h.2.1, h.2.2.1, rfl⟩)) ha.inj
 have h3 : sm (fun j => if true = true then D j else 0) m = sm D m := sm_congr m (fun j _ => if_pos rfl)
 omega
theorem min12 (v : Nat → Int) : ∀ n, 0 < n → ∃ j0, j0 < n ∧ ∀ j, j < n → v j0 ≤ v j
 | n + 1, _ => by
  by_cases e : n = 0
  ·refine ⟨0, by omega, fun j hj => ?_⟩
   obtain rfl : j = 0 := by omega
   exact Int.le_refl _
  ·obtain ⟨j0, h1, h2⟩ := min12 v n (by omega)
   by_cases h : v n < v j0
   ·refine ⟨n, by omega, fun j hj => ?_⟩
    by_cases e2 : j = n
    ·subst e2; exact Int.le_refl _
    ·have := h2 j (by omega); omega
   ·refine ⟨j0, by omega, fun j hj => ?_⟩
    by_cases e2 : j = n
    ·rw [e2]; omega
    ·exact h2 j (by omega)
theorem sm_const (c : Int) : ∀ n, sm (fun _ => c) n = n * c
 | 0 => by simp [sm]
 | n + 1 => by simp only [sm]; rw [sm_const c n, mul_succ]
section
variable {w : List (List Int)} {m first : Nat} {used : List Bool} {b : List Int} {s : S89}
/-- What the search leaves, as numbers: potentials that are feasible and tight. -/
theorem tight_sum (mt : Mt 12 s.f0) (pt : Pt 1073741824 12 b s.f0 s.f1 s.f2) : sm (fun j => wt b (g s.f0 j).toNat j) 12 = sm (g s.f1) 12 + sm (g s.f2) 12 ∧ ∀ j, j < 12 → 0 ≤ g s.f0 j ∧ g s.f0 j < 12 := by
 have hall : ∀ j, j < 12 → 0 ≤ g s.f0 j ∧ g s.f0 j < 12 := fun j hj => by
  rcases mt.rng j hj with h | h
  ·exfalso
   have hch : ∀ (r : Nat), r < 12 → ∃ c, c < 12 ∧ g s.f0 c = (r : Int) := mt.onto
   have hex : ∃ f : Nat → Nat, ∀ (r : Nat), r < 12 → f r < 12 ∧ g s.f0 (f r) = (r : Int) := ⟨fun r => if h : r < 12 then (hch r h).choose else 0, fun r hr => by simp only [hr, dif_pos]; exact (hch r hr).choose_spec⟩
   obtain ⟨f, hf⟩ := hex
   obtain ⟨a, c, h1, h2, h3⟩ := pigeon 11 (fun r => if f r < j then f r else f r - 1) (fun r hr => by
    have h4 := hf r (by omega)
    have h5 : f r ≠ j := fun e2 => by rw [e2, h] at h4; omega
    show (if f r < j then f r else f r - 1) < 11
    split <;> omega)
   have h4 := hf a (by omega)
   have h5 := hf c (by omega)
   have h6 : f a ≠ j := fun e2 => by rw [e2, h] at h4; omega
   have h7 : f c ≠ j := fun e2 => by rw [e2, h] at h5; omega
   have h8 : f a = f c := by
    have h3' : (if f a < j then f a else f a - 1) = (if f c < j then f c else f c - 1) := h3
    split at h3' <;> split at h3' <;> omega
   rw [h8] at h4
   omega
  ·exact h
 refine ⟨?_, hall⟩
 have h1 : sm (fun j => wt b (g s.f0 j).toNat j) 12 = sm (fun j => g s.f1 (g s.f0 j).toNat + g s.f2 j) 12 := sm_congr 12 (fun j hj => by
  have h2 := hall j hj
  have h3 := pt.tight j (g s.f0 j).toNat hj (by omega)
  have h4 : red b s.f1 s.f2 (g s.f0 j).toNat j = g s.f1 (g s.f0 j).toNat + g s.f2 j - wt b (g s.f0 j).toNat j := rfl
  omega)
 rw [h1, sm_add (fun j => g s.f1 (g s.f0 j).toNat), sm_perm (g s.f1) 12 (fun j => (g s.f0 j).toNat) (fun j hj => by have := hall j hj; show (g s.f0 j).toNat < 12; omega) (fun j j' hj hj' e => by
  have h2 := hall j hj
  have h3 := hall j' hj'
  have e' : (g s.f0 j).toNat = (g s.f0 j').toNat := e
  exact mt.inj j j' hj hj' h2.1 (by omega))]
/-- The matching is best, and its potentials show it. -/
theorem found (h : Vw w m) (hu : used.length = m) (hb : ∀ r j, r < 12 → j < 12 → wt b r j = pw w m first used r j) (mt : Mt 12 s.f0) (pt : Pt 1073741824 12 b s.f0 s.f1 s.f2) {t : Int} (ht : ∃ j0, j0 < 12 ∧ g s.f2 j0 = t) (htm : ∀ j, j < 12 → t ≤ g s.f2 j) :
  Opt w m first (gb used) (sm (fun j => wt b (g s.f0 j).toNat j) 12) ∧ (∀ i, i < 12 → 0 ≤ g s.f1 i + t) ∧ (∀ i j, i < 12 → j < 12 → wt b i j ≤ (g s.f1 i + t) + (g s.f2 j - t)) ∧
   sm (fun i => g s.f1 i + t) w.length + sm (fun j => g s.f2 j - t) m = sm (fun j => wt b (g s.f0 j).toNat j) 12 := by
 have hn := h.nr
 have hm := h.mr
 obtain ⟨hsum, hall⟩ := tight_sum mt pt
 have hpos : ∀ r j, r < 12 → j < 12 → 0 ≤ wt b r j := fun r j hr hj => by
  rw [hb r j hr hj]
  by_cases e : first ≤ r ∧ r < w.length ∧ j < m ∧ gb used j = false
  ·rw [show pw w m first used r j = we w r j from if_pos e]; exact (h.eb r j e.2.1 e.2.2.1).1
  ·rw [show pw w m first used r j = 0 from if_neg e]; exact Int.le_refl _
 have hfe : ∀ i j, i < 12 → j < 12 → wt b i j ≤ (g s.f1 i + t) + (g s.f2 j - t) := fun i j hi hj => by
  have h1 := pt.feas i j hi hj
  have h2 : red b s.f1 s.f2 i j = g s.f1 i + g s.f2 j - wt b i j := rfl
  omega
 have hU : ∀ i, i < 12 → 0 ≤ g s.f1 i + t := fun i hi => by
  obtain ⟨j0, h1, h2⟩ := ht
  have h3 := hfe i j0 hi h1
  have h4 := hpos i j0 hi h1
  omega
 have hD : ∀ j, j < 12 → 0 ≤ g s.f2 j - t := fun j hj => by have := htm j hj; omega
 have htot : sm (fun i => g s.f1 i + t) 12 + sm (fun j => g s.f2 j - t) 12 = sm (g s.f1) 12 + sm (g s.f2) 12 := by
  have e1 := sm_add (g s.f1) (fun _ => t) 12
  have e2 := sm_add (g s.f2) (fun _ => -t) 12
  have e3 : sm (fun j => g s.f2 j - t) 12 = sm (fun j => g s.f2 j + -t) 12 := sm_congr 12 (fun j _ => by omega)
  rw [sm_const] at e1 e2
  rw [e3]
  omega
 have hbound : ∀ a, IsA w m first (gb used) a → val w a ≤ sm (fun i => g s.f1 i + t) w.length + sm (fun j => g s.f2 j - t) m := fun a ha =>
  weak ha (fun i hi => hU i (by omega)) (fun j hj => hD j (by omega)) (fun i j h1 h2 h3 h4 => by
   have h5 := hfe i j (by omega) (by omega)
   have h6 : wt b i j = we w i j := by rw [hb i j (by omega) (by omega)]; exact if_pos ⟨h1, h2, h3, h4⟩
   omega)
 have hle : sm (fun i => g s.f1 i + t) w.length + sm (fun j => g s.f2 j - t) m ≤ sm (fun j => wt b (g s.f0 j).toNat j) 12 := by
  have h1 := sm_mono (f := fun i => g s.f1 i + t) 12 w.length hn (fun j _ hj => hU j hj)
  have h2 := sm_mono (f := fun j => g s.f2 j - t) 12 m hm (fun j _ hj => hD j hj)
  omega
 -- the matching as an assignment
 have hch : ∀ (r : Nat), r < 12 → ∃ c, c < 12 ∧ g s.f0 c = (r : Int) := mt.onto
 obtain ⟨c, hc⟩ : ∃ c : Nat → Nat, ∀ (r : Nat), r < 12 → c r < 12 ∧ g s.f0 (c r) = (r : Int) := ⟨fun r => if h : r < 12 then (hch r h).choose else 0, fun r hr => by simp only [hr, dif_pos]; exact (hch r hr).choose_spec⟩
 have hcinj : ∀ i i', i < 12 → i' < 12 → c i = c i' → i = i' := fun i i' hi hi' e => by
  have h1 := (hc i hi).2
  have h2 := (hc i' hi').2
  rw [e, h2] at h1
  omega
 have hA : IsA w m first (gb used) (fun i => if first ≤ i ∧ c i < m ∧ gb used (c i) = false then (c i : Int) else -1) := by
  refine ⟨fun i hi => ?_, fun i i' hi hi' h0 he => ?_⟩
  ·show (if _ then (c i : Int) else -1) = -1 ∨ _
   by_cases e : first ≤ i ∧ c i < m ∧ gb used (c i) = false
   ·rw [if_pos e]
    exact .inr ⟨e.1, by omega, by omega, by rw [tn]; exact e.2.2⟩
   ·rw [if_neg e]; exact .inl rfl
  ·have h0' : 0 ≤ (if first ≤ i ∧ c i < m ∧ gb used (c i) = false then (c i : Int) else -1) := h0
   have he' : (if first ≤ i ∧ c i < m ∧ gb used (c i) = false then (c i : Int) else -1) = (if first ≤ i' ∧ c i' < m ∧ gb used (c i') = false then (c i' : Int) else -1) := he
   split at h0'
   ·rw [if_pos (by assumption)] at he'
    split at he'
    ·exact hcinj i i' (by omega) (by omega) (by omega)
    ·omega
   ·omega
 have hval : val w (fun i => if first ≤ i ∧ c i < m ∧ gb used (c i) = false then (c i : Int) else -1) = sm (fun j => wt b (g s.f0 j).toNat j) 12 := by
  have e1 : val w (fun i => if first ≤ i ∧ c i < m ∧ gb used (c i) = false then (c i : Int) else -1) = sm (fun i => wt b i (c i)) w.length := by
   refine sm_congr _ (fun i hi => ?_)
   have h1 := hc i (by omega)
   rw [hb i (c i) (by omega) h1.1]
   show (if (if first ≤ i ∧ c i < m ∧ gb used (c i) = false then (c i : Int) else -1) = -1 then 0 else we w i (if first ≤ i ∧ c i < m ∧ gb used (c i) = false then (c i : Int) else -1).toNat) = if first ≤ i ∧ i < w.length ∧ c i < m ∧ gb used (c i) = false then we w i (c i) else 0
   by_cases e : first ≤ i ∧ c i < m ∧ gb used (c i) = false
   ·rw [if_pos e, if_neg (by omega), tn, if_pos ⟨e.1, hi, e.2⟩]
   ·rw [if_neg e, if_pos rfl, if_neg (fun h2 => e ⟨h2.1, h2.2.2⟩)]
  have e2 : sm (fun i => wt b i (c i)) w.length = sm (fun i => wt b i (c i)) 12 := by
   have h1 := sm_mono (f := fun i => wt b i (c i)) 12 w.length hn (fun j _ hj => hpos j _ hj (hc j hj).1)
   have h2 := sm_mono (f := fun i => - wt b i (c i)) 12 w.length hn (fun j hj1 hj => by
    have : wt b j (c j) = 0 := by
     rw [hb j (c j) hj (hc j hj).1]
     exact if_neg (by omega)
    show 0 ≤ - wt b j (c j)
    omega)
   have h3 : ∀ n, sm (fun i => - wt b i (c i)) n = - sm (fun i => wt b i (c i)) n := by
    intro n
    induction n with
    | zero => rfl
    | succ n ih => simp only [sm]; rw [ih]; omega
   rw [h3, h3] at h2
   omega
  rw [e1, e2]
  have h3 := sm_perm (fun j => wt b (g s.f0 j).toNat j) 12 c (fun j hj => (hc j hj).1) (fun j j' hj hj' e => hcinj j j' hj hj' e)
  rw [← h3]
  exact sm_congr 12 (fun i hi => by
   show wt b i (c i) = wt b (g s.f0 (c i)).toNat (c i)
   rw [(hc i hi).2, tn])
 have hge := hbound _ hA
 rw [hval] at hge
 refine ⟨⟨fun a ha => Int.le_trans (hbound a ha) hle, _, hA, hval⟩, hU, hfe, by omega⟩
end
end Go.Proofs.Ytihmbmeelheinaa.hun
namespace Go.Proofs.Ytihmbmeelheinaa.hun
open Go Go.Proofs.Ytihmbmeelheinaa Go.Proofs.Ytihmbmeelheinaa.RW
set_option linter.unusedVariables false
set_option maxRecDepth 100000
set_option maxHeartbeats 4000000
section
variable {w : List (List Int)} {m : Nat}
theorem columns (h : Vw w m) : assign_columns.f w = some (m : Int) := by
 unfold assign_columns.f
 by_cases e : w.length = 0
 ·rw [if_pos (by omega), h.z e]; rfl
 ·have h1 := h.rl 0 (by omega)
  have h2 : (w.getD 0 []).length = m := h1
  rw [if_neg (by omega), if_pos (by omega)]
  show some ((w.getD 0 []).length : Int) = _
  rw [h2]
theorem pw_le (h : Vw w m) {first : Nat} {used : List Bool} (r j : Nat) : 0 ≤ pw w m first used r j ∧ pw w m first used r j ≤ 1073741824 := by
 by_cases e : first ≤ r ∧ r < w.length ∧ j < m ∧ gb used j = false
 ·rw [show pw w m first used r j = we w r j from if_pos e]; exact h.eb r j e.2.1 e.2.2.1
 ·rw [show pw w m first used r j = 0 from if_neg e]; omega
/-- The search over the padded matrix. -/
theorem searched (h : Vw w m) {used : List Bool} (hu : used.length = m) {first k : Nat} (hk : 600 ≤ k) (hf : first ≤ w.length) :
  ∃ (b : List Int) (s : S89), assign_pad.f k w (first : Int) used = some b ∧ assign_hungarians0.f k b = some s ∧ Mt 12 s.f0 ∧ Pt 1073741824 12 b s.f0 s.f1 s.f2 ∧ (∀ r j, r < 12 → j < 12 → wt b r j = pw w m first used r j) ∧
   assign_solution_values0.f k s b = some (sm (fun j => wt b (g s.f0 j).toNat j) 12) ∧ 0 ≤ sm (fun j => wt b (g s.f0 j).toNat j) 12 ∧ sm (fun j => wt b (g s.f0 j).toNat j) 12 ≤ 12884901888 := by
 obtain ⟨b, e1, h1, h2⟩ := pad h hu (k := k) (by omega) hf
 have hw : ∀ r j, r < 12 → j < 12 → 0 ≤ wt b r j ∧ wt b r j ≤ 1073741824 := fun r j hr hj => by rw [h2 r j hr hj]; exact pw_le h r j
 obtain ⟨s, e2, mt, pt⟩ := hungarian (M := 1073741824) (by omega) (by omega) hw (k := k) (by omega)
 have hall := (tight_sum mt pt).2
 have h3 := sm_bounds (f := fun j => wt b (g s.f0 j).toNat j) (B := 1073741824) 12 (fun j hj => hw _ j (by have := hall j hj; omega) hj)
 exact ⟨b, s, e1, e2, mt, pt, h2, value (by omega) (by omega) hw mt (by omega), h3.1, by omega⟩
theorem best_spec (h : Vw w m) {used : List Bool} (hu : used.length = m) {first k : Nat} (hk : 600 ≤ k) (hf : first ≤ w.length) : ∃ V, assign_best.f k w (first : Int) used = some V ∧ Opt w m first (gb used) V ∧ 0 ≤ V ∧ V ≤ 12884901888 := by
 obtain ⟨b, s, e1, e2, mt, pt, h2, e3, h3, h4⟩ := searched h hu hk hf
 obtain ⟨j0, hj0, hm⟩ := min12 (g s.f2) 12 (by omega)
 obtain ⟨ho, _⟩ := found h hu h2 mt pt ⟨j0, hj0, rfl⟩ hm
 refine ⟨_, ?_, ho, h3, h4⟩
 unfold assign_best.f
 rw [e1, Option.bind_some, e2, Option.bind_some, e3]
 rfl
/-! ### the dual solution -/
theorem min_spec (l : List Int) (hl : l.length = 12) {k : Nat} (hk : 14 ≤ k) : ∃ t, slices_Min_int64_int64.f k l = some t ∧ (∃ j0, j0 < 12 ∧ g l j0 = t) ∧ ∀ j, j < 12 → t ≤ g l j := by
 have key : ∀ (d k n : Nat) (t : Int), d + n = 12 → d < k → (∃ j0, j0 < n ∧ g l j0 = t) → (∀ j, j < n → t ≤ g l j) → ∃ t', slices_Min_int64_int64.l1 l k t (n : Int) = some t' ∧ (∃ j0, j0 < 12 ∧ g l j0 = t') ∧ ∀ j, j < 12 → t' ≤ g l j := by
  intro d
  induction d with
  | zero =>
   intro k n t hd hk h1 h2
   obtain ⟨k, rfl⟩ : ∃ m, k = m + 1 := ⟨k - 1, by omega⟩
   obtain rfl : n = 12 := by omega
   refine ⟨t, ?_, h1, h2⟩
   simp only [slices_Min_int64_int64.l1]
   rw [if_neg (by omega)]
  | succ d ih =>
   intro k n t hd hk h1 h2
   obtain ⟨k, rfl⟩ : ∃ m, k = m + 1 := ⟨k - 1, by omega⟩
   simp only [slices_Min_int64_int64.l1, tn]
   rw [if_pos (by omega), if_pos (by omega), if_pos (by omega), Wn (by omega)]
   have hmin : iMin t (l.getD n 0) = if g l n < t then g l n else t := rfl
   refine ih k (n + 1) _ (by omega) (by omega) ?_ (fun j hj => ?_)
   ·rw [hmin]
    split
    ·exact ⟨n, by omega, rfl⟩
    ·obtain ⟨j0, h3, h4⟩ := h1
     exact ⟨j0, by omega, h4⟩
   ·rw [hmin]
    by_cases e : j = n
    ·subst e; split <;> omega
    ·have := h2 j (by omega)
     split <;> omega
 obtain ⟨t, e, h1, h2⟩ := key 11 k 1 (g l 0) rfl (by omega) ⟨0, by omega, rfl⟩ (fun j hj => by
  obtain rfl : j = 0 := by omega
  exact Int.le_refl _)
 refine ⟨t, ?_, h1, h2⟩
 unfold slices_Min_int64_int64.f
 rw [if_neg (by omega), if_pos (by omega)]
 rw [show slices_Min_int64_int64.l1 l k (l.getD (0 : Int).toNat 0) 1 = some t from e]
 rfl
theorem duals_spec (h : Vw w m) {s : S89} (hul : s.f1.length = 12) (hvl : s.f2.length = 12) (hub : ∀ r, r < 12 → -14000000000 ≤ g s.f1 r ∧ g s.f1 r ≤ 14000000000) (hvb : ∀ j, j < 12 → 0 ≤ g s.f2 j ∧ g s.f2 j ≤ 14000000000) {k : Nat} (hk : 40 ≤ k) :
  ∃ (d : S62) (t : Int), assign_dualss0.f k w s = some d ∧ (∃ j0, j0 < 12 ∧ g s.f2 j0 = t) ∧ (∀ j, j < 12 → t ≤ g s.f2 j) ∧ d.f0.length = w.length ∧ d.f1.length = m ∧ (∀ i, i < w.length → g d.f0 i = g s.f1 i + t) ∧ ∀ j, j < m → g d.f1 j = g s.f2 j - t := by
 have hn := h.nr
 have hm := h.mr
 obtain ⟨t, e1, ht, htm⟩ := min_spec s.f2 hvl (k := k) (by omega)
 have htb : 0 ≤ t ∧ t ≤ 14000000000 := by obtain ⟨j0, h1, h2⟩ := ht; have := hvb j0 h1; omega
 have keyU : ∀ (d k n : Nat) (x : List Int), d + n = w.length → d < k → x.length = w.length → (∀ i, i < n → g x i = g s.f1 i + t) → ∃ x', assign_dualss0.l2 w s t k x (n : Int) = some x' ∧ x'.length = w.length ∧ ∀ i, i < w.length → g x' i = g s.f1 i + t := by
  intro d
  induction d with
  | zero =>
   intro k n x hd hk hx h1
   obtain ⟨k, rfl⟩ : ∃ m, k = m + 1 := ⟨k - 1, by omega⟩
   refine ⟨x, ?_, hx, fun i hi => h1 i (by omega)⟩
   simp only [assign_dualss0.l2, tn, List.length_replicate]
   rw [if_neg (by omega)]
  | succ d ih =>
   intro k n x hd hk hx h1
   obtain ⟨k, rfl⟩ : ∃ m, k = m + 1 := ⟨k - 1, by omega⟩
   have h2 := hub n (by omega)
   simp only [assign_dualss0.l2, tn, List.length_replicate]
   rw [if_pos (by omega), if_pos (by omega), if_pos (by omega), if_pos (by omega), if_pos (by omega), Wn (by omega)]
   rw [show W .i64 (s.f1.getD n 0 + t) = g s.f1 n + t from W64 (by show _ ≤ g s.f1 n + t; omega) (by show g s.f1 n + t ≤ _; omega)]
   refine ih k (n + 1) _ (by omega) (by omega) (by rw [List.length_set]; exact hx) (fun i hi => ?_)
   rw [gset (by omega)]
   split
   ·rename_i e; rw [e]
   ·exact h1 i (by omega)
 have keyV : ∀ (d k n : Nat) (x : List Int), d + n = m → d < k → x.length = m → (∀ i, i < n → g x i = g s.f2 i - t) → ∃ x', assign_dualss0.l1 s t (m : Int) k x (n : Int) = some x' ∧ x'.length = m ∧ ∀ i, i < m → g x' i = g s.f2 i - t := by
  intro d
  induction d with
  | zero =>
   intro k n x hd hk hx h1
   obtain ⟨k, rfl⟩ : ∃ m, k = m + 1 := ⟨k - 1, by omega⟩
   refine ⟨x, ?_, hx, fun i hi => h1 i (by omega)⟩
   simp only [assign_dualss0.l1, tn, List.length_replicate]
   rw [if_neg (by omega)]
  | succ d ih =>
   intro k n x hd hk hx h1
   obtain ⟨k, rfl⟩ : ∃ m, k = m + 1 := ⟨k - 1, by omega⟩
   have h2 := hvb n (by omega)
   simp only [assign_dualss0.l1, tn, List.length_replicate]
   rw [if_pos (by omega), if_pos (by omega), if_pos (by omega), if_pos (by omega), if_pos (by omega), Wn (by omega)]
   rw [show W .i64 (s.f2.getD n 0 - t) = g s.f2 n - t from W64 (by show _ ≤ g s.f2 n - t; omega) (by show g s.f2 n - t ≤ _; omega)]
   refine ih k (n + 1) _ (by omega) (by omega) (by rw [List.length_set]; exact hx) (fun i hi => ?_)
   rw [gset (by omega)]
   split
   ·rename_i e; rw [e]
   ·exact h1 i (by omega)
 obtain ⟨xu, e2, h1, h2⟩ := keyU w.length k 0 (List.replicate w.length 0) (by omega) (by omega) (by simp) (fun i hi => by omega)
 obtain ⟨xv, e3, h3, h4⟩ := keyV m k 0 (List.replicate m 0) (by omega) (by omega) (by simp) (fun i hi => by omega)
 refine ⟨⟨xu, xv⟩, t, ?_, ht, htm, h1, h3, h2, h4⟩
 unfold assign_dualss0.f
 rw [List.take_of_length_le (by omega), e1, Option.bind_some, if_pos (by omega), if_pos (by omega), columns h, Option.bind_some, if_pos (by omega), if_pos (by omega)]
 rw [show assign_dualss0.l2 w s t k (List.replicate ((w.length : Int)).toNat 0) 0 = some xu from by rw [tn]; exact e2, Option.bind_some]
 simp only [assign_dualss0.k2, tn]
 rw [show assign_dualss0.l1 s t (m : Int) k (List.replicate m 0) 0 = some xv from e3]
 rfl
end
end Go.Proofs.Ytihmbmeelheinaa.hun
namespace Go.Proofs.Ytihmbmeelheinaa.hun
open Go Go.Proofs.Ytihmbmeelheinaa Go.Proofs.Ytihmbmeelheinaa.RW
set_option linter.unusedVariables false
set_option maxRecDepth 100000
set_option maxHeartbeats 4000000
section
variable {w : List (List Int)} {m : Nat}
/-- One more column is used. -/
abbrev plus (used : Nat → Bool) (j : Nat) : Nat → Bool := fun j' => if j' = j then true else used j'
/-- Row i takes column j. -/
theorem Opt.take {i j : Nat} {used : Nat → Bool} {V Vj : Int} (hi : i < w.length) (hj : j < m) (hu : used j = false) (h : Opt w m i used V) (hr : Opt w m (i + 1) (plus used j) Vj) : we w i j + Vj ≤ V := by
 obtain ⟨a, ha, hv⟩ := hr.2
 have hai : a i = -1 := by
  rcases ha.rg i hi with h1 | h1
  ·exact h1
  ·omega
 have hA : IsA w m i used (fun i' => if i' = i then (j : Int) else a i') := by
  refine ⟨fun i' hi' => ?_, fun i' i'' hi' hi'' h0 he => ?_⟩
  ·show (if i' = i then (j : Int) else a i') = -1 ∨ i ≤ i' ∧ 0 ≤ (if i' = i then (j : Int) else a i') ∧ (if i' = i then (j : Int) else a i') < (m : Int) ∧ used (if i' = i then (j : Int) else a i').toNat = false
   by_cases e : i' = i
   ·rw [if_pos e, tn]
    exact .inr ⟨by omega, by omega, by omega, hu⟩
   ·rw [if_neg e]
    refine (ha.rg i' hi').imp id (fun ⟨h1, h2, h3, h4⟩ => ⟨by omega, h2, h3, ?_⟩)
    have h4' : (if (a i').toNat = j then true else used (a i').toNat) = false := h4
    split at h4'
    ·cases h4'
    ·exact h4'
  ·have h0' : 0 ≤ (if i' = i then (j : Int) else a i') := h0
   have he' : (if i' = i then (j : Int) else a i') = (if i'' = i then (j : Int) else a i'') := he
   have hnj : ∀ q, q < w.length → a q ≠ (j : Int) := fun q hq e => by
    obtain ⟨_, _, _, h4⟩ := (ha.rg q hq).resolve_left (by omega)
    have h4' : (if (a q).toNat = j then true else used (a q).toNat) = false := h4
    rw [if_pos (by omega)] at h4'
    cases h4'
   by_cases e1 : i' = i <;> by_cases e2 : i'' = i
   ·omega
   ·rw [if_pos e1, if_neg e2] at he'
    exact absurd he'.symm (hnj i'' hi'')
   ·rw [if_neg e1, if_pos e2] at he'
    exact absurd he' (hnj i' hi')
   ·rw [if_neg e1] at h0'
    rw [if_neg e1, if_neg e2] at he'
    exact ha.inj i' i'' hi' hi'' h0' he'
 have h1 := h.1 _ hA
 have h2 : val w (fun i' => if i' = i then (j : Int) else a i') = val w a + we w i j := by
  have e1 : val w (fun i' => if i' = i then (j : Int) else a i') = sm (fun i' => if i' = i then we w i j else (if a i' = -1 then 0 else we w i' (a i').toNat)) w.length := sm_congr _ (fun i' hi' => by
   show (if (if i' = i then (j : Int) else a i') = -1 then 0 else we w i' (if i' = i then (j : Int) else a i').toNat) = _
   by_cases e : i' = i
   ·rw [if_pos e, if_pos e, if_neg (by omega), tn, e]
   ·rw [if_neg e, if_neg e])
  rw [e1, sm_upd (fun i' => if a i' = -1 then 0 else we w i' (a i').toNat) i (we w i j) w.length hi]
  have e2 : (if a i = -1 then 0 else we w i (a i).toNat) = 0 := if_pos hai
  show val w a - (if a i = -1 then 0 else we w i (a i).toNat) + we w i j = _
  omega
 omega
/-- Row i takes none, where no column is as good. -/
theorem Opt.skip {i : Nat} {used : Nat → Bool} {V : Int} (hi : i < w.length) (h : Opt w m i used V) (hs : ∀ j, j < m → used j = false → ∃ Vj, Opt w m (i + 1) (plus used j) Vj ∧ we w i j + Vj < V) : Opt w m (i + 1) used V := by
 have up : ∀ a, IsA w m (i + 1) used a → IsA w m i used a := fun a ha => ⟨fun i' hi' => (ha.rg i' hi').imp id (fun ⟨h1, h2⟩ => ⟨by omega, h2⟩), ha.inj⟩
 refine ⟨fun a ha => h.1 a (up a ha), ?_⟩
 obtain ⟨a, ha, hv⟩ := h.2
 refine ⟨a, ⟨fun i' hi' => ?_, ha.inj⟩, hv⟩
 rcases ha.rg i' hi' with h1 | ⟨h1, h2, h3, h4⟩
 ·exact .inl h1
 ·by_cases e : i' = i
  ·exfalso
   subst e
   obtain ⟨Vj, h5, h6⟩ := hs (a i').toNat (by omega) h4
   have hA : IsA w m (i' + 1) (plus used (a i').toNat) (fun q => if q = i' then -1 else a q) := by
    refine ⟨fun q hq => ?_, fun q q' hq hq' h0 he => ?_⟩
    ·show (if q = i' then -1 else a q) = -1 ∨ i' + 1 ≤ q ∧ 0 ≤ (if q = i' then -1 else a q) ∧ (if q = i' then -1 else a q) < (m : Int) ∧ (if (if q = i' then -1 else a q).toNat = (a i').toNat then true else used (if q = i' then -1 else a q).toNat) = false
     by_cases e : q = i'
     ·rw [if_pos e]; exact .inl rfl
     ·rw [if_neg e]
      rcases ha.rg q hq with h7 | ⟨h7, h8, h9, h10⟩
      ·exact .inl h7
      ·refine .inr ⟨by omega, h8, h9, ?_⟩
       rw [if_neg (fun h11 => e (ha.inj q i' hq hi h8 (by omega)))]
       exact h10
    ·have h0' : 0 ≤ (if q = i' then -1 else a q) := h0
     have he' : (if q = i' then -1 else a q) = (if q' = i' then -1 else a q') := he
     by_cases e1 : q = i'
     ·rw [if_pos e1] at h0'; omega
     ·rw [if_neg e1] at h0' he'
      by_cases e2 : q' = i'
      ·rw [if_pos e2] at he'; omega
      ·rw [if_neg e2] at he'
       exact ha.inj q q' hq hq' h0' he'
   have h7 := h5.1 _ hA
   have h8 : val w (fun q => if q = i' then -1 else a q) = val w a - we w i' (a i').toNat := by
    have e1 : val w (fun q => if q = i' then -1 else a q) = sm (fun q => if q = i' then 0 else (if a q = -1 then 0 else we w q (a q).toNat)) w.length := sm_congr _ (fun q hq => by
     show (if (if q = i' then -1 else a q) = -1 then 0 else we w q (if q = i' then -1 else a q).toNat) = _
     by_cases e : q = i'
     ·rw [if_pos e, if_pos e, if_pos rfl]
     ·rw [if_neg e, if_neg e])
    rw [e1, sm_upd (fun q => if a q = -1 then 0 else we w q (a q).toNat) i' 0 w.length hi]
    have e2 : (if a i' = -1 then 0 else we w i' (a i').toNat) = we w i' (a i').toNat := if_neg (by omega)
    show val w a - (if a i' = -1 then 0 else we w i' (a i').toNat) + 0 = _
    omega
   omega
  ·exact .inr ⟨by omega, h2, h3, h4⟩
theorem set_same {l : List Bool} {j : Nat} (hj : j < l.length) (h : gb l j = false) : (l.set j true).set j false = l := by
 rw [List.set_set]
 have h1 : l[j] = false := by
  have h2 : l.getD j false = false := h
  rw [List.getD_eq_getElem?_getD, List.getElem?_eq_getElem hj] at h2
  exact h2
 have := List.set_getElem_self hj
 rw [h1] at this
 exact this
theorem gb_plus {l : List Bool} {j : Nat} (hj : j < l.length) : gb (l.set j true) = plus (gb l) j := by
 funext q
 exact gbset hj true q
/-- One row of Solve. -/
theorem pick (h : Vw w m) {used : List Bool} (hu : used.length = m) {i : Nat} (hi : i < w.length) {V : Int} (hV : Opt w m i (gb used) V) {l : List Int} (hl : l.length = w.length) : ∀ (d k n : Nat), d + n = m → d + 650 ≤ k → (∀ j, j < n → gb used j = false → ∃ Vj, Opt w m (i + 1) (plus (gb used) j) Vj ∧ we w i j + Vj < V) →
  (∃ (j : Nat) (Vj : Int), j < m ∧ gb used j = false ∧ Opt w m (i + 1) (plus (gb used) j) Vj ∧ we w i j + Vj = V ∧ (∀ j', j' < j → gb used j' = false → ∃ Vj, Opt w m (i + 1) (plus (gb used) j') Vj ∧ we w i j' + Vj < V) ∧
   assign_Solve.l2 w V l (i : Int) k used (n : Int) = some (used.set j true, Vj, (l.set i (-1)).set i (j : Int))) ∨
  (∀ j, j < m → gb used j = false → ∃ Vj, Opt w m (i + 1) (plus (gb used) j) Vj ∧ we w i j + Vj < V) ∧ assign_Solve.l2 w V l (i : Int) k used (n : Int) = some (used, V, l.set i (-1)) := by
 have hn12 := h.nr
 have hm12 := h.mr
 have hrl := h.rl i hi
 intro d
 induction d with
 | zero =>
  intro k n hd hk hall
  obtain ⟨k, rfl⟩ : ∃ m, k = m + 1 := ⟨k - 1, by omega⟩
  refine .inr ⟨fun j hj => hall j (by omega), ?_⟩
  simp only [assign_Solve.l2, tn]
  rw [if_neg (by show ¬ (n : Int) < ((row w i).length : Int); omega)]
 | succ d ih =>
  intro k n hd hk hall
  obtain ⟨k, rfl⟩ : ∃ m, k = m + 1 := ⟨k - 1, by omega⟩
  have hn : n < m := by omega
  simp only [assign_Solve.l2, tn]
  rw [if_pos (by show (n : Int) < ((row w i).length : Int); omega), if_pos (by omega), if_pos (by show (n : Int) < ((row w i).length : Int); omega), if_pos (by omega), if_pos (by omega), Wn (by omega)]
  cases hd' : gb used n with
  | true =>
   rw [if_pos hd']
   refine ih k (n + 1) (by omega) (by omega) (fun j hj hj2 => ?_)
   by_cases e : j = n
   ·rw [e, hd'] at hj2; cases hj2
   ·exact hall j (by omega) hj2
  | false =>
   rw [if_neg (by show ¬ gb used n = true; rw [hd']; decide), if_pos (by omega), if_pos (by omega), Wn (by omega)]
   obtain ⟨Vj, e1, h1, h2, h3⟩ := best_spec h (used := used.set n true) (by rw [List.length_set]; exact hu) (first := i + 1) (k := k) (by omega) (by omega)
   rw [gb_plus (by omega)] at h1
   rw [e1, Option.bind_some]
   have h4 := h.eb i n hi hn
   rw [show W .i64 ((w.getD i []).getD n 0 + Vj) = we w i n + Vj from W64 (by show _ ≤ we w i n + Vj; omega) (by show we w i n + Vj ≤ _; omega)]
   by_cases heq : we w i n + Vj = V
   ·rw [if_pos heq, if_pos (by omega), if_pos (by rw [List.length_set]; omega)]
    exact .inl ⟨n, Vj, hn, hd', h1, heq, hall, rfl⟩
   ·rw [if_neg heq, if_pos (by omega), if_pos (by rw [List.length_set]; omega), set_same (by omega) hd']
    have h5 := hV.take hi hn hd' h1
    refine ih k (n + 1) (by omega) (by omega) (fun j hj hj2 => ?_)
    by_cases e : j = n
    ·rw [e]; exact ⟨Vj, h1, by omega⟩
    ·exact hall j (by omega) hj2
/-! ### all rows -/
/-- Column j is taken by a row ahead of row i. -/
def taken (a : Nat → Int) (i j : Nat) : Bool := (List.range i).any fun i' => a i' == (j : Int)
theorem taken_iff {a : Nat → Int} {i j : Nat} : taken a i j = true ↔ ∃ i', i' < i ∧ a i' = (j : Int) := by
 unfold taken
 rw [List.any_eq_true]
 constructor
 ·rintro ⟨i', h1, h2⟩
  exact ⟨i', List.mem_range.1 h1, by simpa using h2⟩
 ·rintro ⟨i', h1, h2⟩
  exact ⟨i', List.mem_range.2 h1, by simpa using h2⟩
theorem taken_succ {a : Nat → Int} {i : Nat} (j : Nat) : taken a (i + 1) j = (taken a i j || a i == (j : Int)) := by
 unfold taken
 rw [List.range_succ, List.any_append]
 simp
theorem taken_congr {a a' : Nat → Int} {i : Nat} (h : ∀ i', i' < i → a i' = a' i') (j : Nat) : taken a i j = taken a' i j := by
 have key : ∀ {a a' : Nat → Int}, (∀ i', i' < i → a i' = a' i') → taken a i j = true → taken a' i j = true := fun h ht => by
  obtain ⟨i', h1, h2⟩ := taken_iff.1 ht
  exact taken_iff.2 ⟨i', h1, by rw [← h i' h1]; exact h2⟩
 cases h1 : taken a i j with
 | true => exact (key h h1).symm
 | false =>
  cases h2 : taken a' i j with
  | false => rfl
  | true => rw [key (fun i' hi => (h i' hi).symm) h2] at h1; cases h1
/-- What the rows ahead of row i bring. -/
def ahead (w : List (List Int)) (a : Nat → Int) (i : Nat) : Int := sm (fun i' => if a i' = -1 then 0 else we w i' (a i').toNat) i
/-- The choices of the rows ahead of row i: valid, and the first that are best. -/
structure Chosen (w : List (List Int)) (m : Nat) (V0 : Int) (a : Nat → Int) (i : Nat) : Prop where
 rg : ∀ i', i' < i → a i' = -1 ∨ (0 ≤ a i' ∧ a i' < (m : Int) ∧ taken a i' (a i').toNat = false)
 lex : ∀ i', i' < i → ∀ j, j < m → taken a i' j = false → (a i' = -1 ∨ (j : Int) < a i') → ∃ Vj, Opt w m (i' + 1) (plus (taken a i') j) Vj ∧ ahead w a i' + we w i' j + Vj < V0
theorem Chosen.congr {V0 : Int} {a a' : Nat → Int} {i : Nat} (e : ∀ i', i' < i → a i' = a' i') (h : Chosen w m V0 a i) : Chosen w m V0 a' i := by
 have ht : ∀ i', i' < i → taken a i' = taken a' i' := fun i' hi' => funext (fun j => taken_congr (fun q hq => e q (by omega)) j)
 have hs : ∀ i', i' < i → ahead w a i' = ahead w a' i' := fun i' hi' => sm_congr _ (fun q hq => by rw [e q (by omega)])
 refine ⟨fun i' hi' => ?_, fun i' hi' j hj h1 h2 => ?_⟩
 ·rw [← ht i' hi', ← e i' hi']; exact h.rg i' hi'
 ·rw [← ht i' hi'] at h1 ⊢
  rw [← e i' hi'] at h2
  rw [← hs i' hi']
  exact h.lex i' hi' j hj h1 h2
theorem choose (h : Vw w m) {V0 : Int} : ∀ (d k i : Nat) (used : List Bool) (V : Int) (l : List Int), d + i = w.length → d + 700 ≤ k → used.length = m → l.length = w.length → Opt w m i (gb used) V → (∀ j, j < m → gb used j = taken (g l) i j) → ahead w (g l) i + V = V0 → Chosen w m V0 (g l) i →
  ∃ l', assign_Solve.l1 w k used V l (i : Int) = some l' ∧ l'.length = w.length ∧ Chosen w m V0 (g l') w.length ∧ ahead w (g l') w.length = V0 := by
 have hn12 := h.nr
 have hm12 := h.mr
 intro d
 induction d with
 | zero =>
  intro k i used V l hd hk hu hl hV ht hs hc
  obtain ⟨k, rfl⟩ : ∃ m, k = m + 1 := ⟨k - 1, by omega⟩
  obtain rfl : i = w.length := by omega
  refine ⟨l, ?_, hl, hc, ?_⟩
  ·simp only [assign_Solve.l1]
   rw [if_neg (by omega)]
  ·obtain ⟨a, ha, hv⟩ := hV.2
   have h0 : val w a = 0 := by
    have e1 : val w a = sm (fun _ => 0) w.length := sm_congr _ (fun i' hi' => by
     rcases ha.rg i' hi' with h1 | h1
     ·exact if_pos h1
     ·omega)
    rw [e1, sm_const]; simp
   omega
 | succ d ih =>
  intro k i used V l hd hk hu hl hV ht hs hc
  obtain ⟨k, rfl⟩ : ∃ m, k = m + 1 := ⟨k - 1, by omega⟩
  have hi : i < w.length := by omega
  have hteq : Opt w m i (taken (g l) i) V := hV.congr ht
  have conv : ∀ {j : Nat} {Vj : Int}, Opt w m (i + 1) (plus (gb used) j) Vj → Opt w m (i + 1) (plus (taken (g l) i) j) Vj := fun {j Vj} ho => ho.congr (fun q hq => by
   show (if q = j then true else gb used q) = if q = j then true else taken (g l) i q
   rw [ht q hq])
  rcases pick h hu hi hV hl m k 0 (by omega) (by omega) (fun j hj => by omega) with ⟨j, Vj, hj, hju, ho, heq, hlt, e⟩ | ⟨hlt, e⟩
  ·-- a column is taken
   have hkey : ∀ q, g ((l.set i (-1)).set i (j : Int)) q = if q = i then (j : Int) else g l q := fun q => by
    rw [gset (by rw [List.length_set]; omega)]
    split
    ·rfl
    ·rename_i e; rw [gset (by omega), if_neg e]
   have hlow : ∀ q, q < i → g l q = g ((l.set i (-1)).set i (j : Int)) q := fun q hq => by rw [hkey, if_neg (by omega)]
   have hti : taken (g ((l.set i (-1)).set i (j : Int))) i = taken (g l) i := funext (fun q => (taken_congr hlow q).symm)
   have hsi : ahead w (g ((l.set i (-1)).set i (j : Int))) i = ahead w (g l) i := (sm_congr _ (fun q hq => by rw [hlow q hq])).symm
   have hgi : g ((l.set i (-1)).set i (j : Int)) i = (j : Int) := by rw [hkey, if_pos rfl]
   obtain ⟨l', e2, h2⟩ := ih k (i + 1) (used.set j true) Vj ((l.set i (-1)).set i (j : Int)) (by omega) (by omega) (by rw [List.length_set]; exact hu) (by rw [List.length_set, List.length_set]; exact hl) (by rw [gb_plus (by omega)]; exact ho) (fun q hq => by
     rw [taken_succ, hti, hgi, ← ht q hq, gbset (by omega)]
     by_cases e : q = j
     ·subst e; simp
     ·have : ((j : Int) == (q : Int)) = false := beq_eq_false_iff_ne.2 (by omega)
      rw [if_neg e, this, Bool.or_false]) (by
     show sm _ (i + 1) + Vj = V0
     simp only [sm]
     have h3 : sm (fun i' => if g ((l.set i (-1)).set i (j : Int)) i' = -1 then 0 else we w i' (g ((l.set i (-1)).set i (j : Int)) i').toNat) i = ahead w (g l) i := hsi
     rw [h3, hgi, if_neg (by omega), tn]
     omega) (by
     have hc' := hc.congr hlow
     refine ⟨fun i' hi' => ?_, fun i' hi' q hq h3 h4 => ?_⟩
     ·by_cases e : i' = i
      ·subst e
       rw [hgi, tn, hti, ← ht j hj]
       exact .inr ⟨by omega, by omega, hju⟩
      ·exact hc'.rg i' (by omega)
     ·by_cases e : i' = i
      ·subst e
       rw [hti] at h3 ⊢
       rw [hgi] at h4
       rw [hsi]
       obtain ⟨Vq, h5, h6⟩ := hlt q (by omega) (by rw [ht q hq]; exact h3)
       exact ⟨Vq, conv h5, by omega⟩
      ·exact hc'.lex i' (by omega) q hq h3 h4)
   refine ⟨l', ?_, h2⟩
   simp only [assign_Solve.l1]
   rw [if_pos (by omega), if_pos (by omega), if_pos (by omega), if_pos (by omega), if_pos (by omega), show assign_Solve.l2 w V l (i : Int) k used 0 = _ from e]
   simp only [Option.bind_some, assign_Solve.k3]
   rw [Wn (by omega)]
   exact e2
  ·-- none is
   have hkey : ∀ q, g (l.set i (-1)) q = if q = i then -1 else g l q := fun q => gset (by omega) _ q
   have hlow : ∀ q, q < i → g l q = g (l.set i (-1)) q := fun q hq => by rw [hkey, if_neg (by omega)]
   have hti : taken (g (l.set i (-1))) i = taken (g l) i := funext (fun q => (taken_congr hlow q).symm)
   have hsi : ahead w (g (l.set i (-1))) i = ahead w (g l) i := (sm_congr _ (fun q hq => by rw [hlow q hq])).symm
   have hgi : g (l.set i (-1)) i = -1 := by rw [hkey, if_pos rfl]
   obtain ⟨l', e2, h2⟩ := ih k (i + 1) used V (l.set i (-1)) (by omega) (by omega) hu (by rw [List.length_set]; exact hl) (hV.skip hi hlt) (fun q hq => by
     rw [taken_succ, hti, hgi, ← ht q hq]
     have : ¬ (-1 : Int) = (q : Int) := by omega
     simp [this]) (by
     show sm _ (i + 1) + V = V0
     simp only [sm]
     have h3 : sm (fun i' => if g (l.set i (-1)) i' = -1 then 0 else we w i' (g (l.set i (-1)) i').toNat) i = ahead w (g l) i := hsi
     rw [h3, hgi, if_pos rfl]
     omega) (by
     have hc' := hc.congr hlow
     refine ⟨fun i' hi' => ?_, fun i' hi' q hq h3 h4 => ?_⟩
     ·by_cases e : i' = i
      ·subst e; exact .inl hgi
      ·exact hc'.rg i' (by omega)
     ·by_cases e : i' = i
      ·subst e
       rw [hti] at h3 ⊢
       rw [hsi]
       obtain ⟨Vq, h5, h6⟩ := hlt q hq (by rw [ht q hq]; exact h3)
       exact ⟨Vq, conv h5, by omega⟩
      ·exact hc'.lex i' (by omega) q hq h3 h4)
   refine ⟨l', ?_, h2⟩
   simp only [assign_Solve.l1]
   rw [if_pos (by omega), if_pos (by omega), if_pos (by omega), if_pos (by omega), if_pos (by omega), show assign_Solve.l2 w V l (i : Int) k used 0 = _ from e]
   simp only [Option.bind_some, assign_Solve.k3]
   rw [Wn (by omega)]
   exact e2
/-- What the law's text knows of Solve. -/
structure Solved (w : List (List Int)) (m : Nat) (l : List Int) (d : S62) (V : Int) : Prop where
 ll : l.length = w.length
 opt : Opt w m 0 (fun _ => false) V
 isa : IsA w m 0 (fun _ => false) (g l)
 val : val w (g l) = V
 ch : Chosen w m V (g l) w.length
 vb : 0 ≤ V ∧ V ≤ 12884901888
 ul : d.f0.length = w.length
 vl : d.f1.length = m
 up : ∀ i, i < w.length → 0 ≤ g d.f0 i ∧ g d.f0 i ≤ V
 vp : ∀ j, j < m → 0 ≤ g d.f1 j ∧ g d.f1 j ≤ V
 feas : ∀ i j, i < w.length → j < m → we w i j ≤ g d.f0 i + g d.f1 j
 sum : sm (g d.f0) w.length + sm (g d.f1) m = V
theorem sm_one {f : Nat → Int} : ∀ (n i : Nat), i < n → (∀ j, j < n → 0 ≤ f j) → f i ≤ sm f n
 | n + 1, i, hi, h => by
  have h0 : 0 ≤ sm f n := sm_mono (f := f) n 0 (by omega) (fun j _ hj => h j (by omega))
  have h1 := h n (by omega)
  simp only [sm]
  by_cases e : i = n
  ·subst e; omega
  ·have := sm_one n i (by omega) (fun j hj => h j (by omega)); omega
theorem Chosen.isa {V0 : Int} {a : Nat → Int} (h : Chosen w m V0 a w.length) : IsA w m 0 (fun _ => false) a := by
 refine ⟨fun i hi => (h.rg i hi).imp id (fun h1 => ⟨Nat.zero_le _, h1.1, h1.2.1, rfl⟩), fun i i' hi hi' h0 he => ?_⟩
 have key : ∀ i i', i < i' → i' < w.length → 0 ≤ a i → a i = a i' → False := fun i i' hlt hi' h0 he => by
  obtain ⟨_, _, h3⟩ := (h.rg i' hi').resolve_left (by omega)
  have : taken a i' (a i').toNat = true := taken_iff.2 ⟨i, hlt, by omega⟩
  rw [this] at h3
  cases h3
 rcases Nat.lt_or_ge i i' with h1 | h1
 ·exact (key i i' h1 hi' h0 he).elim
 ·rcases Nat.lt_or_ge i' i with h2 | h2
  ·exact (key i' i h2 hi (by omega) he.symm).elim
  ·omega
theorem solve (h : Vw w m) {k : Nat} (hk : 800 ≤ k) : ∃ (l : List Int) (d : S62) (V : Int), assign_Solve.f k w = some (l, d) ∧ Solved w m l d V := by
 have hn := h.nr
 have hm := h.mr
 obtain ⟨b, s, e1, e2, mt, pt, h2, e3, h3, h4⟩ := searched h (used := List.replicate m false) (by simp) (first := 0) (k := k) (by omega) (by omega)
 have hbU : ∀ r, r < 12 → -14000000000 ≤ g s.f1 r ∧ g s.f1 r ≤ 14000000000 := fun r hr => by have := pt.ub r hr; omega
 have hbV : ∀ j, j < 12 → 0 ≤ g s.f2 j ∧ g s.f2 j ≤ 14000000000 := fun j hj => by have h5 := pt.vb j hj; have h6 := pt.vpos j hj; omega
 obtain ⟨d, t, e4, ht, htm, hd0, hd1, hdU, hdV⟩ := duals_spec h pt.ul pt.vl hbU hbV (k := k) (by omega)
 obtain ⟨ho, hU, hf, hsum⟩ := found h (by simp) h2 mt pt ht htm
 generalize hV : sm (fun j => wt b (g s.f0 j).toNat j) 12 = V at *
 have hrep : ∀ j, j < m → gb (List.replicate m false) j = false := fun j hj => gbrep hj
 obtain ⟨l, e5, hl, hc, hs⟩ := choose h (V0 := V) w.length k 0 (List.replicate m false) V (List.replicate w.length 0) (by omega) (by omega) (by simp) (by simp) ho (fun j hj => by
   rw [hrep j hj]; rfl) (by show sm _ 0 + V = V; simp [sm]) ⟨fun i' hi' => by omega, fun i' hi' => by omega⟩
 have hD : ∀ j, j < m → 0 ≤ g d.f1 j := fun j hj => by rw [hdV j hj]; have := htm j (by omega); omega
 have hUp : ∀ i, i < w.length → 0 ≤ g d.f0 i := fun i hi => by rw [hdU i hi]; exact hU i (by omega)
 have hsum' : sm (g d.f0) w.length + sm (g d.f1) m = V := by
  rw [sm_congr w.length hdU, sm_congr m hdV]; exact hsum
 have hp0 : 0 ≤ sm (g d.f0) w.length := sm_mono (f := g d.f0) w.length 0 (by omega) (fun j _ hj => hUp j hj)
 have hp1 : 0 ≤ sm (g d.f1) m := sm_mono (f := g d.f1) m 0 (by omega) (fun j _ hj => hD j hj)
 refine ⟨l, d, V, ?_, hl, ho.congr hrep, hc.isa, hs, hc, ⟨h3, h4⟩, hd0, hd1, fun i hi => ⟨hUp i hi, ?_⟩, fun j hj => ⟨hD j hj, ?_⟩, fun i j hi hj => ?_, hsum'⟩
 ·unfold assign_Solve.f
  rw [columns h, Option.bind_some, if_pos (by omega), if_pos (by omega)]
  simp only [tn]
  rw [show assign_pad.f k w 0 (List.replicate m false) = some b from e1, Option.bind_some, e2, Option.bind_some, e3, Option.bind_some, if_pos (by omega), if_pos (by omega)]
  rw [show assign_Solve.l1 w k (List.replicate m false) V (List.replicate w.length 0) 0 = some l from e5, Option.bind_some]
  simp only [assign_Solve.k1]
  rw [e4]
  rfl
 ·have := sm_one (f := g d.f0) w.length i hi (fun j hj => hUp j hj); omega
 ·have := sm_one (f := g d.f1) m j hj (fun j hj => hD j hj); omega
 ·rw [hdU i hi, hdV j hj]
  have h5 := hf i j (by omega) (by omega)
  rw [h2 i j (by omega) (by omega), show pw w m 0 (List.replicate m false) i j = we w i j from if_pos ⟨Nat.zero_le _, hi, hj, hrep j hj⟩] at h5
  exact h5
end
end Go.Proofs.Ytihmbmeelheinaa.hun
namespace Go.Proofs.Ytihmbmeelheinaa.hun
open Go Go.Proofs.Ytihmbmeelheinaa Go.Proofs.Ytihmbmeelheinaa.RW
set_option linter.unusedVariables false
set_option maxRecDepth 100000
set_option maxHeartbeats 4000000
section
variable {w : List (List Int)} {m : Nat}
def valid (w : List (List Int)) (m : Nat) (l : List Int) : Prop := l.length = w.length ∧ ∀ i, i < w.length → g l i = -1 ∨ (0 ≤ g l i ∧ g l i < (m : Int) ∧ taken (g l) i (g l i).toNat = false)
theorem valid_of {l : List Int} (hl : l.length = w.length) (h : IsA w m 0 (fun _ => false) (g l)) : valid w m l := by
 refine ⟨hl, fun i hi => (h.rg i hi).imp id (fun ⟨_, h1, h2, _⟩ => ⟨h1, h2, ?_⟩)⟩
 cases ht : taken (g l) i (g l i).toNat with
 | false => rfl
 | true =>
  obtain ⟨i', h3, h4⟩ := taken_iff.1 ht
  have := h.inj i' i (by omega) hi (by omega) (by omega)
  omega
theorem ahead_b (h : Vw w m) {l : List Int} (n : Nat) (hn : n ≤ w.length) (hv : ∀ i, i < n → g l i = -1 ∨ (0 ≤ g l i ∧ g l i < (m : Int))) : 0 ≤ ahead w (g l) n ∧ ahead w (g l) n ≤ n * 1073741824 := by
 refine sm_bounds n (fun i hi => ?_)
 by_cases e : g l i = -1
 ·rw [if_pos e]; omega
 ·rw [if_neg e]
  have h1 := (hv i hi).resolve_left e
  exact h.eb i _ (by omega) (by omega)
theorem value_loop (h : Vw w m) {l : List Int} (hl : l.length = w.length) : ∀ (d k n : Nat) (used : List Bool) (x : Int), d + n = w.length → d < k → used.length = m → (∀ j, j < m → gb used j = taken (g l) n j) → x = ahead w (g l) n → (∀ i, i < n → g l i = -1 ∨ (0 ≤ g l i ∧ g l i < (m : Int) ∧ taken (g l) i (g l i).toNat = false)) →
  (valid w m l → assign_Value.l1 w l k used x (n : Int) = some (.inl (val w (g l)))) ∧ (¬ valid w m l → assign_Value.l1 w l k used x (n : Int) = some (.inr (0, false))) := by
 have hn12 := h.nr
 have hm12 := h.mr
 intro d
 induction d with
 | zero =>
  intro k n used x hd hk hu ht hx hv
  obtain ⟨k, rfl⟩ : ∃ m, k = m + 1 := ⟨k - 1, by omega⟩
  obtain rfl : n = w.length := by omega
  refine ⟨fun _ => ?_, fun hnv => absurd ⟨hl, hv⟩ hnv⟩
  simp only [assign_Value.l1]
  rw [if_neg (by omega), hx]
  rfl
 | succ d ih =>
  intro k n used x hd hk hu ht hx hv
  obtain ⟨k, rfl⟩ : ∃ m, k = m + 1 := ⟨k - 1, by omega⟩
  have hn : n < w.length := by omega
  have hrl := h.rl n hn
  have hb := ahead_b h n (by omega) (fun i hi => (hv i hi).imp id (fun h1 => ⟨h1.1, h1.2.1⟩))
  simp only [assign_Value.l1, tn]
  rw [if_pos (by omega), if_pos (by omega), if_pos (by omega), Wn (by omega)]
  by_cases e : g l n = -1
  ·rw [if_pos e]
   simp only [Option.bind_some]
   refine ih k (n + 1) used x (by omega) (by omega) hu (fun j hj => ?_) ?_ (fun i hi => ?_)
   ·rw [taken_succ, ← ht j hj, e]
    have : ((-1 : Int) == (j : Int)) = false := beq_eq_false_iff_ne.2 (by omega)
    rw [this, Bool.or_false]
   ·rw [hx]
    show _ = sm _ (n + 1)
    simp only [sm]
    rw [if_pos e, Int.add_zero]
    rfl
   ·by_cases e2 : i = n
    ·rw [e2]; exact .inl e
    ·exact hv i (by omega)
  ·rw [if_neg e]
   by_cases hr : 0 ≤ g l n ∧ g l n < (m : Int)
   ·have hr0 : 0 ≤ l.getD n 0 ∧ l.getD n 0 < (m : Int) := hr
    rw [if_neg (by omega), if_neg (by omega), if_pos (by omega), if_pos (by omega), Option.bind_some]
    simp only [assign_Value.k3, tn]
    cases hd' : gb used (g l n).toNat with
    | true =>
     rw [if_pos hd']
     simp only [Option.bind_some]
     refine ⟨fun hval => ?_, fun _ => by first | rfl | trivial⟩
     have h1 := (hval.2 n hn).resolve_left e
     rw [← ht _ (by omega), hd'] at h1
     cases h1.2.2
    | false =>
     rw [if_neg (by show ¬ gb used (g l n).toNat = true; rw [hd']; decide), if_pos (by omega), if_pos (by omega), if_pos (by omega), if_pos (by omega), if_pos (by omega), if_pos (by show l.getD n 0 < ((row w n).length : Int); omega)]
     simp only [Option.bind_some]
     have h1 := h.eb n (g l n).toNat hn (by omega)
     rw [show W .i64 (x + (w.getD n []).getD (l.getD n 0).toNat 0) = x + we w n (g l n).toNat from W64 (by show _ ≤ x + we w n (g l n).toNat; omega) (by show x + we w n (g l n).toNat ≤ _; omega)]
     refine ih k (n + 1) _ _ (by omega) (by omega) (by rw [List.length_set]; exact hu) (fun j hj => ?_) ?_ (fun i hi => ?_)
     ·rw [taken_succ, ← ht j hj]
      show gb (used.set (g l n).toNat true) j = _
      rw [gbset (by omega)]
      by_cases e2 : j = (g l n).toNat
      ·have : (g l n == (j : Int)) = true := beq_iff_eq.2 (by omega)
       rw [if_pos e2, this, Bool.or_true]
      ·have : (g l n == (j : Int)) = false := beq_eq_false_iff_ne.2 (by omega)
       rw [if_neg e2, this, Bool.or_false]
     ·rw [hx]
      show _ = sm _ (n + 1)
      simp only [sm]
      rw [if_neg e]
      rfl
     ·by_cases e2 : i = n
      ·rw [e2]
       refine .inr ⟨hr.1, hr.2, ?_⟩
       rw [← ht _ (by omega)]; exact hd'
      ·exact hv i (by omega)
   ·have hbad : ∀ (z : Option Bool), (if l.getD n 0 < 0 then some true else if l.getD n 0 ≥ (used.length : Int) then some true else z) = some true := fun z => by
     by_cases e1 : l.getD n 0 < 0
     ·rw [if_pos e1]
     ·rw [if_neg e1, if_pos]
      have : ¬ (0 ≤ l.getD n 0 ∧ l.getD n 0 < (m : Int)) := hr
      omega
    rw [hbad, Option.bind_some]
    simp only [assign_Value.k3, if_pos, Option.bind_some]
    refine ⟨fun hval => ?_, fun _ => by first | rfl | trivial⟩
    exact absurd ⟨((hval.2 n hn).resolve_left e).1, ((hval.2 n hn).resolve_left e).2.1⟩ hr
theorem value_ok (h : Vw w m) {l : List Int} (hv : valid w m l) {k : Nat} (hk : 20 ≤ k) : assign_Value.f k w l = some (val w (g l), true) := by
 have hn12 := h.nr
 have hm12 := h.mr
 unfold assign_Value.f
 rw [if_neg (by rw [hv.1]; simp), columns h, Option.bind_some, if_pos (by omega), if_pos (by omega), tn]
 rw [show assign_Value.l1 w l k (List.replicate m false) 0 0 = _ from (value_loop h hv.1 w.length k 0 (List.replicate m false) 0 (by omega) (by omega) (by simp) (fun j hj => by rw [gbrep hj]; rfl) rfl (fun i hi => by omega)).1 hv]
 rfl
end
end Go.Proofs.Ytihmbmeelheinaa.hun
namespace Go.Proofs.Ytihmbmeelheinaa.auc
open Go Go.Proofs.Ytihmbmeelheinaa Go.Proofs.Ytihmbmeelheinaa.RW Go.Proofs.Ytihmbmeelheinaa.hun
set_option linter.unusedVariables false
set_option maxRecDepth 100000
def Inj (W : List Int) (σ : Int → Option Int) : Prop := ∀ w ∈ W, ∀ w' ∈ W, ∀ s, σ w = some s → σ w' = some s → w = w'
def pay (V : Int → Int → Int) (σ : Int → Option Int) (w : Int) : Int := match σ w with | none => 0 | some s => V w s
def tot (V : Int → Int → Int) (σ : Int → Option Int) (W : List Int) : Int := (W.map (pay V σ)).sum
/-- The greatest welfare. -/
def Om (V : Int → Int → Int) (W : List Int) (x : Int) : Prop := (∀ σ, Inj W σ → tot V σ W ≤ x) ∧ ∃ σ, Inj W σ ∧ tot V σ W = x
theorem Om.uniq {V : Int → Int → Int} {W : List Int} {x y : Int} (h : Om V W x) (h2 : Om V W y) : x = y := by
 obtain ⟨σ, h3, h4⟩ := h.2
 obtain ⟨τ, h5, h6⟩ := h2.2
 have := h.1 τ h5
 have := h2.1 σ h3
 omega
theorem sum_congr {f h : Int → Int} : ∀ {W : List Int}, (∀ w ∈ W, f w = h w) → (W.map f).sum = (W.map h).sum
 | [], _ => rfl
 | w :: W, e => by
  simp only [List.map_cons, List.sum_cons]
  rw [e w List.mem_cons_self, sum_congr (fun v hv => e v (List.mem_cons_of_mem _ hv))]
theorem sum_le {f h : Int → Int} : ∀ {W : List Int}, (∀ w ∈ W, f w ≤ h w) → (W.map f).sum ≤ (W.map h).sum
 | [], _ => Int.le_refl _
 | w :: W, e => by
  simp only [List.map_cons, List.sum_cons]
  have h1 := e w List.mem_cons_self
  have h2 := sum_le (W := W) (fun v hv => e v (List.mem_cons_of_mem _ hv))
  omega
theorem sum_mul {f : Int → Int} (c : Int) : ∀ {W : List Int}, (W.map (fun w => c * f w)).sum = c * (W.map f).sum
 | [] => by simp
 | w :: W => by
  simp only [List.map_cons, List.sum_cons]
  rw [sum_mul c, Int.mul_add]
theorem Om.congr {V V' : Int → Int → Int} {W : List Int} {x : Int} (e : ∀ w ∈ W, ∀ s, V w s = V' w s) (h : Om V W x) : Om V' W x := by
 have e2 : ∀ σ, tot V σ W = tot V' σ W := fun σ => sum_congr (fun w hw => by
  unfold pay
  cases σ w with
  | none => rfl
  | some s => exact e w hw s)
 obtain ⟨h1, σ, h2, h3⟩ := h
 exact ⟨fun τ hτ => by rw [← e2]; exact h1 τ hτ, σ, h2, by rw [← e2]; exact h3⟩
theorem Om.scale {V V' : Int → Int → Int} {W : List Int} {x c : Int} (hc : 0 ≤ c) (e : ∀ w ∈ W, ∀ s, V' w s = c * V w s) (h : Om V W x) : Om V' W (c * x) := by
 have e2 : ∀ σ, tot V' σ W = c * tot V σ W := fun σ => by
  unfold tot
  rw [← sum_mul]
  refine sum_congr (fun w hw => ?_)
  unfold pay
  cases σ w with
  | none => simp
  | some s => exact e w hw s
 obtain ⟨h1, σ, h2, h3⟩ := h
 exact ⟨fun τ hτ => by rw [e2]; exact Int.mul_le_mul_of_nonneg_left (h1 τ hτ) hc, σ, h2, by rw [e2, h3]⟩
/-- All but one. -/
abbrev but (W : List Int) (w : Int) : List Int := W.filter (fun v => decide (v ≠ w))
theorem sum_but {f : Int → Int} {w : Int} : ∀ {W : List Int}, W.Nodup → w ∈ W → (W.map f).sum = f w + ((but W w).map f).sum
 | [], _, h => by cases h
 | v :: W, hn, h => by
  rw [List.nodup_cons] at hn
  by_cases e : v = w
  ·subst e
   have hb : but (v :: W) v = W := by
    show List.filter _ _ = _
    rw [List.filter_cons, if_neg (by simp)]
    exact List.filter_eq_self.2 (fun u hu => by simp only [decide_eq_true_eq]; exact fun e => hn.1 (e ▸ hu))
   rw [hb]
   simp
  ·have hb : but (v :: W) w = v :: but W w := by
    show List.filter _ _ = _
    rw [List.filter_cons, if_pos (by simpa using e)]
   rw [hb]
   simp only [List.map_cons, List.sum_cons]
   rw [sum_but hn.2 ((List.mem_cons.1 h).resolve_left (fun e2 => e e2.symm))]
   omega
/-! ### what a table says -/
structure Mx (V : Int → Int → Int) (W S : List Int) (w : List (List Int)) : Prop where
 len : w.length = W.length
 row : ∀ i, i < W.length → (row w i).length = S.length
 at_ : ∀ i j, i < W.length → j < S.length → we w i j = V (g W i) (g S j)
theorem sm_list (F : Int → Int) (W : List Int) : ∀ n, n ≤ W.length → sm (fun i => F (g W i)) n = ((W.take n).map F).sum
 | 0, _ => rfl
 | n + 1, h => by
  have hn : n < W.length := by omega
  simp only [sm]
  have hg : g W n = W[n] := gD hn 0
  have e : W.take (n + 1) = W.take n ++ [W[n]] := (List.take_append_getElem hn).symm
  rw [sm_list F W n (by omega), e, List.map_append, List.sum_append, hg]
  simp
theorem g_mem {W : List Int} {i : Nat} (h : i < W.length) : g W i ∈ W := by
 have e : g W i = W[i] := gD h 0
 rw [e]
 exact List.getElem_mem h
theorem g_inj {W : List Int} (hn : W.Nodup) {i j : Nat} (hi : i < W.length) (hj : j < W.length) (h : g W i = g W j) : i = j := by
 have e1 : g W i = W[i] := gD hi 0
 have e2 : g W j = W[j] := gD hj 0
 rw [e1, e2] at h
 exact (List.getElem_inj hn).1 h
theorem idx_g {W : List Int} {w : Int} (h : w ∈ W) : W.idxOf w < W.length ∧ g W (W.idxOf w) = w := by
 have h1 := List.idxOf_lt_length_of_mem h
 refine ⟨h1, ?_⟩
 have e : g W (W.idxOf w) = W[W.idxOf w] := gD h1 0
 rw [e]
 exact List.getElem_idxOf h1
theorem idx_of {W : List Int} (hn : W.Nodup) {i : Nat} (h : i < W.length) : W.idxOf (g W i) = i := by
 obtain ⟨h1, h2⟩ := idx_g (g_mem h)
 exact g_inj hn h1 h h2
/-- Slots for bidders, out of columns for rows. -/
def toσ (W S : List Int) (a : Nat → Int) (w : Int) : Option Int := if a (W.idxOf w) = -1 then none else some (g S (a (W.idxOf w)).toNat)
theorem toσ_inj {W S : List Int} {w : List (List Int)} {a : Nat → Int} (hS : S.Nodup) (hl : w.length = W.length) (h : IsA w S.length 0 (fun _ => false) a) : Inj W (toσ W S a) := by
 intro v hv v' hv' s e e'
 obtain ⟨h1, h2⟩ := idx_g hv
 obtain ⟨h3, h4⟩ := idx_g hv'
 unfold toσ at e e'
 split at e
 ·cases e
 ·rename_i n1
  split at e'
  ·cases e'
  ·rename_i n2
   have r1 := (h.rg _ (by rw [hl]; exact h1)).resolve_left n1
   have r2 := (h.rg _ (by rw [hl]; exact h3)).resolve_left n2
   have e3 := g_inj hS (by omega) (by omega) ((Option.some.inj e).trans (Option.some.inj e').symm)
   have := h.inj _ _ (by rw [hl]; exact h1) (by rw [hl]; exact h3) r1.2.1 (by omega)
   rw [← h2, ← h4, this]
theorem toσ_tot {V : Int → Int → Int} {W S : List Int} {w : List (List Int)} {a : Nat → Int} (hW : W.Nodup) (hm : Mx V W S w) (h : IsA w S.length 0 (fun _ => false) a) : tot V (toσ W S a) W = val w a := by
 have h1 := sm_list (pay V (toσ W S a)) W W.length (Nat.le_refl _)
 rw [List.take_length] at h1
 show (W.map _).sum = _
 rw [← h1]
 unfold val
 rw [hm.len]
 refine sm_congr _ (fun i hi => ?_)
 unfold pay toσ
 rw [idx_of hW hi]
 by_cases e : a i = -1
 ·simp only [e, if_true]
 ·have r := (h.rg i (by rw [hm.len]; exact hi)).resolve_left e
  simp only [e, if_false]
  exact (hm.at_ i (a i).toNat hi (by omega)).symm
/-- The best of a table is the greatest welfare. -/
theorem Mx.om {V : Int → Int → Int} {W S : List Int} {w : List (List Int)} {x : Int} (hm : Mx V W S w) (hW : W.Nodup) (hS : S.Nodup) (h0 : ∀ v ∈ W, ∀ s, s ∉ S → V v s = 0) (h : Opt w S.length 0 (fun _ => false) x) : Om V W x := by
 refine ⟨fun σ hσ => ?_, ?_⟩
 ·let a : Nat → Int := fun i => match σ (g W i) with | none => -1 | some s => if s ∈ S then (S.idxOf s : Int) else -1
  have ha : ∀ i s, σ (g W i) = some s → s ∈ S → a i = (S.idxOf s : Int) := fun i s e hs => by simp only [a, e, hs, if_true]
  have hb : ∀ i, (∃ s, σ (g W i) = some s ∧ s ∈ S ∧ a i = (S.idxOf s : Int)) ∨ (a i = -1 ∧ ∀ s, σ (g W i) = some s → s ∉ S) := fun i => by
   cases e : σ (g W i) with
   | none => exact .inr ⟨by simp only [a, e], fun s h => by cases h⟩
   | some s =>
    by_cases hs : s ∈ S
    ·exact .inl ⟨s, rfl, hs, ha i s e hs⟩
    ·exact .inr ⟨by simp only [a, e, hs, if_false], fun s' h => by rw [← Option.some.inj h]; exact hs⟩
  have isa : IsA w S.length 0 (fun _ => false) a := by
   refine ⟨fun i hi => ?_, fun i i' hi hi' h0 he => ?_⟩
   ·rcases hb i with ⟨s, e, hs, hai⟩ | ⟨hai, _⟩
    ·have := (idx_g hs).1
     exact .inr ⟨Nat.zero_le _, by omega, by omega, rfl⟩
    ·exact .inl hai
   ·rw [hm.len] at hi hi'
    rcases hb i with ⟨s, e, hs, hai⟩ | ⟨hai, _⟩
    ·rcases hb i' with ⟨s', e', hs', hai'⟩ | ⟨hai', _⟩
     ·have h5 : S.idxOf s = S.idxOf s' := by omega
      have h6 : s = s' := by rw [← (idx_g hs).2, ← (idx_g hs').2, h5]
      subst h6
      exact g_inj hW hi hi' (hσ _ (g_mem hi) _ (g_mem hi') s e e')
     ·omega
    ·omega
  have h1 := h.1 a isa
  have h2 := toσ_tot hW hm isa
  refine Int.le_trans ?_ (Int.le_trans (Int.le_of_eq h2) h1)
  refine sum_le (fun v hv => ?_)
  obtain ⟨i1, i2⟩ := idx_g hv
  rcases hb (W.idxOf v) with ⟨s, e, hs, hai⟩ | ⟨hai, hno⟩
  ·rw [i2] at e
   have h7 : toσ W S a v = some s := by
    unfold toσ
    rw [if_neg (by omega), hai, Int.toNat_natCast, (idx_g hs).2]
   unfold pay
   rw [e, h7]
   exact Int.le_refl _
  ·have h7 : toσ W S a v = none := by unfold toσ; rw [if_pos hai]
   rw [i2] at hno
   unfold pay
   rw [h7]
   cases e : σ v with
   | none => exact Int.le_refl _
   | some s => exact Int.le_of_eq (h0 v hv s (hno s e))
 ·obtain ⟨a, ha, hv⟩ := h.2
  exact ⟨toσ W S a, toσ_inj hS hm.len ha, by rw [toσ_tot hW hm ha, hv]⟩
theorem om_nil (V : Int → Int → Int) : Om V [] 0 := ⟨fun σ _ => Int.le_refl _, fun _ => none, fun w hw => (by cases hw), rfl⟩
end Go.Proofs.Ytihmbmeelheinaa.auc
namespace Go.Proofs.Ytihmbmeelheinaa.RW
open Go Go.RowKit

/-- The whole memory, as cells that never turn. -/
def wImm (W : World) : Imm := look W
theorem wImm_at (W : World) : (wImm W).at_ W := fun _ _ h => h
/-- What reads as a datum of type t is told by d, with p. -/
def Opens (P : Program) {α : Type} (d : Ty α) (t : TypeId) (p : α → Prop) : Prop :=
 ∀ {H : Type} {enc : TypeId × Value → H} (W : World) (base : Nat) (sp : Nat → Bool) (held : Bool) (fuel : Nat) (cs : List Value) (x : DataW H × List MemPlace), DataW.trod enc P W base sp held fuel t cs = some x → ∃ a, d.K (wImm W) a cs ∧ p a

section
variable {P : Program} {α β : Type} {d : Ty α} {t e : TypeId} {p : α → Prop}
theorem opens_int {k : IntKind} (ht : P.underlying t = some (.int k)) : Opens P (Ty.int k) t (fun n => (Lit.int k n).wf = true) := by
 intro H enc W base sp held fuel cs x h
 obtain ⟨n, rfl, _, hw⟩ := DataW.trod_int ht h
 exact ⟨n, rfl, hw⟩
theorem add_add {a : Addr} (h : a.spot = none) (n m : Nat) : (a.add n).add m = ⟨a.block, a.off + n + m, none⟩ := by
 obtain ⟨b, o, s⟩ := a
 obtain rfl : s = none := h
 unfold Addr.add
 split <;> split <;> simp_all
theorem opens_slice (ho : Opens P d e p) (ht : P.underlying t = some (.slice e)) (hsz : P.cellsOf e = d.sz) (hpos : 0 < d.sz) : Opens P (Ty.slice d) t (fun l => ∀ x ∈ l, p x) := by
 intro H enc W base sp held fuel cs x h
 rcases DataW.trod_slice ht h with ⟨rfl, _⟩ | ⟨a, len, cap, elems, rest, n, _, rfl, _, hb, hl, hm, hlen, hel, _, _⟩
 ·exact ⟨[], ⟨none, 0, rfl, Nat.le_refl _, Rd.nil _ _ _⟩, fun x hx => by cases hx⟩
 ·have hsp0 : 0 < len → a.spot = none := by
   intro hi
   have h1 := hel 0 hi
   rw [List.getElem?_eq_getElem (by rw [hlen]; exact hi), Option.bind_eq_some_iff] at h1
   obtain ⟨c, hc, hy⟩ := h1
   obtain ⟨_, hcl, hcell⟩ := World.cells?_some hc
   have h2 := hcell 0 (by rw [hsz]; exact hpos)
   have hlt : 0 < c.length := by rw [hcl, hsz]; exact hpos
   rw [List.getElem?_eq_getElem hlt, show (a.add (0 * P.cellsOf e)).add 0 = a from by simp [Addr.add]] at h2
   cases hsp : a.spot with
   | none => rfl
   | some s =>
    exfalso
    unfold World.cell? at h2
    split at h2
    ·rw [hsp] at h2; simp at h2
    ·cases h2
  have each : ∀ i, i < len → ∃ v c, d.K (wImm W) v c ∧ p v ∧ a.spot = none ∧ ∀ q u, c[q]? = some u → wImm W ⟨a.block, a.off + i * d.sz + q, none⟩ = some u := by
   intro i hi
   have h1 := hel i hi
   rw [List.getElem?_eq_getElem (by rw [hlen]; exact hi), Option.bind_eq_some_iff] at h1
   obtain ⟨c, hc, hy⟩ := h1
   obtain ⟨v, hk, hp⟩ := ho W base sp held n c _ hy
   obtain ⟨_, hcl, hcell⟩ := World.cells?_some hc
   have hspot := hsp0 (by omega)
   refine ⟨v, c, hk, hp, hspot, fun q u hu => ?_⟩
   have hql : q < c.length := (List.getElem?_eq_some_iff.1 hu).1
   have h2 := hcell q (by rw [← hcl]; exact hql)
   rw [add_add hspot, hsz, hu] at h2
   exact h2
  have build : ∀ n, n ≤ len → ∃ l : List α, l.length = n ∧ (∀ x ∈ l, p x) ∧ ∀ (j : Nat) (v : α), l[j]? = some v → ∃ c, d.K (wImm W) v c ∧ a.spot = none ∧ ∀ q u, c[q]? = some u → wImm W ⟨a.block, a.off + j * d.sz + q, none⟩ = some u := by
   intro n
   induction n with
   | zero => intro _; exact ⟨[], rfl, (fun x hx => by cases hx), fun j v hj => by cases hj⟩
   | succ n ih =>
    intro hn
    obtain ⟨l, hl1, hl2, hl3⟩ := ih (by omega)
    obtain ⟨v, c, hk, hp, hs, hc⟩ := each n (by omega)
    refine ⟨l ++ [v], by simp [hl1], fun x hx => ?_, fun j w hj => ?_⟩
    ·rcases List.mem_append.1 hx with hx | hx
     ·exact hl2 x hx
     ·rw [List.mem_singleton.1 hx]; exact hp
    ·rcases Nat.lt_or_ge j l.length with hlt | hge
     ·rw [List.getElem?_append_left hlt] at hj
      exact hl3 j w hj
     ·rw [List.getElem?_append_right hge] at hj
      have hj0 : j - l.length = 0 := by
       rcases Nat.eq_zero_or_pos (j - l.length) with h0 | h0
       ·exact h0
       ·rw [List.getElem?_eq_none (by simp; omega)] at hj; cases hj
      rw [hj0] at hj
      simp only [List.getElem?_cons_zero, Option.some.injEq] at hj
      subst hj
      obtain rfl : j = n := by omega
      exact ⟨c, hk, hs, hc⟩
  obtain ⟨l, hl1, hl2, hl3⟩ := build len (Nat.le_refl _)
  refine ⟨l, ⟨some a, cap, by rw [hl1], by omega, ⟨by unfold maxLen at hm; omega, fun hne => ?_⟩⟩, hl2⟩
  have h0 : 0 < l.length := List.length_pos_iff.2 hne
  obtain ⟨_, _, hs, _⟩ := hl3 0 _ (List.getElem?_eq_getElem h0)
  refine ⟨a.block, a.off, by obtain ⟨b, o, s⟩ := a; simp_all, fun j v hj => ?_⟩
  obtain ⟨c, hk, _, hc⟩ := hl3 j v hj
  exact ⟨c, hk, hc⟩

/-- The fields of a struct, from cell 'off' on. -/
def offs : Nat → List (TypeId × Nat) → List (TypeId × Nat × Nat)
 | _, [] => []
 | o, (t, n) :: r => (t, o, n) :: offs (o + n) r
def total : List (TypeId × Nat) → Nat
 | [] => 0
 | (_, n) :: r => n + total r
def OpensF (P : Program) {α : Type} (d : Ty α) (fl : List (TypeId × Nat)) (p : α → Prop) : Prop :=
 ∀ {H : Type} {enc : TypeId × Value → H} (W : World) (base : Nat) (sp : Nat → Bool) (held : Bool) (fuel off : Nat) (cs : List Value),
  (∀ q ∈ offs off fl, ∃ x, DataW.trod enc P W base sp held fuel q.1 ((cs.drop q.2.1).take q.2.2) = some x) → cs.length = off + total fl → ∃ a, d.K (wImm W) a (cs.drop off) ∧ p a
theorem opensF_one (ho : Opens P d t p) (n : Nat) : OpensF P d [(t, n)] p := by
 intro H enc W base sp held fuel off cs h hl
 obtain ⟨x, hx⟩ := h _ List.mem_cons_self
 simp only [total, Nat.add_zero] at hl
 have e : (cs.drop off).take n = cs.drop off := List.take_of_length_le (by rw [List.length_drop]; omega)
 simp only at hx
 rw [e] at hx
 exact ho W base sp held fuel _ x hx
theorem opensF_cons {d2 : Ty β} {fl : List (TypeId × Nat)} {q : β → Prop} (n : Nat) (ho : Opens P d t p) (hr : OpensF P d2 fl q) : OpensF P (Ty.pair d d2) ((t, n) :: fl) (fun x => p x.1 ∧ q x.2) := by
 intro H enc W base sp held fuel off cs h hl
 simp only [total] at hl
 obtain ⟨x, hx⟩ := h _ List.mem_cons_self
 obtain ⟨a, hk, hp⟩ := ho W base sp held fuel _ x hx
 obtain ⟨b, hk2, hp2⟩ := hr (enc := enc) W base sp held fuel (off + n) cs (fun q hq => h q (List.mem_cons_of_mem _ hq)) (by omega)
 refine ⟨(a, b), ⟨_, _, ?_, hk, hk2⟩, hp, hp2⟩
 simp only
 rw [← List.drop_drop, List.take_append_drop]
theorem opens_struct {fl : List (TypeId × Nat)} (ho : OpensF P d fl p) (ht : P.underlying t = some (.struct (P.fieldsOf t))) (hf : (P.fieldsOf t).toList.map (fun f => (f.type, f.offset, P.cellsOf f.type)) = offs 0 fl) (hc : P.cellsOf t = total fl)
  (f : β → α) (g : α → β) (hg : ∀ y, f (g y) = y) : Opens P (Ty.iso d f) t (fun x => p (f x)) := by
 intro H enc W base sp held fuel cs x h
 obtain ⟨xs, n, _, _, hcl, hxl, hx⟩ := DataW.trod_struct ht h
 have hseg : ∀ q ∈ offs 0 fl, ∃ x, DataW.trod enc P W base sp held n q.1 ((cs.drop q.2.1).take q.2.2) = some x := by
  intro q hq
  rw [← hf] at hq
  obtain ⟨f, hfm, rfl⟩ := List.mem_map.1 hq
  obtain ⟨i, hi, hif⟩ := List.getElem_of_mem hfm
  have h1 := hx i f (by rw [← Array.getElem?_toList, List.getElem?_eq_getElem hi, hif])
  have h2 : i < xs.length := by rw [hxl]; simpa using hi
  rw [List.getElem?_eq_getElem h2] at h1
  exact ⟨_, h1⟩
 obtain ⟨a, hk, hp⟩ := ho W base sp held n 0 cs hseg (by rw [hcl, hc, Nat.zero_add])
 refine ⟨g a, ?_, by show p (f (g a)); rw [hg]; exact hp⟩
 show d.K (wImm W) (f (g a)) cs
 rw [hg]
 exact hk
end
end Go.Proofs.Ytihmbmeelheinaa.RW
namespace Go.Proofs.Ytihmbmeelheinaa
open Go Go.Proofs.Ytihmbmeelheinaa.RW
set_option linter.unusedVariables false
set_option maxRecDepth 100000
set_option maxHeartbeats 8000000

def p48 (x : S48) : Prop := (fun n => (Lit.int .i64 n).wf = true) x.f0 ∧ (fun n => (Lit.int .i64 n).wf = true) x.f1 ∧ (fun n => (Lit.int .i64 n).wf = true) x.f2
theorem o48 : Opens Try.prog t48 48 p48 :=
 opens_struct (fl := [(3, 1), (3, 1), (2, 1)]) (opensF_cons 1 (opens_int (by kernel_rfl)) (opensF_cons 1 (opens_int (by kernel_rfl)) (opensF_one (opens_int (by kernel_rfl)) 1))) (by kernel_rfl) (by kernel_rfl) (by kernel_rfl) (fun (x : S48) => (x.f0, x.f1, x.f2)) (fun y => ⟨y.1, y.2.1, y.2.2⟩) (fun _ => rfl)
def p74 (x : S74) : Prop := (fun n => (Lit.int .i64 n).wf = true) x.f0 ∧ (fun n => (Lit.int .i64 n).wf = true) x.f1
def p56 (x : S56) : Prop := (fun n => (Lit.int .i64 n).wf = true) x.f0 ∧ (fun n => (Lit.int .i64 n).wf = true) x.f1
def p62 (x : S62) : Prop := (fun l => ∀ x ∈ l, (fun n => (Lit.int .i64 n).wf = true) x) x.f0 ∧ (fun l => ∀ x ∈ l, (fun n => (Lit.int .i64 n).wf = true) x) x.f1
def p29 (x : S29) : Prop := (fun l => ∀ x ∈ l, (fun n => (Lit.int .i64 n).wf = true) x) x.f0 ∧ (fun l => ∀ x ∈ l, (fun n => (Lit.int .i64 n).wf = true) x) x.f1 ∧ (fun l => ∀ x ∈ l, (fun n => (Lit.int .i64 n).wf = true) x) x.f2
def p41 (x : S41) : Prop := (fun n => (Lit.int .u8 n).wf = true) x.f0 ∧ (fun n => (Lit.int .u8 n).wf = true) x.f1 ∧ (fun n => (Lit.int .u8 n).wf = true) x.f2 ∧ (fun n => (Lit.int .u8 n).wf = true) x.f3 ∧ (fun n => (Lit.int .u8 n).wf = true) x.f4 ∧ (fun n => (Lit.int .u8 n).wf = true) x.f5 ∧ (fun n => (Lit.int .u8 n).wf = true) x.f6 ∧ (fun n => (Lit.int .u8 n).wf = true) x.f7 ∧ (fun n => (Lit.int .u8 n).wf = true) x.f8 ∧ (fun n => (Lit.int .u8 n).wf = true) x.f9 ∧ (fun n => (Lit.int .u8 n).wf = true) x.f10 ∧ (fun n => (Lit.int .u8 n).wf = true) x.f11
end Go.Proofs.Ytihmbmeelheinaa
namespace Go.Proofs.Ytihmbmeelheinaa.auc
open Go Go.Proofs.Ytihmbmeelheinaa Go.Proofs.Ytihmbmeelheinaa.RW Go.Proofs.Ytihmbmeelheinaa.hun
set_option linter.unusedVariables false
set_option maxRecDepth 100000
def rgE (x : S48) : Prop := (0 ≤ x.f0 ∧ x.f0 ≤ 1000) ∧ (0 ≤ x.f1 ∧ x.f1 ≤ 1000) ∧ (1 ≤ x.f2 ∧ x.f2 ≤ 1073741824)
instance (x : S48) : Decidable (rgE x) := by unfold rgE; exact inferInstance
structure okB (l : List S48) : Prop where
 n64 : l.length ≤ 64
 nd : (l.map key).Nodup
 rg : ∀ x ∈ l, rgE x
 nw : (ws l).length ≤ 12
 ns : (ss l).length ≤ 12
theorem Vv_mem {l : List S48} {w s : Int} : (∃ x ∈ l, key x = (w, s) ∧ Vv l w s = x.f2) ∨ ((∀ x ∈ l, key x ≠ (w, s)) ∧ Vv l w s = 0) := by
 unfold Vv
 cases e : l.find? (fun x => decide (key x = (w, s))) with
 | some x => exact .inl ⟨x, List.mem_of_find?_eq_some e, by simpa using List.find?_some e, rfl⟩
 | none => exact .inr ⟨fun x hx h => by have := List.find?_eq_none.1 e x hx; simp [h] at this, rfl⟩
theorem Vv_of {l : List S48} (h : (l.map key).Nodup) {x : S48} (hx : x ∈ l) : Vv l x.f0 x.f1 = x.f2 := by
 rcases Vv_mem (l := l) (w := x.f0) (s := x.f1) with ⟨y, hy, e, e2⟩ | ⟨h1, _⟩
 ·have : x = y := by
   rw [List.nodup_iff_pairwise_ne] at h
   obtain ⟨i, hi, rfl⟩ := List.getElem_of_mem hx
   obtain ⟨j, hj, rfl⟩ := List.getElem_of_mem hy
   by_cases hij : i = j
   ·subst hij; rfl
   ·have hp := List.pairwise_iff_getElem.1 h
    rcases Nat.lt_or_gt_of_ne hij with h2 | h2
    ·exact absurd (by rw [List.getElem_map, List.getElem_map]; exact e.symm) (hp i j (by simpa using hi) (by simpa using hj) h2)
    ·exact absurd (by rw [List.getElem_map, List.getElem_map]; exact e) (hp j i (by simpa using hj) (by simpa using hi) h2)
  rw [e2, this]
 ·exact absurd rfl (h1 x hx)
theorem ws_mem {l : List S48} {x : S48} (h : x ∈ l) : x.f0 ∈ ws l := dist_mem.2 (List.mem_map.2 ⟨x, h, rfl⟩)
theorem ss_mem {l : List S48} {x : S48} (h : x ∈ l) : x.f1 ∈ ss l := dist_mem.2 (List.mem_map.2 ⟨x, h, rfl⟩)
theorem Vv_zero {l : List S48} {w s : Int} (h : w ∉ ws l ∨ s ∉ ss l) : Vv l w s = 0 := by
 rcases Vv_mem (l := l) (w := w) (s := s) with ⟨y, hy, e, e2⟩ | ⟨_, h1⟩
 ·have e3 : y.f0 = w := congrArg Prod.fst e
  have e4 : y.f1 = s := congrArg Prod.snd e
  rcases h with h | h
  ·exact absurd (e3 ▸ ws_mem hy) h
  ·exact absurd (e4 ▸ ss_mem hy) h
 ·exact h1
theorem okB.vb {l : List S48} (h : okB l) (w s : Int) : 0 ≤ Vv l w s ∧ Vv l w s ≤ 1073741824 := by
 rcases Vv_mem (l := l) (w := w) (s := s) with ⟨y, hy, e, e2⟩ | ⟨_, h1⟩
 ·have := (h.rg y hy).2.2
  omega
 ·omega
theorem okB.kw {l : List S48} (h : okB l) : kok (l.map (·.f0)) := ⟨fun x hx => by
 obtain ⟨y, hy, rfl⟩ := List.mem_map.1 hx
 have := h.rg y hy
 unfold rgE at this
 unfold inI
 omega, by have := h.n64; simp only [List.length_map]; omega⟩
theorem okB.ks {l : List S48} (h : okB l) : kok (l.map (·.f1)) := ⟨fun x hx => by
 obtain ⟨y, hy, rfl⟩ := List.mem_map.1 hx
 have := h.rg y hy
 unfold rgE at this
 unfold inI
 omega, by have := h.n64; simp only [List.length_map]; omega⟩

/-! ### Valid -/
theorem in_range {α : Type} (x : Int) (A B : Option α) : ((if x < 0 then (some true) else (some (decide (x > 1000)))).bind fun b => if b = true then A else B) = if 0 ≤ x ∧ x ≤ 1000 then B else A := by
 by_cases h0 : x < 0
 ·rw [if_pos h0, Option.bind_some, if_pos rfl, if_neg (by omega)]
 ·rw [if_neg h0, Option.bind_some]
  by_cases h1 : x > 1000
  ·rw [if_pos (by simpa using h1), if_neg (by omega)]
  ·rw [if_neg (by simpa using h1), if_pos (by omega)]
theorem valid_l2 (l : List S48) (n : Nat) (hn : n < l.length) : Ev (fun k => auction_Valid.l2 l (n : Int) k 0) (if (0 ≤ (l[n]).f0 ∧ (l[n]).f0 ≤ 1000) ∧ (0 ≤ (l[n]).f1 ∧ (l[n]).f1 ≤ 1000) then .inl () else .inr false) := by
 refine Ev.of 3 (fun k hk => ?_)
 obtain ⟨m, rfl⟩ : ∃ m, k = m + 3 := ⟨k - 3, by omega⟩
 have e0 : W .i64 ((0 : Int) + 1) = 1 := W64 (by decide) (by decide)
 have e1 : W .i64 ((1 : Int) + 1) = 2 := W64 (by decide) (by decide)
 have c0 : ∀ a b : Int, [a, b].getD (0 : Int).toNat 0 = a := fun _ _ => rfl
 have c1 : ∀ a b : Int, [a, b].getD (1 : Int).toNat 0 = b := fun _ _ => rfl
 have s2 : auction_Valid.l2 l (n : Int) (m + 1) 2 = some (.inl ()) := by rw [auction_Valid.l2, if_neg (by decide)]
 have s1 : auction_Valid.l2 l (n : Int) (m + 2) 1 = if 0 ≤ (l[n]).f1 ∧ (l[n]).f1 ≤ 1000 then some (.inl ()) else some (.inr false) := by
  rw [auction_Valid.l2, if_pos (by decide), if_pos (by decide), if_pos (by decide), tn, gD hn, e1, c1, in_range, s2]
 rw [auction_Valid.l2, if_pos (by decide), if_pos (by decide), if_pos (by decide), tn, gD hn, e0, c0, in_range, s1]
 by_cases h0 : 0 ≤ (l[n]).f0 ∧ (l[n]).f0 ≤ 1000
 ·by_cases h1 : 0 ≤ (l[n]).f1 ∧ (l[n]).f1 ≤ 1000
  ·simp only [h0, h1, and_self, if_true]
  ·simp only [h0, h1, and_self, and_false, if_true, if_false]
 ·simp only [h0, false_and, if_false]
abbrev allR (l : List S48) : Bool := l.all fun x => decide (rgE x)
theorem valid_l1 (l : List S48) (hl : l.length ≤ 100000) : ∀ (d n : Nat), d + n = l.length → Ev (fun k => auction_Valid.l1 l k (n : Int)) (if allR (l.drop n) = true then .inl () else .inr false)
 | 0, n, h => by
  refine Ev.succ (g := fun _ => some (.inl ())) (fun k => by rw [auction_Valid.l1, if_neg (by omega)]) (Ev.const ?_)
  rw [List.drop_eq_nil_of_le (by omega)]
  rfl
 | d + 1, n, h => by
  have hn : n < l.length := by omega
  have ih := valid_l1 l hl d (n + 1) (by omega)
  have h2 := valid_l2 l n hn
  refine Ev.succ (fun k => by rw [auction_Valid.l1, if_pos (by omega), if_pos (by omega), if_pos (by omega), Wn (by omega)]) ?_
  have hall : allR (l.drop n) = (decide (rgE l[n]) && allR (l.drop (n + 1))) := by
   rw [List.drop_eq_getElem_cons hn]
   rfl
  by_cases h3 : (0 ≤ (l[n]).f0 ∧ (l[n]).f0 ≤ 1000) ∧ (0 ≤ (l[n]).f1 ∧ (l[n]).f1 ≤ 1000)
  ·rw [if_pos h3] at h2
   by_cases h4 : 1 ≤ (l[n]).f2 ∧ (l[n]).f2 ≤ 1073741824
   ·have hr : rgE l[n] := ⟨h3.1, h3.2, h4⟩
    have e : allR (l.drop n) = allR (l.drop (n + 1)) := by rw [hall]; simp [hr]
    rw [e]
    refine Ev.bind (r := (Sum.inl () : Unit ⊕ Bool)) (Ev.bind h2 (Ev.const ?_)) ih
    simp only [auction_Valid.k5, tn, gD hn]
    rw [if_neg (by omega), Option.bind_some]
    unfold auction_Valid.k4
    rw [if_neg (by simpa using h4.2)]
   ·have e : allR (l.drop n) = false := by
     rw [hall]
     have : ¬ rgE l[n] := fun h5 => h4 h5.2.2
     simp [this]
    rw [e, if_neg (by decide)]
    refine Ev.bind (r := (Sum.inr false : Unit ⊕ Bool)) (Ev.bind h2 (Ev.const ?_)) (Ev.const rfl)
    simp only [auction_Valid.k5, tn, gD hn]
    unfold auction_Valid.k4
    by_cases h5 : (l[n]).f2 < 1
    ·rw [if_pos h5, Option.bind_some, if_pos rfl]
    ·rw [if_neg h5, Option.bind_some, if_pos (by simp only [decide_eq_true_eq]; omega)]
  ·rw [if_neg h3] at h2
   have e : allR (l.drop n) = false := by
    rw [hall]
    have : ¬ rgE l[n] := fun h5 => h3 ⟨h5.1, h5.2.1⟩
    simp [this]
   rw [e, if_neg (by decide)]
   exact Ev.bind (r := (Sum.inr false : Unit ⊕ Bool)) (Ev.bind h2 (Ev.const rfl)) (Ev.const rfl)
theorem allR_iff {l : List S48} : allR l = true ↔ ∀ x ∈ l, rgE x := by simp [allR]
theorem valid_ev {l : List S48} (h : okB l) : Ev (fun k => auction_Valid.f k l) true := by
 have hv := values_ev (l := l) (by have := h.n64; omega)
 have hlen : (vmap l).length = l.length := by
  have := (puts_len (f := key) (v := (·.f2)) l []).2.2 ⟨h.nd, fun x _ hx => by simp at hx⟩
  simpa using this
 have h1 := valid_l1 l (by have := h.n64; omega) l.length 0 rfl
 rw [List.drop_zero, if_pos (allR_iff.2 h.rg)] at h1
 refine Ev.bind (r := false) ?_ ?_
 ·refine Ev.congr (fun k => if_neg (by have := h.n64; omega)) (Ev.bind hv (Ev.const ?_))
  rw [hlen]; simp
 ·refine Ev.congr (fun k => if_neg (by decide)) (Ev.bind h1 ?_)
  refine Ev.bind (r := true) (Ev.bind (dist0_ev h.kw) ?_) (Ev.const rfl)
  refine Ev.congr (fun k => if_pos (by have := h.nw; omega)) (Ev.bind (dist1_ev h.ks) (Ev.const ?_))
  have := h.ns
  simp only [Option.some.injEq, decide_eq_true_eq]
  omega

/-! ### tables -/
def pre (f : Int → Int) (S : List Int) (n : Nat) : List Int := (S.take n).map f ++ List.replicate (S.length - n) 0
theorem pre_len (f : Int → Int) (S : List Int) (n : Nat) (h : n ≤ S.length) : (pre f S n).length = S.length := by
 unfold pre
 rw [List.length_append, List.length_map, List.length_take, List.length_replicate]
 omega
theorem set_mid {α : Type} (a b : List α) (x y : α) : (a ++ x :: b).set a.length y = a ++ y :: b := by
 rw [List.set_append_right _ _ (Nat.le_refl _), Nat.sub_self]; rfl
theorem pre_set (f : Int → Int) (S : List Int) {n : Nat} (h : n < S.length) : (pre f S n).set n (f S[n]) = pre f S (n + 1) := by
 unfold pre
 obtain ⟨m, hm⟩ : ∃ m, S.length - n = m + 1 := ⟨S.length - n - 1, by omega⟩
 have hm2 : S.length - (n + 1) = m := by omega
 have hl : ((S.take n).map f).length = n := by rw [List.length_map, List.length_take]; omega
 have e : S.take (n + 1) = S.take n ++ [S[n]] := (List.take_append_getElem h).symm
 rw [hm, hm2, List.replicate_succ, e, List.map_append]
 have := set_mid ((S.take n).map f) (List.replicate m (0 : Int)) 0 (f S[n])
 rw [hl] at this
 rw [this]
 simp
def tabL (V : Int → Int → Int) (W S : List Int) : List (List Int) := W.map fun w => S.map (V w)
theorem tab_l2 (W S : List Int) (t3 : List ((Int × Int) × Int)) (V : Int → Int → Int) (hV : ∀ w s, (mget t3 (w, s)).getD 0 = V w s) (x2 : List (List Int)) (i : Nat) (hi : i < W.length) (hi2 : i < x2.length) (hS : S.length ≤ 100000) : ∀ (d n : Nat), d + n = S.length → Ev (fun k => auction_Tabulate.l2 W S t3 x2 (i : Int) k (n : Int) (pre (V W[i]) S n)) (S.map (V W[i]))
 | 0, n, h => by
  refine Ev.succ (g := fun _ => some (pre (V W[i]) S n)) (fun k => by rw [auction_Tabulate.l2, if_neg (by omega)]) (Ev.const ?_)
  obtain rfl : n = S.length := by omega
  unfold pre
  simp
 | d + 1, n, h => by
  have hn : n < S.length := by omega
  have ih := tab_l2 W S t3 V hV x2 i hi hi2 hS d (n + 1) (by omega)
  rw [← pre_set _ S hn] at ih
  refine Ev.succ (fun k => ?_) ih
  rw [auction_Tabulate.l2, if_pos (by omega), if_pos (by omega), if_pos (by omega), if_pos (by omega), if_pos (by omega), if_pos (by omega), if_pos (by rw [pre_len _ _ _ (by omega)]; omega), Wn (by omega), tn, tn, gD hn, gD hi, hV]
def preR (f : Int → List Int) (W : List Int) (n : Nat) : List (List Int) := (W.take n).map f ++ List.replicate (W.length - n) []
theorem preR_len (f : Int → List Int) (W : List Int) (n : Nat) (h : n ≤ W.length) : (preR f W n).length = W.length := by
 unfold preR
 rw [List.length_append, List.length_map, List.length_take, List.length_replicate]
 omega
theorem preR_set (f : Int → List Int) (S : List Int) {n : Nat} (h : n < S.length) : (preR f S n).set n (f S[n]) = preR f S (n + 1) := by
 unfold preR
 obtain ⟨m, hm⟩ : ∃ m, S.length - n = m + 1 := ⟨S.length - n - 1, by omega⟩
 have hm2 : S.length - (n + 1) = m := by omega
 have hl : ((S.take n).map f).length = n := by rw [List.length_map, List.length_take]; omega
 have e : S.take (n + 1) = S.take n ++ [S[n]] := (List.take_append_getElem h).symm
 rw [hm, hm2, List.replicate_succ, e, List.map_append]
 have := set_mid ((S.take n).map f) (List.replicate m ([] : List Int)) [] (f S[n])
 rw [hl] at this
 rw [this]
 simp
theorem tab_l1 (W S : List Int) (t3 : List ((Int × Int) × Int)) (V : Int → Int → Int) (hV : ∀ w s, (mget t3 (w, s)).getD 0 = V w s) (hW : W.length ≤ 100000) (hS : S.length ≤ 100000) : ∀ (d n : Nat), d + n = W.length → Ev (fun k => auction_Tabulate.l1 W S t3 k (preR (fun w => S.map (V w)) W n) (n : Int)) (tabL V W S)
 | 0, n, h => by
  refine Ev.succ (g := fun _ => some (preR (fun w => S.map (V w)) W n)) (fun k => by rw [auction_Tabulate.l1, if_neg (by omega)]) (Ev.const ?_)
  obtain rfl : n = W.length := by omega
  unfold preR tabL
  simp
 | d + 1, n, h => by
  have hn : n < W.length := by omega
  have ih := tab_l1 W S t3 V hV hW hS d (n + 1) (by omega)
  rw [← preR_set (fun w => S.map (V w)) W hn] at ih
  have hl := preR_len (fun w => S.map (V w)) W n (by omega)
  have h2 := tab_l2 W S t3 V hV (preR (fun w => S.map (V w)) W n) n hn (by omega) hS S.length 0 rfl
  have e0 : pre (V W[n]) S 0 = List.replicate ((S.length : Int)).toNat (0 : Int) := by unfold pre; simp
  rw [e0] at h2
  refine Ev.succ (fun k => by rw [auction_Tabulate.l1, if_pos (by omega), if_pos (by omega), if_pos (by omega), if_pos (by omega), if_pos (by omega), if_pos (by omega), if_pos (by omega), Wn (by omega)]) ?_
  refine Ev.bind (Ev.bind h2 (Ev.const rfl)) ?_
  rw [tn]
  exact ih
abbrev tb (l : List S48) : List (List Int) := tabL (Vv l) (ws l) (ss l)
theorem tabulate_ev {l : List S48} (h : okB l) : Ev (fun k => auction_Tabulate.f k l) (ws l, ss l, tb l) := by
 have hl := h.n64
 have hw := h.nw
 have hs := h.ns
 have h1 := tab_l1 (ws l) (ss l) (vmap l) (Vv l) (vmap_get h.nd) (by omega) (by omega) (ws l).length 0 rfl
 have e0 : preR (fun w => (ss l).map (Vv l w)) (ws l) 0 = List.replicate (((ws l).length : Int)).toNat ([] : List Int) := by unfold preR; simp
 rw [e0] at h1
 refine Ev.bind (dist0_ev h.kw) (Ev.bind (dist1_ev h.ks) (Ev.bind (values_ev (by omega)) ?_))
 refine Ev.congr (fun k => if_pos (by omega)) (Ev.congr (fun k => if_pos (by omega)) ?_)
 exact Ev.bind h1 (Ev.const rfl)
theorem tabL_mx (V : Int → Int → Int) (W S : List Int) : Mx V W S (tabL V W S) := by
 have hr : ∀ i (h : i < W.length), hun.row (tabL V W S) i = S.map (V W[i]) := fun i h => by
  unfold tabL hun.row
  rw [gD (by simpa using h)]
  simp
 refine ⟨by simp [tabL], fun i hi => by rw [hr i hi, List.length_map], fun i j hi hj => ?_⟩
 have e1 : g W i = W[i] := gD hi 0
 have e2 : g S j = S[j] := gD hj 0
 show g (hun.row (tabL V W S) i) j = _
 rw [hr i hi, e1, e2]
 show (S.map (V W[i])).getD j 0 = _
 rw [gD (by simpa using hj)]
 simp

/-! ### the reference's Value and Except -/
theorem value_l1 (l : List S48) (w s : Int) (hl : l.length ≤ 100000) : ∀ (d n : Nat), d + n = l.length → Ev (fun k => armillaryref23_Value.l1 l w s k (n : Int)) (match (l.drop n).find? (fun x => decide (key x = (w, s))) with | some x => .inr x.f2 | none => .inl ())
 | 0, n, h => by
  refine Ev.succ (g := fun _ => some (.inl ())) (fun k => by rw [armillaryref23_Value.l1, if_neg (by omega)]) (Ev.const ?_)
  rw [List.drop_eq_nil_of_le (by omega)]; rfl
 | d + 1, n, h => by
  have hn : n < l.length := by omega
  have ih := value_l1 l w s hl d (n + 1) (by omega)
  rw [List.drop_eq_getElem_cons hn, List.find?_cons]
  have c1 : (0 : Int) ≤ (n : Int) := by omega
  have c2 : (n : Int) < (l.length : Int) := by omega
  by_cases h0 : (l[n]).f0 = w ∧ (l[n]).f1 = s
  ·have e : decide (key l[n] = (w, s)) = true := by simp [key, h0.1, h0.2]
   rw [e]
   refine Ev.of 1 (fun k hk => ?_)
   obtain ⟨m, rfl⟩ : ∃ m, k = m + 1 := ⟨k - 1, by omega⟩
   simp only [armillaryref23_Value.l1, c1, c2, if_true, tn, gD hn, h0.1, h0.2, beq_self_eq_true, Option.bind_some]
  ·have e : decide (key l[n] = (w, s)) = false := by
    simp only [decide_eq_false_iff_not, key, Prod.mk.injEq]
    exact h0
   rw [e]
   refine Ev.succ (fun k => ?_) ih
   have e2 : (if (l[n]).f0 = w then (some ((l[n]).f1 == s) : Option Bool) else some false) = some false := by
    by_cases h1 : (l[n]).f0 = w
    ·rw [if_pos h1]
     have : (l[n]).f1 ≠ s := fun h2 => h0 ⟨h1, h2⟩
     simp [this]
    ·rw [if_neg h1]
   simp only [armillaryref23_Value.l1, c1, c2, if_true, tn, gD hn, Wn (show n < 1000000000000 by omega), e2, Option.bind_some, Bool.false_eq_true, if_false]
theorem value_ev (l : List S48) (w s : Int) (hl : l.length ≤ 100000) : Ev (fun k => armillaryref23_Value.f k l w s) (Vv l w s) := by
 refine Ev.bind (value_l1 l w s hl l.length 0 rfl) (Ev.const ?_)
 rw [List.drop_zero]
 unfold Vv
 cases l.find? (fun x => decide (key x = (w, s))) <;> rfl
abbrev exc (l : List S48) (w : Int) : List S48 := l.filter (fun y => decide (y.f0 ≠ w))
end Go.Proofs.Ytihmbmeelheinaa.auc
namespace Go.Proofs.Ytihmbmeelheinaa.auc
open Go Go.Proofs.Ytihmbmeelheinaa Go.Proofs.Ytihmbmeelheinaa.RW Go.Proofs.Ytihmbmeelheinaa.hun
set_option linter.unusedVariables false
set_option maxRecDepth 100000
theorem ws_nil {l : List S48} (h : (ws l).length = 0) : l = [] := by
 cases l with
 | nil => rfl
 | cons x r =>
  have h1 := ws_mem (l := x :: r) (x := x) List.mem_cons_self
  rw [List.eq_nil_of_length_eq_zero h] at h1
  cases h1
theorem tab_vw {l : List S48} (h : okB l) {W S : List Int} (hw : W.length ≤ 12) (hs : S.length ≤ 12) (hz : W.length = 0 → S.length = 0) : Vw (tabL (Vv l) W S) S.length := by
 have hm := tabL_mx (Vv l) W S
 refine ⟨by rw [hm.len]; exact hw, hs, fun e => hz (by rw [← hm.len]; exact e), fun i hi => hm.row i (by rw [← hm.len]; exact hi), fun i j hi hj => ?_⟩
 rw [hm.at_ i j (by rw [← hm.len]; exact hi) hj]
 exact h.vb _ _
theorem total_ev {l : List S48} (h : okB l) {W S : List Int} (hw : W.length ≤ 12) (hs : S.length ≤ 12) (hW : W.Nodup) (hS : S.Nodup) (h0 : ∀ v ∈ W, ∀ s, s ∉ S → Vv l v s = 0) : ∃ Y, Ev (fun k => auction_total.f k (tabL (Vv l) W S)) Y ∧ Om (Vv l) W Y ∧ 0 ≤ Y ∧ Y ≤ 12884901888 := by
 by_cases hn : W.length = 0
 ·obtain rfl := List.eq_nil_of_length_eq_zero hn
  have hv : Vw [] 0 := ⟨Nat.zero_le _, Nat.zero_le _, fun _ => rfl, fun i hi => absurd hi (Nat.not_lt_zero _), fun i j hi => absurd hi (Nat.not_lt_zero _)⟩
  obtain ⟨c, d, V, h1, h2⟩ := solve hv (k := 800) (Nat.le_refl _)
  have hs : Ev (fun k => assign_Solve.f k []) (c, d) := Ev.of 800 (fun k hk => by
   obtain ⟨c', d', V', h3, h4⟩ := solve hv (k := k) hk
   rw [h3]
   have e1 : c' = [] := List.eq_nil_of_length_eq_zero h4.ll
   have e2 : c = [] := List.eq_nil_of_length_eq_zero h2.ll
   have e3 : d'.f0 = [] := List.eq_nil_of_length_eq_zero h4.ul
   have e4 : d.f0 = [] := List.eq_nil_of_length_eq_zero h2.ul
   have e5 : d'.f1 = [] := List.eq_nil_of_length_eq_zero h4.vl
   have e6 : d.f1 = [] := List.eq_nil_of_length_eq_zero h2.vl
   obtain ⟨a, b⟩ := d
   obtain ⟨a', b'⟩ := d'
   simp only at e3 e4 e5 e6
   rw [e1, e2, e3, e4, e5, e6])
  have hval : Ev (fun k => assign_Value.f k [] c) (0, true) := Ev.of 20 (fun k hk => by
   have := value_ok hv (valid_of h2.ll h2.isa) hk
   rw [this]
   rfl)
  exact ⟨0, Ev.bind hs (Ev.bind hval (Ev.const rfl)), om_nil _, Int.le_refl _, by decide⟩
 ·have hv := tab_vw h hw hs (fun e => absurd e hn)
  have hm := tabL_mx (Vv l) W S
  obtain ⟨c, d, V, h1, h2⟩ := solve hv (k := 800) (Nat.le_refl _)
  have hall : ∀ k, 800 ≤ k → ∃ c' d', assign_Solve.f k (tabL (Vv l) W S) = some (c', d') ∧ assign_Value.f k (tabL (Vv l) W S) c' = some (V, true) := fun k hk => by
   obtain ⟨c', d', V', h3, h4⟩ := solve hv (k := k) hk
   refine ⟨c', d', h3, ?_⟩
   rw [value_ok hv (valid_of h4.ll h4.isa) (by omega), h4.val, h4.opt.uniq h2.opt]
  refine ⟨V, Ev.of 800 (fun k hk => ?_), hm.om hW hS h0 h2.opt, h2.vb.1, h2.vb.2⟩
  obtain ⟨c', d', h3, h4⟩ := hall k hk
  unfold auction_total.f
  rw [h3, Option.bind_some, h4, Option.bind_some]

/-! ### the rows but one -/
theorem but_idx {W : List Int} (hn : W.Nodup) {i : Nat} (hi : i < W.length) : W.take i ++ W.drop (i + 1) = but W W[i] := by
 have e : W = W.take i ++ W[i] :: W.drop (i + 1) := by rw [← List.drop_eq_getElem_cons hi, List.take_append_drop]
 have h1 : but W W[i] = (W.take i ++ W[i] :: W.drop (i + 1)).filter (fun v => decide (v ≠ W[i])) := by rw [← e]
 have hp := hn
 rw [e, List.nodup_append] at hp
 obtain ⟨p1, p2, p3⟩ := hp
 rw [List.nodup_cons] at p2
 rw [h1, List.filter_append, List.filter_cons, if_neg (by simp)]
 congr 1
 ·exact (List.filter_eq_self.2 (fun v hv => by simp only [decide_eq_true_eq]; exact fun e2 => p3 v hv W[i] List.mem_cons_self e2)).symm
 ·exact (List.filter_eq_self.2 (fun v hv => by simp only [decide_eq_true_eq]; exact fun e2 => p2.1 (e2 ▸ hv))).symm
theorem price_ev {l : List S48} (h : okB l) {X v : Int} (hX : 0 ≤ X ∧ X ≤ 12884901888) (hv : 0 ≤ v ∧ v ≤ 1073741824) {i : Nat} (hi : i < (ws l).length) :
  ∃ Y, Ev (fun k => auction_Clear_1s0.f k (i : Int) v (tb l) X) (Y - (X - v)) ∧ Om (Vv l) (but (ws l) (g (ws l) i)) Y ∧ 0 ≤ Y ∧ Y ≤ 12884901888 := by
 have hnd := dist_nodup (l.map (·.f0))
 have hw := h.nw
 have e1 : g (ws l) i = (ws l)[i] := gD hi 0
 have hb := but_idx hnd hi
 have hw' : (dist (l.map (·.f0))).length ≤ 12 := hw
 have hlen : (tb l).length = (ws l).length := (tabL_mx _ _ _).len
 obtain ⟨Y, y1, y2, y3, y4⟩ := total_ev h (W := but (ws l) (g (ws l) i)) (S := ss l) (by rw [e1, ← hb, List.length_append, List.length_take, List.length_drop]; omega) h.ns (hnd.filter _) (dist_nodup _) (fun v hv s hs => Vv_zero (.inr hs))
 refine ⟨Y, ?_, y2, y3, y4⟩
 have e2 : (tb l).take i ++ (tb l).drop (i + 1) = tabL (Vv l) (but (ws l) (g (ws l) i)) (ss l) := by
  rw [e1, ← hb]
  unfold tabL
  rw [List.map_append, List.map_take, List.map_drop]
  rfl
 have hne : tb l ≠ [] := fun e => by rw [e] at hlen; simp at hlen; omega
 have c1 : slices_Clone_int64_int64.f (tb l) = some (tb l) := by
  unfold slices_Clone_int64_int64.f
  rw [if_neg hne, if_pos (by simp only [List.length_nil]; omega), List.nil_append]
 have c2 : slices_Delete_int64_int64s0.f (tb l) (i : Int) (W .i64 ((i : Int) + 1)) = some (tabL (Vv l) (but (ws l) (g (ws l) i)) (ss l)) := by
  rw [Wn (by omega)]
  unfold slices_Delete_int64_int64s0.f
  rw [if_pos (by omega), if_pos (by omega), if_pos (by omega), if_neg (by omega), if_pos (by omega), if_pos (by omega), if_pos (by omega), if_pos (by omega), tn, tn, e2]
 refine Ev.bind1 c1 (Ev.bind1 c2 (Ev.bind y1 (Ev.const ?_)))
 rw [W64 (x := X - v) (by omega) (by omega), W64 (by omega) (by omega)]

/-! ### the loop -/
theorem clear_l1 (Wl S : List Int) (t : List (List Int)) (cols : List Int) (dd : S62) (X : Int) (n : Nat) (hn : n ≤ 100) (hc : cols.length = n) (ht : t.length = n) (hr : ∀ i, i < n → (hun.row t i).length = S.length)
  (hg : ∀ i, i < n → g cols i = -1 ∨ (0 ≤ g cols i ∧ g cols i < (S.length : Int))) (P : Nat → Int) (hP : ∀ i, i < n → 0 ≤ g cols i → Ev (fun k => auction_Clear_1s0.f k (i : Int) (we t i (g cols i).toNat) t X) (P i)) :
  ∀ (d i : Nat), d + i = n → Ev (fun k => auction_Clear.l1 (Wl, S, t) (cols, dd) (X, true) k Wl ((List.range i).map fun i => if 0 ≤ g cols i ∧ 0 < we t i (g cols i).toNat then g S (g cols i).toNat else -1) ((List.range i).map fun i => if 0 ≤ g cols i ∧ 0 < we t i (g cols i).toNat then P i else 0) S cols (i : Int))
   (Wl, (List.range n).map (fun i => if 0 ≤ g cols i ∧ 0 < we t i (g cols i).toNat then g S (g cols i).toNat else -1), (List.range n).map (fun i => if 0 ≤ g cols i ∧ 0 < we t i (g cols i).toNat then P i else 0))
 | 0, i, h => by
  obtain rfl : i = n := by omega
  refine Ev.succ (g := fun _ => some _) (fun k => by rw [auction_Clear.l1, if_neg (by show ¬ (i : Int) < (cols.length : Int); omega)]) (Ev.const rfl)
 | d + 1, i, h => by
  have hi : i < n := by omega
  have ih := clear_l1 Wl S t cols dd X n hn hc ht hr hg P hP d (i + 1) (by omega)
  have c1 : (0 : Int) ≤ (i : Int) := by omega
  have c2 : (i : Int) < (cols.length : Int) := by omega
  have c3 : (i : Int) < (t.length : Int) := by omega
  have hri := hr i hi
  rw [List.range_succ, List.map_append, List.map_append] at ih
  simp only [List.map_cons, List.map_nil] at ih
  have l1 : ∀ f : Nat → Int, ((List.range i).map f).length = i := fun f => by rw [List.length_map, List.length_range]
  have c4 : ∀ f : Nat → Int, ∀ x : Int, (((List.range i).map f).length + [x].length) * 8 ≤ 140737488355328 := fun f x => by rw [l1]; simp only [List.length_singleton]; omega
  by_cases hp : 0 ≤ g cols i ∧ 0 < we t i (g cols i).toNat
  ·simp only [hp, and_self, if_true] at ih
   have c5 : g cols i < (S.length : Int) := ((hg i hi).resolve_left (by omega)).2
   have c6 : g cols i < (((t.getD i []).length : Nat) : Int) := by show _ < ((hun.row t i).length : Int); omega
   refine Ev.succ (g := fun k => (auction_Clear_1s0.f k (i : Int) (we t i (g cols i).toNat) t X).bind fun t5 => auction_Clear.l1 (Wl, S, t) (cols, dd) (X, true) k Wl ((List.range i).map (fun i => if 0 ≤ g cols i ∧ 0 < we t i (g cols i).toNat then g S (g cols i).toNat else -1) ++ [g S (g cols i).toNat]) ((List.range i).map (fun i => if 0 ≤ g cols i ∧ 0 < we t i (g cols i).toNat then P i else 0) ++ [t5]) S cols ((i + 1 : Nat) : Int)) (fun k => ?_) (Ev.bind (hP i hi hp.1) ih)
   have e1 : (cols.getD i 0 ≥ 0) = True := eq_true hp.1
   have e2 : decide ((t.getD i []).getD (cols.getD i 0).toNat 0 > 0) = true := decide_eq_true hp.2
   have e3 : (0 ≤ cols.getD i 0) = True := eq_true hp.1
   rw [auction_Clear.l1]
   simp only [c1, c2, c3, if_true, tn, e1, e2, e3, c5, c6, Option.bind_some, c4, Wn (show i < 1000000000000 by omega)]
   cases auction_Clear_1s0.f k (i : Int) ((t.getD i []).getD (cols.getD i 0).toNat 0) t X with
   | none => rfl
   | some t5 => simp only [Option.bind_some, c4, if_true]
  ·simp only [hp, if_false] at ih
   refine Ev.succ (fun k => ?_) ih
   have e : (if cols.getD i 0 ≥ 0 then (if (0 : Int) ≤ (i : Int) then (if (i : Int) < (t.length : Int) then (if 0 ≤ cols.getD i 0 then (if cols.getD i 0 < (((t.getD i []).length : Nat) : Int) then (some (decide ((t.getD i []).getD (cols.getD i 0).toNat 0 > 0))) else none) else none) else none) else none) else (some false)) = some false := by
    by_cases h0 : cols.getD i 0 ≥ 0
    ·have c6 : cols.getD i 0 < (((t.getD i []).length : Nat) : Int) := by
      have := ((hg i hi).resolve_left (by show ¬ cols.getD i 0 = -1; omega)).2
      show g cols i < ((hun.row t i).length : Int)
      omega
     have e2 : decide ((t.getD i []).getD (cols.getD i 0).toNat 0 > 0) = false := decide_eq_false (fun h1 => hp ⟨h0, h1⟩)
     rw [if_pos h0, if_pos c1, if_pos c3, if_pos h0, if_pos c6, e2]
    ·rw [if_neg h0]
   rw [auction_Clear.l1]
   simp only [c1, c2, if_true, tn]
   simp only [c1, c3, if_true] at e
   simp only [c3, if_true, e, Option.bind_some, Bool.false_eq_true, if_false, c4, Wn (show i < 1000000000000 by omega)]
end Go.Proofs.Ytihmbmeelheinaa.auc
namespace Go.Proofs.Ytihmbmeelheinaa.hun
open Go Go.Proofs.Ytihmbmeelheinaa Go.Proofs.Ytihmbmeelheinaa.RW
set_option linter.unusedVariables false
set_option maxRecDepth 100000
set_option maxHeartbeats 4000000
abbrev none' : Nat → Bool := fun _ => false
section
variable {w : List (List Int)} {m : Nat}
theorem opt_at (h : Vw w m) {i : Nat} (hi : i ≤ w.length) (t : Nat → Bool) : ∃ V, Opt w m i t V ∧ 0 ≤ V ∧ V ≤ 12884901888 := by
 obtain ⟨V, _, h1, h2⟩ := best_spec h (used := (List.range m).map t) (by simp) (first := i) (k := 1000) (by omega) hi
 refine ⟨V, h1.congr (fun j hj => ?_), h2⟩
 show ((List.range m).map t).getD j false = t j
 rw [List.getD_eq_getElem?_getD, List.getElem?_map, List.getElem?_range hj]
 rfl
theorem Opt.weaken {i : Nat} {t : Nat → Bool} {V V' : Int} (h : Opt w m i t V) (h' : Opt w m (i + 1) t V') : V' ≤ V := by
 obtain ⟨a, ha, hv⟩ := h'.2
 have := h.1 a ⟨fun i' hi' => (ha.rg i' hi').imp id (fun ⟨h1, h2⟩ => ⟨by omega, h2⟩), ha.inj⟩
 omega
theorem Opt.last {t : Nat → Bool} : Opt w m w.length t 0 := by
 have h0 : ∀ a, IsA w m w.length t a → val w a = 0 := fun a ha => by
  have e1 : val w a = sm (fun _ => 0) w.length := sm_congr _ (fun i' hi' => by
   rcases ha.rg i' hi' with h1 | h1
   ·exact if_pos h1
   ·omega)
  rw [e1, sm_const]; simp
 refine ⟨fun a ha => by rw [h0 a ha]; exact Int.le_refl _, fun _ => -1, ⟨fun i hi => .inl rfl, fun i i' _ _ h1 _ => ?_⟩, ?_⟩
 ·exact absurd (show (0 : Int) ≤ -1 from h1) (by omega)
 ·have ha : IsA w m w.length t (fun _ => -1) := ⟨fun i hi => .inl rfl, fun i i' _ _ h1 _ => absurd (show (0 : Int) ≤ -1 from h1) (by omega)⟩
  exact h0 _ ha
theorem Opt.next {l : List Int} {i : Nat} {V : Int} (hi : i < w.length) (hv : valid w m l) (h : Opt w m (i + 1) (taken (g l) (i + 1)) V) : (g l i = -1 ∧ Opt w m (i + 1) (taken (g l) i) V) ∨ (0 ≤ g l i ∧ g l i < (m : Int) ∧ taken (g l) i (g l i).toNat = false ∧ Opt w m (i + 1) (plus (taken (g l) i) (g l i).toNat) V) := by
 refine (hv.2 i hi).imp (fun e => ⟨e, h.congr fun j hj => ?_⟩) (fun ⟨h1, h2, h3⟩ => ⟨h1, h2, h3, h.congr fun j hj => ?_⟩)
 ·rw [taken_succ, e, beq_eq_false_iff_ne.2 (by omega : (-1 : Int) ≠ (j : Int)), Bool.or_false]
 ·rw [taken_succ]
  show _ = if j = (g l i).toNat then true else taken (g l) i j
  by_cases e2 : j = (g l i).toNat
  ·rw [if_pos e2, beq_iff_eq.2 (by omega : g l i = (j : Int)), Bool.or_true]
  ·rw [if_neg e2, beq_eq_false_iff_ne.2 (by omega : g l i ≠ (j : Int)), Bool.or_false]
theorem ahead_succ (w : List (List Int)) (a : Nat → Int) (i : Nat) : ahead w a (i + 1) = ahead w a i + if a i = -1 then 0 else we w i (a i).toNat := rfl
theorem level (h : Vw w m) {l : List Int} {V0 : Int} (hop : Opt w m 0 none' V0) (hv : valid w m l) (hval : val w (g l) = V0) : ∀ i, i ≤ w.length → ∀ V, Opt w m i (taken (g l) i) V → ahead w (g l) i + V = V0 := by
 have step : ∀ i, i < w.length → ∀ V V', Opt w m i (taken (g l) i) V → Opt w m (i + 1) (taken (g l) (i + 1)) V' → ahead w (g l) (i + 1) + V' ≤ ahead w (g l) i + V := fun i hi V V' h1 h2 => by
  rw [ahead_succ]
  rcases h2.next hi hv with ⟨e, h3⟩ | ⟨e1, e2, e3, h3⟩
  ·have := h1.weaken h3
   rw [if_pos e]
   omega
  ·have := Opt.take hi (by omega : (g l i).toNat < m) e3 h1 h3
   rw [if_neg (by omega)]
   omega
 have up : ∀ i, i ≤ w.length → ∀ V, Opt w m i (taken (g l) i) V → ahead w (g l) i + V ≤ V0 := by
  intro i
  induction i with
  | zero =>
   intro _ V h1
   have := (h1.congr (used' := none') fun j hj => rfl).uniq hop
   show (0 : Int) + V ≤ V0
   omega
  | succ i ih =>
   intro hi V h1
   obtain ⟨V', h2, _⟩ := opt_at h (i := i) (by omega) (taken (g l) i)
   have := ih (by omega) V' h2
   have := step i (by omega) V' V h2 h1
   omega
 have down : ∀ d i, d + i = w.length → ∀ V, Opt w m i (taken (g l) i) V → V0 ≤ ahead w (g l) i + V := by
  intro d
  induction d with
  | zero =>
   intro i hi V h1
   obtain rfl : i = w.length := by omega
   have := h1.uniq Opt.last
   have : ahead w (g l) w.length = V0 := hval
   omega
  | succ d ih =>
   intro i hi V h1
   obtain ⟨V', h2, _⟩ := opt_at h (i := i + 1) (by omega) (taken (g l) (i + 1))
   have := ih (i + 1) (by omega) V' h2
   have := step i (by omega) V V' h1 h2
   omega
 intro i hi V h1
 have := up i hi V h1
 have := down (w.length - i) i (by omega) V h1
 omega
theorem sm_mul (c : Int) (f : Nat → Int) : ∀ n, sm (fun i => c * f i) n = c * sm f n
 | 0 => by simp [sm]
 | n + 1 => by simp only [sm]; rw [sm_mul c f n, Int.mul_add]
end
section
variable {w w' : List (List Int)} {m : Nat} {c : Int}
theorem Opt.by (hc : 0 ≤ c) (hl : w'.length = w.length) (e : ∀ i j, i < w.length → j < m → we w' i j = c * we w i j) {i : Nat} {t : Nat → Bool} {x : Int} (h : Opt w m i t x) : Opt w' m i t (c * x) := by
 have hv : ∀ a, IsA w m i t a → val w' a = c * val w a := fun a ha => by
  unfold val
  rw [hl, ← sm_mul]
  refine sm_congr _ (fun q hq => ?_)
  by_cases h1 : a q = -1
  ·rw [if_pos h1, if_pos h1]; simp
  ·rw [if_neg h1, if_neg h1]
   have := (ha.rg q hq).resolve_left h1
   exact e q _ hq (by omega)
 have hi : ∀ a, IsA w m i t a ↔ IsA w' m i t a := fun a => ⟨fun h => ⟨by rw [hl]; exact h.rg, by rw [hl]; exact h.inj⟩, fun h => ⟨by rw [← hl]; exact h.rg, by rw [← hl]; exact h.inj⟩⟩
 obtain ⟨h1, a, h2, h3⟩ := h
 refine ⟨fun b hb => ?_, a, (hi a).1 h2, by rw [hv a h2, h3]⟩
 rw [hv b ((hi b).2 hb)]
 exact Int.mul_le_mul_of_nonneg_left (h1 b ((hi b).2 hb)) hc
theorem ahead_by (hl : w'.length = w.length) (e : ∀ i j, i < w.length → j < m → we w' i j = c * we w i j) {a : Nat → Int} (ha : ∀ i, i < w.length → a i = -1 ∨ (0 ≤ a i ∧ a i < (m : Int))) {i : Nat} (hi : i ≤ w.length) : ahead w' a i = c * ahead w a i := by
 unfold ahead
 rw [← sm_mul]
 refine sm_congr _ (fun q hq => ?_)
 by_cases h1 : a q = -1
 ·rw [if_pos h1, if_pos h1]; simp
 ·rw [if_neg h1, if_neg h1]
  have := (ha q (by omega)).resolve_left h1
  exact e q _ (by omega) (by omega)
theorem cols_by (hc : 0 < c) (hl : w'.length = w.length) (e : ∀ i j, i < w.length → j < m → we w' i j = c * we w i j) (hv : Vw w m) (hv' : Vw w' m) {l l' : List Int} {d d' : S62} {V V' : Int} (h : Solved w m l d V) (h' : Solved w' m l' d' V') : l = l' := by
 have hV : V' = c * V := h'.opt.uniq (h.opt.by (Int.le_of_lt hc) hl e)
 have va := valid_of h.ll h.isa
 have va' := valid_of h'.ll h'.isa
 have rga : ∀ i, i < w.length → g l i = -1 ∨ (0 ≤ g l i ∧ g l i < (m : Int)) := fun i hi => (h.isa.rg i hi).imp id (fun r => ⟨r.2.1, r.2.2.1⟩)
 have rgb : ∀ i, i < w.length → g l' i = -1 ∨ (0 ≤ g l' i ∧ g l' i < (m : Int)) := fun i hi => (h'.isa.rg i (by omega)).imp id (fun r => ⟨r.2.1, r.2.2.1⟩)
 have key : ∀ i, i ≤ w.length → ∀ q, q < i → g l q = g l' q := by
  intro i
  induction i with
  | zero => intro _ q hq; omega
  | succ i ih =>
   intro hi q hq
   have ih' := ih (by omega)
   by_cases hqi : q < i
   ·exact ih' q hqi
   obtain rfl : q = i := by omega
   have hta : taken (g l) q = taken (g l') q := funext (fun j => taken_congr (fun z hz => ih' z hz) j)
   have hah : ahead w (g l) q = ahead w (g l') q := sm_congr _ (fun z hz => by rw [ih' z hz])
   have hahb : ahead w' (g l') q = c * ahead w (g l') q := ahead_by hl e rgb (by omega)
   rcases rga q hi with ha | ha
   ·rcases rgb q hi with hb | hb
    ·omega
    ·exfalso
     obtain ⟨Vq, hq1, _⟩ := opt_at hv' (i := q + 1) (by omega) (taken (g l') (q + 1))
     have hlev := level hv' h'.opt va' h'.val (q + 1) (by omega) Vq hq1
     rcases hq1.next (by omega) va' with ⟨e1, _⟩ | ⟨n1, n2, n3, n4⟩
     ·omega
     obtain ⟨Vj, h1, h2⟩ := h.ch.lex q hi (g l' q).toNat (by omega) (by rw [hta]; exact n3) (.inl ha)
     have h3 := (h1.by (Int.le_of_lt hc) hl e).uniq (by rw [hta]; exact n4)
     rw [ahead_succ, if_neg (by omega), hahb, e q _ hi (by omega), ← h3, hV, ← Int.mul_add, ← Int.mul_add] at hlev
     have h4 := Int.eq_of_mul_eq_mul_left (by omega) hlev
     omega
   ·by_cases hlt : 0 ≤ g l' q ∧ g l' q < g l q
    ·exfalso
     obtain ⟨Vq, hq1, _⟩ := opt_at hv' (i := q + 1) (by omega) (taken (g l') (q + 1))
     have hlev := level hv' h'.opt va' h'.val (q + 1) (by omega) Vq hq1
     rcases hq1.next (by omega) va' with ⟨e1, _⟩ | ⟨n1, n2, n3, n4⟩
     ·omega
     obtain ⟨Vj, h1, h2⟩ := h.ch.lex q hi (g l' q).toNat (by omega) (by rw [hta]; exact n3) (.inr (by omega))
     have h3 := (h1.by (Int.le_of_lt hc) hl e).uniq (by rw [hta]; exact n4)
     rw [ahead_succ, if_neg (by omega), hahb, e q _ hi (by omega), ← h3, hV, ← Int.mul_add, ← Int.mul_add] at hlev
     have h4 := Int.eq_of_mul_eq_mul_left (by omega) hlev
     omega
    ·by_cases heq : g l q = g l' q
     ·exact heq
     exfalso
     have hbb : g l' q = -1 ∨ (((g l q).toNat : Nat) : Int) < g l' q := by
      rcases rgb q hi with hb | hb <;> omega
     obtain ⟨Vq, hq1, _⟩ := opt_at hv (i := q + 1) (by omega) (taken (g l) (q + 1))
     have hlev := level hv h.opt va h.val (q + 1) (by omega) Vq hq1
     rcases hq1.next (by omega) va with ⟨e1, _⟩ | ⟨n1, n2, n3, n4⟩
     ·omega
     obtain ⟨Vj, h1, h2⟩ := h'.ch.lex q (by omega) (g l q).toNat (by omega) (by rw [← hta]; exact n3) hbb
     have h3 := h1.uniq (by rw [← hta]; exact n4.by (Int.le_of_lt hc) hl e)
     rw [hahb, e q _ hi (by omega), h3, hV, ← Int.mul_add, ← Int.mul_add] at h2
     have h4 := Int.lt_of_mul_lt_mul_left h2 (Int.le_of_lt hc)
     rw [ahead_succ, if_neg (by omega)] at hlev
     omega
 apply List.ext_getElem (by rw [h.ll, h'.ll, hl])
 intro i h1 h2
 have := key w.length (Nat.le_refl _) i (by rw [← h.ll]; exact h1)
 have e1 : g l i = l[i] := by show l.getD i 0 = _; rw [List.getD_eq_getElem?_getD, List.getElem?_eq_getElem h1]; rfl
 have e2 : g l' i = l'[i] := by show l'.getD i 0 = _; rw [List.getD_eq_getElem?_getD, List.getElem?_eq_getElem h2]; rfl
 rw [← e1, ← e2, this]
end
end Go.Proofs.Ytihmbmeelheinaa.hun
namespace Go.Proofs.Ytihmbmeelheinaa.auc
open Go Go.Proofs.Ytihmbmeelheinaa Go.Proofs.Ytihmbmeelheinaa.RW Go.Proofs.Ytihmbmeelheinaa.hun
set_option linter.unusedVariables false
set_option maxRecDepth 100000
/-- Who gets what, out of columns for rows. -/
def sg (l : List S48) (cols : List Int) (w : Int) : Option Int :=
 if 0 ≤ g cols ((ws l).idxOf w) ∧ 0 < Vv l w (g (ss l) (g cols ((ws l).idxOf w)).toNat) then some (g (ss l) (g cols ((ws l).idxOf w)).toNat) else none
structure Cl (l : List S48) (d : S29) (σ : Int → Option Int) (X : Int) (Y : Int → Int) : Prop where
 who : d.f0 = ws l
 sl : d.f1.length = (ws l).length
 pl : d.f2.length = (ws l).length
 inj : Inj (ws l) σ
 tv : tot (Vv l) σ (ws l) = X
 om : Om (Vv l) (ws l) X
 xb : 0 ≤ X ∧ X ≤ 12884901888
 y : ∀ w ∈ ws l, Om (Vv l) (but (ws l) w) (Y w)
 yb : ∀ w, 0 ≤ Y w ∧ Y w ≤ 12884901888
 pos : ∀ w s, σ w = some s → 0 < Vv l w s
 slot : ∀ i, i < (ws l).length → g d.f1 i = match σ (g (ws l) i) with | none => -1 | some s => s
 price : ∀ i, i < (ws l).length → g d.f2 i = match σ (g (ws l) i) with | none => 0 | some s => Y (g (ws l) i) - (X - Vv l (g (ws l) i) s)
theorem sg_some {l : List S48} {cols : List Int} {w s : Int} (h : sg l cols w = some s) : 0 ≤ g cols ((ws l).idxOf w) ∧ s = g (ss l) (g cols ((ws l).idxOf w)).toNat ∧ 0 < Vv l w s := by
 unfold sg at h
 split at h
 ·rename_i n1
  obtain rfl := Option.some.inj h
  exact ⟨n1.1, rfl, n1.2⟩
 ·cases h
theorem sg_inj {l : List S48} {cols : List Int} (h : IsA (tb l) (ss l).length 0 (fun _ => false) (g cols)) : Inj (ws l) (sg l cols) := by
 intro v hv v' hv' s e e'
 have hm := tabL_mx (Vv l) (ws l) (ss l)
 obtain ⟨h1, h2⟩ := idx_g hv
 obtain ⟨h3, h4⟩ := idx_g hv'
 obtain ⟨n1, s1, _⟩ := sg_some e
 obtain ⟨n2, s2, _⟩ := sg_some e'
 have r1 := (h.rg _ (by rw [hm.len]; exact h1)).resolve_left (by omega)
 have r2 := (h.rg _ (by rw [hm.len]; exact h3)).resolve_left (by omega)
 have e3 := g_inj (W := ss l) (dist_nodup _) (by omega) (by omega) (s1.symm.trans s2)
 have := h.inj _ _ (by rw [hm.len]; exact h1) (by rw [hm.len]; exact h3) r1.2.1 (by omega)
 rw [← h2, ← h4, this]
theorem sg_tot {l : List S48} (hb : ∀ w s, 0 ≤ Vv l w s) {cols : List Int} (h : IsA (tb l) (ss l).length 0 (fun _ => false) (g cols)) : tot (Vv l) (sg l cols) (ws l) = val (tb l) (g cols) := by
 have hm := tabL_mx (Vv l) (ws l) (ss l)
 rw [← toσ_tot (dist_nodup _) hm h]
 refine sum_congr (fun w hw => ?_)
 obtain ⟨h1, h2⟩ := idx_g hw
 obtain ⟨c, hc⟩ : ∃ c, g cols ((ws l).idxOf w) = c := ⟨_, rfl⟩
 have r := h.rg _ (by rw [hm.len]; exact h1)
 rw [hc] at r
 have e1 : sg l cols w = if 0 ≤ c ∧ 0 < Vv l w (g (ss l) c.toNat) then some (g (ss l) c.toNat) else none := by rw [← hc]; rfl
 have e2 : toσ (ws l) (ss l) (g cols) w = if c = -1 then none else some (g (ss l) c.toNat) := by rw [← hc]; rfl
 unfold pay
 rw [e1, e2]
 rcases r with r | r
 ·rw [if_neg (by omega), if_pos r]
 ·rw [if_neg (show ¬ c = -1 by omega)]
  by_cases h3 : 0 < Vv l w (g (ss l) c.toNat)
  ·rw [if_pos ⟨r.2.1, h3⟩]
  ·rw [if_neg (fun h4 => h3 h4.2)]
   have := hb w (g (ss l) c.toNat)
   show 0 = Vv l w _
   omega
theorem solve_bind {t : List (List Int)} {m : Nat} (hv : Vw t m) : ∃ (c : List Int) (X : Int), (∃ d, Solved t m c d X) ∧ ∀ {β : Type} {F : Nat → List Int × S62 → Option β} {r : β}, (∃ N, ∀ k, N ≤ k → ∀ d, F k (c, d) = some r) → Ev (fun k => (assign_Solve.f k t).bind (F k)) r := by
 obtain ⟨c, d, X, h1, h2⟩ := solve hv (k := 800) (Nat.le_refl _)
 refine ⟨c, X, ⟨d, h2⟩, fun {β F r} ⟨N, h⟩ => Ev.of (max 800 N) (fun k hk => ?_)⟩
 obtain ⟨c', d', X', h3, h4⟩ := solve hv (k := k) (by omega)
 have e : c = c' := cols_by (c := 1) (by decide) rfl (fun i j _ _ => by rw [Int.one_mul]) hv hv h2 h4
 rw [h3, Option.bind_some, ← e]
 exact h k (by omega) d'
theorem clear_dd (t2 : List Int × List Int × List (List Int)) (c : List Int) (d d' : S62) (t4 : Int × Bool) : ∀ (k : Nat) (x4 x5 x6 x7 x8 : List Int) (x9 : Int), auction_Clear.l1 t2 (c, d) t4 k x4 x5 x6 x7 x8 x9 = auction_Clear.l1 t2 (c, d') t4 k x4 x5 x6 x7 x8 x9
 | 0, _, _, _, _, _, _ => rfl
 | k + 1, x4, x5, x6, x7, x8, x9 => by simp only [auction_Clear.l1, clear_dd t2 c d d' t4 k]
theorem okB.vw {l : List S48} (h : okB l) : Vw (tb l) (ss l).length := tab_vw h h.nw h.ns (fun e => by
 have := dist_len (l.map (·.f1))
 rw [ws_nil e] at this ⊢
 have h0 : dist [] = [] := by simpa using this
 show (dist []).length = 0
 rw [h0]; rfl)
/-- What Clear yields. -/
theorem clear_ev {l : List S48} (h : okB l) : ∃ (d : S29) (cols : List Int) (X : Int) (Y : Int → Int), Ev (fun k => auction_Clear.f k l) (d, 0) ∧ (∃ e, Solved (tb l) (ss l).length cols e X) ∧ Cl l d (sg l cols) X Y := by
 obtain ⟨cols, X, ⟨e0, hs⟩, hbind⟩ := solve_bind h.vw
 have hm := tabL_mx (Vv l) (ws l) (ss l)
 have hml : (tb l).length = (ws l).length := hm.len
 have hwn := dist_nodup (l.map (·.f0))
 have hsn := dist_nodup (l.map (·.f1))
 have hnw := h.nw
 have hll : cols.length = (ws l).length := by rw [hs.ll, hml]
 have hom := hm.om hwn hsn (fun v _ s hs => Vv_zero (.inr hs)) hs.opt
 have hrg : ∀ i, i < (ws l).length → g cols i = -1 ∨ (0 ≤ g cols i ∧ g cols i < ((ss l).length : Int)) := fun i hi => (hs.isa.rg i (by omega)).imp id (fun r => ⟨r.2.1, r.2.2.1⟩)
 have hY : ∀ w, ∃ Y, (w ∈ ws l → (0 ≤ g cols ((ws l).idxOf w) → Ev (fun k => auction_Clear_1s0.f k (((ws l).idxOf w : Nat) : Int) (we (tb l) ((ws l).idxOf w) (g cols ((ws l).idxOf w)).toNat) (tb l) X) (Y - (X - Vv l w (g (ss l) (g cols ((ws l).idxOf w)).toNat)))) ∧ Om (Vv l) (but (ws l) w) Y) ∧ 0 ≤ Y ∧ Y ≤ 12884901888 := by
  intro w
  by_cases hw : w ∈ ws l
  ·obtain ⟨i1, i2⟩ := idx_g hw
   by_cases hc : 0 ≤ g cols ((ws l).idxOf w)
   ·have r := (hrg _ i1).resolve_left (by omega)
    have hat := hm.at_ ((ws l).idxOf w) (g cols ((ws l).idxOf w)).toNat i1 (by omega)
    rw [i2] at hat
    obtain ⟨Y, y1, y2, y3⟩ := price_ev h hs.vb (v := we (tb l) ((ws l).idxOf w) (g cols ((ws l).idxOf w)).toNat) (by rw [hat]; exact h.vb _ _) i1
    rw [i2] at y2
    refine ⟨Y, fun _ => ⟨fun _ => ?_, y2⟩, y3⟩
    rw [← hat]
    exact y1
   ·obtain ⟨Y, y1, y2, y3⟩ := price_ev h hs.vb (v := 0) (by decide) i1
    rw [i2] at y2
    exact ⟨Y, fun _ => ⟨fun h0 => absurd h0 hc, y2⟩, y3⟩
  ·exact ⟨0, fun h0 => absurd h0 hw, Int.le_refl _, by decide⟩
 obtain ⟨Y, hYs⟩ := Classical.axiomOfChoice hY
 have hval : Ev (fun k => assign_Value.f k (tb l) cols) (X, true) := Ev.of 20 (fun k hk => by
  rw [value_ok h.vw (valid_of hs.ll hs.isa) hk, hs.val])
 let fs : Nat → Int := fun i => if 0 ≤ g cols i ∧ 0 < we (tb l) i (g cols i).toNat then g (ss l) (g cols i).toNat else -1
 let P : Nat → Int := fun i => Y (g (ws l) i) - (X - Vv l (g (ws l) i) (g (ss l) (g cols i).toNat))
 let fp : Nat → Int := fun i => if 0 ≤ g cols i ∧ 0 < we (tb l) i (g cols i).toNat then P i else 0
 have hP : ∀ i, i < (ws l).length → 0 ≤ g cols i → Ev (fun k => auction_Clear_1s0.f k (i : Int) (we (tb l) i (g cols i).toNat) (tb l) X) (P i) := fun i hi hc => by
  have h1 := ((hYs (g (ws l) i)).1 (g_mem hi)).1
  rw [idx_of hwn hi] at h1
  exact h1 hc
 have hloop := clear_l1 (ws l) (ss l) (tb l) cols ⟨[], []⟩ X (ws l).length (by omega) hll hml (fun i hi => hm.row i hi) hrg P hP (ws l).length 0 rfl
 have gr : ∀ (f : Nat → Int) i, i < (ws l).length → g ((List.range (ws l).length).map f) i = f i := fun f i hi => by
  show ((List.range (ws l).length).map f).getD i 0 = _
  rw [gD (by simpa using hi)]
  simp
 have hsg : ∀ i, i < (ws l).length → sg l cols (g (ws l) i) = if 0 ≤ g cols i ∧ 0 < we (tb l) i (g cols i).toNat then some (g (ss l) (g cols i).toNat) else none := fun i hi => by
  unfold sg
  rw [idx_of hwn hi]
  rcases hrg i hi with r | r
  ·rw [if_neg (by omega), if_neg (by omega)]
  ·rw [hm.at_ i (g cols i).toNat hi (by omega)]
 refine ⟨⟨ws l, (List.range (ws l).length).map fs, (List.range (ws l).length).map fp⟩, cols, X, Y, ?_, ⟨e0, hs⟩, ?_⟩
 ·refine Ev.bind (valid_ev h) (Ev.congr (fun k => if_pos rfl) (Ev.bind (tabulate_ev h) (hbind ?_)))
  obtain ⟨N1, n1⟩ := hval
  obtain ⟨N2, n2⟩ := hloop
  refine ⟨max N1 N2, fun k hk d => ?_⟩
  have h8 : assign_Value.f k (tb l) cols = some (X, true) := n1 k (by omega)
  have h9 : auction_Clear.l1 (ws l, ss l, tb l) (cols, ⟨[], []⟩) (X, true) k (ws l) [] [] (ss l) cols 0 = some (ws l, (List.range (ws l).length).map fs, (List.range (ws l).length).map fp) := n2 k (by omega)
  show (assign_Value.f k (tb l) cols).bind _ = _
  rw [h8, Option.bind_some]
  show (auction_Clear.l1 (ws l, ss l, tb l) (cols, d) (X, true) k (ws l) [] [] (ss l) cols 0).bind _ = _
  rw [clear_dd _ _ d ⟨[], []⟩, h9]
  rfl
 ·refine ⟨rfl, by simp, by simp, sg_inj hs.isa, by rw [sg_tot (fun w s => (h.vb w s).1) hs.isa, hs.val], hom, hs.vb, fun w hw => ((hYs w).1 hw).2, fun w => (hYs w).2, fun w s e => (sg_some e).2.2, fun i hi => ?_, fun i hi => ?_⟩
  ·show g ((List.range (ws l).length).map fs) i = _
   rw [gr fs i hi, hsg i hi]
   by_cases hc : 0 ≤ g cols i ∧ 0 < we (tb l) i (g cols i).toNat
   ·rw [if_pos hc]; exact if_pos hc
   ·rw [if_neg hc]; exact if_neg hc
  ·show g ((List.range (ws l).length).map fp) i = _
   rw [gr fp i hi, hsg i hi]
   by_cases hc : 0 ≤ g cols i ∧ 0 < we (tb l) i (g cols i).toNat
   ·rw [if_pos hc]; exact if_pos hc
   ·rw [if_neg hc]; exact if_neg hc
end Go.Proofs.Ytihmbmeelheinaa.auc
namespace Go.Proofs.Ytihmbmeelheinaa.auc
open Go Go.Proofs.Ytihmbmeelheinaa Go.Proofs.Ytihmbmeelheinaa.RW Go.Proofs.Ytihmbmeelheinaa.hun
set_option linter.unusedVariables false
set_option maxRecDepth 100000
/-! ### Utility and Welfare -/
theorem index_l1 (l : List Int) (a : Int) (hl : l.length ≤ 100000) : ∀ (d n : Nat), d + n = l.length → (∀ q, q < n → g l q ≠ a) → Ev (fun k => slices_Index_int_int.l1 l a k (n : Int)) (if a ∈ l then .inr ((l.idxOf a : Nat) : Int) else .inl ())
 | 0, n, h, hq => by
  refine Ev.succ (g := fun _ => some (.inl ())) (fun k => by rw [slices_Index_int_int.l1, if_neg (by omega)]) (Ev.const ?_)
  rw [if_neg (fun hm => ?_)]
  obtain ⟨h1, h2⟩ := idx_g hm
  exact hq _ (by omega) h2
 | d + 1, n, h, hq => by
  have hn : n < l.length := by omega
  have c1 : (0 : Int) ≤ (n : Int) := by omega
  have c2 : (n : Int) < (l.length : Int) := by omega
  by_cases he : a = g l n
  ·refine Ev.of 1 (fun k hk => ?_)
   obtain ⟨m, rfl⟩ : ∃ m, k = m + 1 := ⟨k - 1, by omega⟩
   have hm : a ∈ l := by rw [he]; exact g_mem hn
   have hix : l.idxOf a = n := by
    obtain ⟨h1, h2⟩ := idx_g hm
    rcases Nat.lt_trichotomy (l.idxOf a) n with h3 | h3 | h3
    ·exact absurd h2 (hq _ h3)
    ·exact h3
    ·exfalso
     have h4 : g l n = l[n] := gD hn 0
     have := List.not_of_lt_findIdx (xs := l) (p := fun x => x == a) (i := n) (by simpa [List.idxOf] using h3)
     rw [← h4, ← he] at this
     simp at this
   rw [slices_Index_int_int.l1, if_pos c2, if_pos c1, if_pos c2, tn, if_pos he, if_pos hm, hix]
  ·have ih := index_l1 l a hl d (n + 1) (by omega) (fun q hq2 => by
    by_cases h1 : q < n
    ·exact hq q h1
    ·obtain rfl : q = n := by omega
     exact fun e => he e.symm)
   refine Ev.succ (fun k => ?_) ih
   rw [slices_Index_int_int.l1, if_pos c2, if_pos c1, if_pos c2, tn, if_neg he, Wn (by omega)]
theorem index_ev (l : List Int) (a : Int) (hl : l.length ≤ 100000) : Ev (fun k => slices_Index_int_int.f k l a) (if a ∈ l then ((l.idxOf a : Nat) : Int) else -1) := by
 refine Ev.bind (index_l1 l a hl l.length 0 rfl (fun q hq => absurd hq (Nat.not_lt_zero _))) (Ev.const ?_)
 by_cases h : a ∈ l
 ·rw [if_pos h, if_pos h]; rfl
 ·rw [if_neg h, if_neg h]; rfl
theorem utility_ev {l : List S48} (h : okB l) {d : S29} (h0 : d.f0.length ≤ 100) (h1 : d.f1.length = d.f0.length) (h2 : d.f2.length = d.f0.length) (h3 : ∀ i, -100000000000 ≤ g d.f2 i ∧ g d.f2 i ≤ 100000000000) (w : Int) :
  Ev (fun k => auction_Utility.f k l d w) (if w ∈ d.f0 then Vv l w (g d.f1 (d.f0.idxOf w)) - g d.f2 (d.f0.idxOf w) else 0) := by
 refine Ev.bind (index_ev d.f0 w (by omega)) ?_
 by_cases hw : w ∈ d.f0
 ·obtain ⟨i1, i2⟩ := idx_g hw
  rw [if_pos hw, if_pos hw]
  refine Ev.congr (fun k => if_neg (by omega)) (Ev.bind (values_ev (by have := h.n64; omega)) ?_)
  refine Ev.congr (fun k => if_pos (by omega)) (Ev.congr (fun k => if_pos (by omega)) (Ev.congr (fun k => if_pos (by omega)) (Ev.congr (fun k => if_pos (by omega)) (Ev.const ?_))))
  rw [tn, vmap_get h.nd]
  have := h.vb w (g d.f1 (d.f0.idxOf w))
  have := h3 (d.f0.idxOf w)
  exact congrArg some (W64 (by show _ ≤ Vv l w (g d.f1 (d.f0.idxOf w)) - g d.f2 (d.f0.idxOf w); omega) (by show Vv l w (g d.f1 (d.f0.idxOf w)) - g d.f2 (d.f0.idxOf w) ≤ _; omega))
 ·rw [if_neg hw, if_neg hw]
  exact Ev.congr (fun k => if_pos (by decide)) (Ev.const rfl)
theorem sm_bound {f : Nat → Int} (hf : ∀ i, 0 ≤ f i ∧ f i ≤ 1073741824) : ∀ n, 0 ≤ sm f n ∧ sm f n ≤ 1073741824 * (n : Int)
 | 0 => by simp [sm]
 | n + 1 => by
  have h1 := sm_bound hf n
  have h2 := hf n
  simp only [sm]
  omega
theorem welfare_l1 {l : List S48} (h : okB l) (d : S29) (h0 : d.f0.length ≤ 100) (h1 : d.f1.length = d.f0.length) : ∀ (q n : Nat), q + n = d.f0.length → Ev (fun k => auction_Welfare.l1 d (vmap l) k (sm (fun i => Vv l (g d.f0 i) (g d.f1 i)) n) (n : Int)) (sm (fun i => Vv l (g d.f0 i) (g d.f1 i)) d.f0.length)
 | 0, n, e => by
  obtain rfl : n = d.f0.length := by omega
  exact Ev.succ (g := fun _ => some _) (fun k => by rw [auction_Welfare.l1, if_neg (by omega)]) (Ev.const rfl)
 | q + 1, n, e => by
  have ih := welfare_l1 h d h0 h1 q (n + 1) (by omega)
  have hb := sm_bound (f := fun i => Vv l (g d.f0 i) (g d.f1 i)) (fun i => h.vb _ _) n
  have hv := h.vb (g d.f0 n) (g d.f1 n)
  refine Ev.succ (fun k => ?_) ih
  rw [auction_Welfare.l1, if_pos (by omega), if_pos (by omega), if_pos (by omega), if_pos (by omega), if_pos (by omega), tn, vmap_get h.nd, Wn (by omega)]
  have e2 : W .i64 (sm (fun i => Vv l (g d.f0 i) (g d.f1 i)) n + Vv l (d.f0.getD n 0) (d.f1.getD n 0)) = sm (fun i => Vv l (g d.f0 i) (g d.f1 i)) (n + 1) := W64 (by show _ ≤ sm _ n + Vv l (g d.f0 n) (g d.f1 n); omega) (by show sm _ n + Vv l (g d.f0 n) (g d.f1 n) ≤ _; omega)
  rw [e2]
theorem welfare_ev {l : List S48} (h : okB l) (d : S29) (h0 : d.f0.length ≤ 100) (h1 : d.f1.length = d.f0.length) : Ev (fun k => auction_Welfare.f k l d) (sm (fun i => Vv l (g d.f0 i) (g d.f1 i)) d.f0.length) :=
 Ev.bind (values_ev (by have := h.n64; omega)) (Ev.bind (welfare_l1 h d h0 h1 d.f0.length 0 rfl) (Ev.const rfl))
theorem no_slot {l : List S48} (h : okB l) (w : Int) : Vv l w (-1) = 0 := Vv_zero (.inr (fun hm => by
 obtain ⟨x, hx, e⟩ := List.mem_map.1 (dist_mem.1 hm)
 have := (h.rg x hx).2.1
 omega))
section
variable {l : List S48} {d : S29} {σ : Int → Option Int} {X : Int} {Y : Int → Int}
theorem Cl.slotV (c : Cl l d σ X Y) (h : okB l) {i : Nat} (hi : i < (ws l).length) : Vv l (g (ws l) i) (g d.f1 i) = pay (Vv l) σ (g (ws l) i) := by
 rw [c.slot i hi]
 unfold pay
 cases σ (g (ws l) i) with
 | none => exact no_slot h _
 | some s => rfl
theorem Cl.welfare (c : Cl l d σ X Y) (h : okB l) : Ev (fun k => auction_Welfare.f k l d) X := by
 have hn := h.nw
 have h1 := welfare_ev h d (by rw [c.who]; omega) (by rw [c.who, c.sl])
 have e : sm (fun i => Vv l (g d.f0 i) (g d.f1 i)) d.f0.length = X := by
  rw [c.who, ← c.tv]
  have h2 := sm_list (pay (Vv l) σ) (ws l) (ws l).length (Nat.le_refl _)
  rw [List.take_length] at h2
  show _ = ((ws l).map _).sum
  rw [← h2]
  exact sm_congr _ (fun i hi => c.slotV h hi)
 rwa [e] at h1
theorem Cl.shaped (c : Cl l d σ X Y) : armillarylaw23_shaped.f d = some true := by
 unfold armillarylaw23_shaped.f armillarylaw23_shaped.k1
 rw [if_pos (by rw [c.sl, c.who]), c.pl, c.who]
 simp
end

/-! ### comparisons -/
theorem sameI_l1 (a b : List Int) (hl : a.length = b.length) (ha : a.length ≤ 100000) (he : ∀ i, i < a.length → g a i = g b i) : ∀ (d n : Nat), d + n = a.length → Ev (fun k => armillarylaw23_sameInts.l1 a b k (n : Int)) (.inl ())
 | 0, n, h => Ev.succ (g := fun _ => some _) (fun k => by rw [armillarylaw23_sameInts.l1, if_neg (by omega)]) (Ev.const rfl)
 | d + 1, n, h => by
  have ih := sameI_l1 a b hl ha he d (n + 1) (by omega)
  refine Ev.succ (fun k => ?_) ih
  have e : ¬ (a.getD n 0 ≠ b.getD n 0) := fun h1 => h1 (he n (by omega))
  rw [armillarylaw23_sameInts.l1, if_pos (by omega), if_pos (by omega), if_pos (by omega), if_pos (by omega), if_pos (by omega), tn, if_neg e, Wn (by omega)]
theorem sameI {a b : List Int} (ha : a.length ≤ 100000) (e : a = b) : Ev (fun k => armillarylaw23_sameInts.f k a b) true := by
 subst e
 exact Ev.congr (fun k => if_neg (fun h => h rfl)) (Ev.bind (sameI_l1 a a rfl ha (fun _ _ => rfl) a.length 0 rfl) (Ev.const rfl))
theorem sameA_l1 (a : S29) (h1 : a.f1.length = a.f0.length) (h2 : a.f2.length = a.f0.length) (ha : a.f0.length ≤ 100000) : ∀ (d n : Nat), d + n = a.f0.length → Ev (fun k => armillaryref23_Same.l1 a a k (n : Int)) (.inl ())
 | 0, n, h => Ev.succ (g := fun _ => some _) (fun k => by rw [armillaryref23_Same.l1, if_neg (by omega)]) (Ev.const rfl)
 | d + 1, n, h => by
  have ih := sameA_l1 a h1 h2 ha d (n + 1) (by omega)
  have c1 : (0 : Int) ≤ (n : Int) := by omega
  have c2 : (n : Int) < (a.f0.length : Int) := by omega
  have c3 : (n : Int) < (a.f1.length : Int) := by omega
  have c4 : (n : Int) < (a.f2.length : Int) := by omega
  refine Ev.succ (fun k => ?_) ih
  simp only [armillaryref23_Same.l1, c1, c2, c3, c4, if_true, tn, ne_eq, not_true_eq_false, if_false, bne_self_eq_false, Option.bind_some, Bool.false_eq_true, Wn (show n < 1000000000000 by omega)]
theorem sameA {a b : S29} (h1 : a.f1.length = a.f0.length) (h2 : a.f2.length = a.f0.length) (ha : a.f0.length ≤ 100000) (e : a = b) : Ev (fun k => armillaryref23_Same.f k a b) true := by
 subst e
 refine Ev.bind (r := false) ?_ (Ev.congr (fun k => if_neg (by decide)) (Ev.bind (sameA_l1 a h1 h2 ha a.f0.length 0 rfl) (Ev.const rfl)))
 refine Ev.const ?_
 rw [if_neg (fun h => h rfl), if_neg (fun h => h rfl), if_neg (fun h => h rfl), if_neg (fun h => h (by omega)), h2]
 simp
end Go.Proofs.Ytihmbmeelheinaa.auc
namespace Go.Proofs.Ytihmbmeelheinaa.auc
open Go Go.Proofs.Ytihmbmeelheinaa Go.Proofs.Ytihmbmeelheinaa.RW Go.Proofs.Ytihmbmeelheinaa.hun
set_option linter.unusedVariables false
set_option maxRecDepth 100000
theorem nodup_sub : ∀ {a b : List Int}, a.Nodup → (∀ x ∈ a, x ∈ b) → a.length ≤ b.length
 | [], b, _, _ => Nat.zero_le _
 | x :: a, b, hn, h => by
  rw [List.nodup_cons] at hn
  have hx := h x List.mem_cons_self
  have h1 := nodup_sub (b := b.erase x) hn.2 (fun y hy => by
   have : y ≠ x := fun e => hn.1 (e ▸ hy)
   exact (List.mem_erase_of_ne this).2 (h y (List.mem_cons_of_mem _ hy)))
  have h2 := List.length_erase_of_mem hx
  have h3 := List.length_pos_of_mem hx
  simp only [List.length_cons]
  omega
/-- The places a bid that is made may name. -/
def gridE (x : S48) : Prop := x.f0 ∈ [0, 7, 14, 21, 28, (35 : Int)] ∧ x.f1 ∈ [0, 3, 6, 9, 12, (15 : Int)]
structure okG (n : Nat) (v : Int) (l : List S48) : Prop where
 len : l.length ≤ n
 nd : (l.map key).Nodup
 gr : ∀ x ∈ l, gridE x
 vb : ∀ x ∈ l, 1 ≤ x.f2 ∧ x.f2 ≤ v
theorem okG.ok {n : Nat} {v : Int} {l : List S48} (h : okG n v l) (hn : n ≤ 64) (hv : v ≤ 1073741824) : okB l := by
 have hw : (ws l).length ≤ 6 := nodup_sub (b := [0, 7, 14, 21, 28, (35 : Int)]) (dist_nodup _) (fun x hx => by
  obtain ⟨y, hy, rfl⟩ := List.mem_map.1 (dist_mem.1 hx)
  exact (h.gr y hy).1)
 have hs : (ss l).length ≤ 6 := nodup_sub (b := [0, 3, 6, 9, 12, (15 : Int)]) (dist_nodup _) (fun x hx => by
  obtain ⟨y, hy, rfl⟩ := List.mem_map.1 (dist_mem.1 hx)
  exact (h.gr y hy).2)
 refine ⟨by have := h.len; omega, h.nd, fun x hx => ?_, by omega, by omega⟩
 obtain ⟨g1, g2⟩ := h.gr x hx
 have h3 := h.vb x hx
 simp only [List.mem_cons, List.not_mem_nil, or_false] at g1 g2
 unfold rgE
 omega
theorem and255 (x : Int) : 0 ≤ bAnd .i64 x 255 ∧ bAnd .i64 x 255 ≤ 255 := by
 have h : ((BitVec.ofInt 64 x &&& 255#64).toNat) ≤ 255 := by
  rw [BitVec.toNat_and]
  exact Nat.and_le_right
 show 0 ≤ W .i64 (((BitVec.ofInt 64 x &&& 255#64).toNat : Nat) : Int) ∧ W .i64 (((BitVec.ofInt 64 x &&& 255#64).toNat : Nat) : Int) ≤ 255
 rw [W64 (by omega) (by omega)]
 omega
/-- What one drawn bid becomes. -/
def mk1 (x : S48) : S48 := ⟨W .i64 (((bAnd .i64 x.f0 255).tmod 6) * 7), W .i64 (((bAnd .i64 x.f1 255).tmod 6) * 3), W .i64 (1 + ((W .i64 ((x.f2.tmod 1048576) + 1048576)).tmod 1048576))⟩
theorem mk1_f0 (x : S48) : (mk1 x).f0 = (bAnd .i64 x.f0 255 % 6) * 7 := by
 obtain ⟨h1, h2⟩ := and255 x.f0
 show W .i64 _ = _
 rw [Int.tmod_eq_emod_of_nonneg h1]
 exact W64 (by omega) (by omega)
theorem mk1_f1 (x : S48) : (mk1 x).f1 = (bAnd .i64 x.f1 255 % 6) * 3 := by
 obtain ⟨h1, h2⟩ := and255 x.f1
 show W .i64 _ = _
 rw [Int.tmod_eq_emod_of_nonneg h1]
 exact W64 (by omega) (by omega)
theorem mk1_grid (x : S48) : gridE (mk1 x) := by
 unfold gridE
 rw [mk1_f0, mk1_f1]
 simp only [List.mem_cons, List.not_mem_nil, or_false]
 omega
theorem mk1_vb (x : S48) : 1 ≤ (mk1 x).f2 ∧ (mk1 x).f2 ≤ 1048576 := by
 show 1 ≤ W .i64 _ ∧ W .i64 _ ≤ _
 have h1 := Int.tmod_lt_of_pos x.f2 (show (0 : Int) < 1048576 by decide)
 have h2 : -1048576 < x.f2.tmod 1048576 := by
  have := Int.lt_tmod_of_pos x.f2 (show (0 : Int) < 1048576 by decide)
  omega
 rw [W64 (x := x.f2.tmod 1048576 + 1048576) (by omega) (by omega), Int.tmod_eq_emod_of_nonneg (by omega), W64 (by omega) (by omega)]
 omega
theorem Vv_one {l : List S48} {w s : Int} (hp : ∀ x ∈ l, 1 ≤ x.f2) (h : Vv l w s = 0) : (w, s) ∉ l.map key := by
 intro hm
 obtain ⟨y, hy, e⟩ := List.mem_map.1 hm
 rcases Vv_mem (l := l) (w := w) (s := s) with ⟨z, hz, e1, e2⟩ | ⟨h1, _⟩
 ·have := hp z hz; omega
 ·exact h1 y hy e
/-- One more bid, unless its place is taken. -/
def add1 (l : List S48) (x : S48) : List S48 := if Vv l x.f0 x.f1 = 0 then l ++ [x] else l
theorem okG.add {n : Nat} {v : Int} {l : List S48} (h : okG n v l) {x : S48} (hg : gridE x) (hv : 1 ≤ x.f2 ∧ x.f2 ≤ v) : okG (n + 1) v (add1 l x) := by
 unfold add1
 split
 ·rename_i h0
  refine ⟨by rw [List.length_append, List.length_singleton]; have := h.len; omega, ?_, fun y hy => ?_, fun y hy => ?_⟩
  ·rw [List.map_append, List.nodup_append]
   refine ⟨h.nd, by simp, fun a ha b hb e => ?_⟩
   rw [List.map_singleton, List.mem_singleton] at hb
   rw [hb] at e
   rw [e] at ha
   exact Vv_one (fun y hy => (h.vb y hy).1) h0 ha
  ·rcases List.mem_append.1 hy with hy | hy
   ·exact h.gr y hy
   ·rw [List.mem_singleton.1 hy]; exact hg
  ·rcases List.mem_append.1 hy with hy | hy
   ·exact h.vb y hy
   ·rw [List.mem_singleton.1 hy]; exact hv
 ·exact ⟨by have := h.len; omega, h.nd, h.gr, h.vb⟩
theorem made_l1 (a : List S48) (ha : a.length ≤ 9223372036854775807) : ∀ (d n : Nat) (x : List S48), d + n = a.length → okG 36 1048576 x → ∃ r, okG 36 1048576 r ∧ Ev (fun k => armillaryref23_Made.l1 a k x (n : Int)) r
 | 0, n, x, h, hx => ⟨x, hx, Ev.succ (g := fun _ => some x) (fun k => by rw [armillaryref23_Made.l1, if_neg (by omega), Option.bind_some, if_neg (by decide)]) (Ev.const rfl)⟩
 | d + 1, n, x, h, hx => by
  have hn : n < a.length := by omega
  have c1 : (0 : Int) ≤ (n : Int) := by omega
  have c2 : (n : Int) < (a.length : Int) := by omega
  have e1 : W .i64 ((n : Int) + 1) = ((n + 1 : Nat) : Int) := by rw [W64 (by omega) (by omega)]; rfl
  by_cases hl : x.length < 36
  ·have hx2 : okG 35 1048576 x := ⟨by omega, hx.nd, hx.gr, hx.vb⟩
   obtain ⟨r, hr, ih⟩ := made_l1 a ha d (n + 1) (add1 x (mk1 (a.getD n z48))) (by omega) (hx2.add (mk1_grid _) (mk1_vb _))
   refine ⟨r, hr, ?_⟩
   have hv := value_ev x (mk1 (a.getD n z48)).f0 (mk1 (a.getD n z48)).f1 (by omega)
   have c3 : (x.length + [mk1 (a.getD n z48)].length) * 24 ≤ 140737488355328 := by simp only [List.length_singleton]; omega
   refine Ev.succ (g := fun k => (armillaryref23_Value.f k x (mk1 (a.getD n z48)).f0 (mk1 (a.getD n z48)).f1).bind fun t1 => ((if t1 = 0 then (if (x.length + [mk1 (a.getD n z48)].length) * 24 ≤ 140737488355328 then some (x ++ [mk1 (a.getD n z48)]) else none) else some x).bind fun x5 => armillaryref23_Made.l1 a k x5 (W .i64 ((n : Int) + 1)))) (fun k => ?_) ?_
   ·rw [armillaryref23_Made.l1, if_pos c2, Option.bind_some, if_pos (by simp only [decide_eq_true_eq]; omega), if_pos c1, if_pos c2, if_pos c1, if_pos c2, if_pos c1, if_pos c2, tn]
    rfl
   ·refine Ev.bind hv ?_
    rw [e1]
    have e2 : (if Vv x (mk1 (a.getD n z48)).f0 (mk1 (a.getD n z48)).f1 = 0 then (if (x.length + [mk1 (a.getD n z48)].length) * 24 ≤ 140737488355328 then some (x ++ [mk1 (a.getD n z48)]) else none) else some x) = some (add1 x (mk1 (a.getD n z48))) := by
     unfold add1
     rw [if_pos c3]
     split <;> rfl
    exact Ev.bind1 e2 ih
  ·exact ⟨x, hx, Ev.succ (g := fun _ => some x) (fun k => by rw [armillaryref23_Made.l1, if_pos c2, Option.bind_some, if_neg (by simp only [decide_eq_true_eq]; omega)]) (Ev.const rfl)⟩
theorem made_ev {a : List S48} (ha : a.length ≤ 9223372036854775807) : ∃ r, okG 36 1048576 r ∧ Ev (fun k => armillaryref23_Made.f k a) r := by
 obtain ⟨r, h1, h2⟩ := made_l1 a ha a.length 0 [] rfl ⟨by simp, by simp, (fun x hx => by cases hx), (fun x hx => by cases hx)⟩
 exact ⟨r, h1, Ev.bind h2 (Ev.const rfl)⟩
/-! ### cut, changed -/
theorem but_mem {W : List Int} {w x : Int} : x ∈ but W w ↔ x ∈ W ∧ x ≠ w := by simp [List.mem_filter]
theorem ws_of {l : List S48} {x : Int} : x ∈ ws l ↔ ∃ y ∈ l, y.f0 = x := by rw [dist_mem, List.mem_map]
theorem ss_of {l : List S48} {x : Int} : x ∈ ss l ↔ ∃ y ∈ l, y.f1 = x := by rw [dist_mem, List.mem_map]
/-- Values by a factor. -/
abbrev sca (c : Int) (l : List S48) : List S48 := l.map fun x => ⟨x.f0, x.f1, x.f2 * c⟩
/-- One value raised. -/
abbrev rsf (w s b : Int) (x : S48) : S48 := if x.f0 = w ∧ x.f1 = s then ⟨x.f0, x.f1, x.f2 + b⟩ else x
abbrev rsd (w s b : Int) (l : List S48) : List S48 := l.map (rsf w s b)
theorem rsf_key (w s b : Int) (x : S48) : key (rsf w s b x) = key x := by
 unfold rsf; split <;> rfl
theorem rsd_key (w s b : Int) (l : List S48) : (rsd w s b l).map key = l.map key := by
 unfold rsd
 rw [List.map_map]
 exact List.map_congr_left (fun x _ => rsf_key w s b x)
theorem rsd_ws (w s b : Int) (l : List S48) : ws (rsd w s b l) = ws l := by
 unfold ws rsd
 rw [List.map_map]
 congr 1
 exact List.map_congr_left (fun x _ => congrArg Prod.fst (rsf_key w s b x))
theorem rsd_ss (w s b : Int) (l : List S48) : ss (rsd w s b l) = ss l := by
 unfold ss rsd
 rw [List.map_map]
 congr 1
 exact List.map_congr_left (fun x _ => congrArg Prod.snd (rsf_key w s b x))
theorem rsd_okG {n : Nat} {v b w s : Int} {l : List S48} (h : okG n v l) (hb : 0 ≤ b) : okG n (v + b) (rsd w s b l) := by
 refine ⟨by rw [List.length_map]; exact h.len, by rw [rsd_key]; exact h.nd, fun x hx => ?_, fun x hx => ?_⟩
 ·obtain ⟨y, hy, rfl⟩ := List.mem_map.1 hx
  have := h.gr y hy
  unfold rsf
  split
  ·exact this
  ·exact this
 ·obtain ⟨y, hy, rfl⟩ := List.mem_map.1 hx
  have := h.vb y hy
  unfold rsf
  split
  ·show 1 ≤ y.f2 + b ∧ y.f2 + b ≤ v + b; omega
  ·omega
theorem rsd_Vv {l : List S48} {w s b : Int} (h : (l.map key).Nodup) {x : S48} (hx : x ∈ l) (e0 : x.f0 = w) (e1 : x.f1 = s) (v t : Int) : Vv (rsd w s b l) v t = Vv l v t + if v = w ∧ t = s then b else 0 := by
 have h' : ((rsd w s b l).map key).Nodup := by rw [rsd_key]; exact h
 by_cases hc : v = w ∧ t = s
 ·obtain ⟨rfl, rfl⟩ := hc
  rw [if_pos ⟨rfl, rfl⟩]
  have h1 := Vv_of h hx
  have h2 : rsf v t b x ∈ rsd v t b l := List.mem_map.2 ⟨x, hx, rfl⟩
  have h3 := Vv_of h' h2
  unfold rsf at h3
  rw [if_pos ⟨e0, e1⟩] at h3
  rw [e0, e1] at h1
  simp only [e0, e1] at h3
  rw [h3, h1]
 ·rw [if_neg hc, Int.add_zero]
  rcases Vv_mem (l := l) (w := v) (s := t) with ⟨y, hy, e2, e3⟩ | ⟨h1, h2⟩
  ·have e4 : y.f0 = v := congrArg Prod.fst e2
   have e5 : y.f1 = t := congrArg Prod.snd e2
   have h2 : y ∈ rsd w s b l := List.mem_map.2 ⟨y, hy, by unfold rsf; rw [if_neg (by rw [e4, e5]; exact hc)]⟩
   have h3 := Vv_of h' h2
   rw [e4, e5] at h3
   rw [h3, e3]
  ·rcases Vv_mem (l := rsd w s b l) (w := v) (s := t) with ⟨y, hy, e2, e3⟩ | ⟨h3, h4⟩
   ·have : (v, t) ∈ (rsd w s b l).map key := List.mem_map.2 ⟨y, hy, e2⟩
    rw [rsd_key] at this
    obtain ⟨z, hz, e6⟩ := List.mem_map.1 this
    exact absurd e6 (h1 z hz)
   ·rw [h2, h4]
end Go.Proofs.Ytihmbmeelheinaa.auc
namespace Go.Proofs.Ytihmbmeelheinaa.auc
open Go Go.Proofs.Ytihmbmeelheinaa Go.Proofs.Ytihmbmeelheinaa.RW Go.Proofs.Ytihmbmeelheinaa.hun
set_option linter.unusedVariables false
set_option maxRecDepth 100000
theorem ext_g {a b : List Int} (hl : a.length = b.length) (h : ∀ i, i < a.length → g a i = g b i) : a = b := by
 refine List.ext_getElem hl (fun i h1 h2 => ?_)
 have e1 : g a i = a[i] := gD h1 0
 have e2 : g b i = b[i] := gD h2 0
 rw [← e1, ← e2]
 exact h i h1
theorem cl_scale {l l' : List S48} {d d' : S29} {cols cols' : List Int} {X X' : Int} {Y Y' : Int → Int} {e e' : S62} {c : Int} (hc : 0 < c) (h : okB l) (h' : okB l') (ew : ws l' = ws l) (es : ss l' = ss l) (ev : ∀ w s, Vv l' w s = c * Vv l w s)
  (hs : Solved (tb l) (ss l).length cols e X) (hs' : Solved (tb l') (ss l').length cols' e' X') (k : Cl l d (sg l cols) X Y) (k' : Cl l' d' (sg l' cols') X' Y') : d'.f0 = d.f0 ∧ d'.f1 = d.f1 ∧ (∀ i, g d'.f2 i = c * g d.f2 i) ∧ X' = c * X := by
 have hm := tabL_mx (Vv l) (ws l) (ss l)
 have hm' := tabL_mx (Vv l') (ws l') (ss l')
 have hlen : (tb l').length = (tb l).length := by rw [hm.len, hm'.len, ew]
 have hv' := h'.vw
 rw [es] at hv' hs'
 have hcols : cols = cols' := cols_by hc hlen (fun i j hi hj => by
  rw [hm.at_ i j (by rw [← hm.len]; exact hi) hj, hm'.at_ i j (by rw [ew, ← hm.len]; exact hi) (by rw [es]; exact hj), ev, ew, es]) h.vw hv' hs hs'
 subst hcols
 have hX : X' = c * X := by
  have h1 := k'.om
  rw [ew] at h1
  exact h1.uniq (k.om.scale (Int.le_of_lt hc) (fun w _ s => ev w s))
 have hY : ∀ w ∈ ws l, Y' w = c * Y w := fun w hw => by
  have h1 := k'.y w (by rw [ew]; exact hw)
  rw [ew] at h1
  exact h1.uniq ((k.y w hw).scale (Int.le_of_lt hc) (fun w _ s => ev w s))
 have hσ : ∀ w, sg l' cols w = sg l cols w := fun w => by
  unfold sg
  rw [ew, es, ev]
  have : 0 < c * Vv l w (g (ss l) (g cols ((ws l).idxOf w)).toNat) ↔ 0 < Vv l w (g (ss l) (g cols ((ws l).idxOf w)).toNat) := by
   constructor
   ·intro h1
    rw [Int.mul_comm] at h1
    exact Int.pos_of_mul_pos_left h1 hc
   ·exact fun h1 => Int.mul_pos hc h1
  simp only [this]
 refine ⟨by rw [k'.who, k.who, ew], ext_g (by rw [k'.sl, k.sl, ew]) (fun i hi => ?_), fun i => ?_, hX⟩
 ·rw [k'.sl, ew] at hi
  rw [k'.slot i (by rw [ew]; exact hi), k.slot i hi, ew, hσ]
 ·by_cases hi : i < (ws l).length
  ·rw [k'.price i (by rw [ew]; exact hi), k.price i hi, ew, hσ]
   cases sg l cols (g (ws l) i) with
   | none => simp
   | some s =>
    show Y' _ - (X' - Vv l' _ s) = c * (Y _ - (X - Vv l _ s))
    rw [hY _ (g_mem hi), hX, ev, Int.mul_sub, Int.mul_sub]
  ·have z : ∀ a : List Int, a.length = (ws l).length → g a i = 0 := fun a ha => by
    show a.getD i 0 = 0
    rw [List.getD_eq_getElem?_getD, List.getElem?_eq_none (by omega)]; rfl
   rw [z _ (by rw [k'.pl, ew]), z _ k.pl, Int.mul_zero]

/-! ### sanity -/
theorem valid_range {l : List S48} (hn : l.length ≤ 64) (hd : (l.map key).Nodup) (hr : allR l = false) : Ev (fun k => auction_Valid.f k l) false := by
 have hv := values_ev (l := l) (by omega)
 have hlen : (vmap l).length = l.length := by
  have := (puts_len (f := key) (v := (·.f2)) l []).2.2 ⟨hd, fun x _ hx => by simp at hx⟩
  simpa using this
 have h1 := valid_l1 l (by omega) l.length 0 rfl
 rw [List.drop_zero, if_neg (by rw [hr]; decide)] at h1
 refine Ev.bind (r := false) ?_ ?_
 ·refine Ev.congr (fun k => if_neg (by omega)) (Ev.bind hv (Ev.const ?_))
  rw [hlen]; simp
 ·exact Ev.congr (fun k => if_neg (by decide)) (Ev.bind h1 (Ev.const rfl))
theorem valid_twice {l : List S48} (hn : l.length ≤ 64) (hd : (vmap l).length ≠ l.length) : Ev (fun k => auction_Valid.f k l) false := by
 have hv := values_ev (l := l) (by omega)
 refine Ev.bind (r := true) ?_ (Ev.congr (fun k => if_pos rfl) (Ev.const rfl))
 refine Ev.congr (fun k => if_neg (by omega)) (Ev.bind hv (Ev.const ?_))
 simp only [Option.some.injEq, bne_iff_ne, ne_eq]
 omega
abbrev sb : List S48 := [⟨2, 6, 3⟩, ⟨1, 5, 10⟩, ⟨2, 5, 7⟩]
theorem sb_ws : ws sb = [1, 2] := lt_uniq (dist_lt _) (by decide) (fun x => by
 rw [ws_of]
 simp only [List.mem_cons, List.not_mem_nil, or_false]
 constructor
 ·rintro ⟨y, rfl | rfl | rfl, rfl⟩ <;> simp
 ·rintro (rfl | rfl)
  ·exact ⟨_, .inr (.inl rfl), rfl⟩
  ·exact ⟨_, .inl rfl, rfl⟩)
theorem sb_ss : ss sb = [5, 6] := lt_uniq (dist_lt _) (by decide) (fun x => by
 rw [ss_of]
 simp only [List.mem_cons, List.not_mem_nil, or_false]
 constructor
 ·rintro ⟨y, rfl | rfl | rfl, rfl⟩ <;> simp
 ·rintro (rfl | rfl)
  ·exact ⟨_, .inr (.inl rfl), rfl⟩
  ·exact ⟨_, .inl rfl, rfl⟩)
theorem sb_ok : okB sb := ⟨by decide, by decide, by decide, by rw [sb_ws]; decide, by rw [sb_ss]; decide⟩
theorem sb_tb : tb sb = [[10, 0], [7, 3]] := by
 unfold tb
 rw [sb_ws, sb_ss]
 decide
theorem ws_empty : ws [] = [] := lt_uniq (dist_lt _) List.Pairwise.nil (fun x => by rw [ws_of]; simp)
theorem ss_empty : ss [] = [] := lt_uniq (dist_lt _) List.Pairwise.nil (fun x => by rw [ss_of]; simp)
theorem nil_ok : okB [] := ⟨by decide, by decide, by decide, by rw [ws_empty]; decide, by rw [ss_empty]; decide⟩
theorem om_one {V : Int → Int → Int} {w x : Int} (h0 : 0 ≤ x) (h1 : ∀ s, V w s ≤ x) {s : Int} (h2 : V w s = x) : Om V [w] x := by
 refine ⟨fun σ _ => ?_, fun v => some s, fun v hv v' hv' _ _ _ => ?_, ?_⟩
 ·show ([w].map _).sum ≤ x
  simp only [List.map_cons, List.map_nil, List.sum_cons, List.sum_nil, pay]
  cases σ w with
  | none => show (0 : Int) + 0 ≤ x; omega
  | some t => have := h1 t; show V w t + 0 ≤ x; omega
 ·rw [List.mem_singleton.1 hv, List.mem_singleton.1 hv']
 ·show ([w].map _).sum = x
  simp only [List.map_cons, List.map_nil, List.sum_cons, List.sum_nil, pay]
  omega
theorem sb_Vb (w x : Int) (h0 : 0 ≤ x) (h : ∀ y ∈ sb, y.f0 = w → y.f2 ≤ x) (s : Int) : Vv sb w s ≤ x := by
 rcases Vv_mem (l := sb) (w := w) (s := s) with ⟨y, hy, e, e2⟩ | ⟨_, h2⟩
 ·rw [e2]; exact h y hy (congrArg Prod.fst e)
 ·rw [h2]; exact h0
theorem sb_solved : ∃ e, Solved [[10, 0], [7, 3]] 2 [0, 1] e 13 := by
 have hv : Vw [[10, 0], [7, 3]] 2 := by
  have := sb_ok.vw
  rw [sb_tb, sb_ss] at this
  exact this
 obtain ⟨c, d, V, h1, h2⟩ := solve hv (k := 800) (Nat.le_refl _)
 have h3 : (assign_Solve.f 800 [[10, 0], [7, 3]]).map (·.1) = some [0, 1] := by kernel_rfl
 rw [h1] at h3
 have e : c = [0, 1] := Option.some.inj h3
 subst e
 have : V = 13 := by rw [← h2.val]; kernel_rfl
 subst this
 exact ⟨d, h2⟩
theorem sb_clear : Ev (fun k => auction_Clear.f k sb) ((⟨[1, 2], [5, 6], [4, 0]⟩ : S29), 0) := by
 obtain ⟨d, cols, X, Y, h1, ⟨e, h2⟩, h3⟩ := clear_ev sb_ok
 obtain ⟨e', h4⟩ := sb_solved
 have hv := sb_ok.vw
 rw [sb_tb, sb_ss] at h2 hv
 have hcols : cols = [0, 1] := cols_by (c := 1) (by decide) rfl (fun i j _ _ => by rw [Int.one_mul]) hv hv h2 h4
 have hX : X = 13 := h2.opt.uniq h4.opt
 subst hcols hX
 have k0 := h3.who
 have k1 := h3.sl
 have k2 := h3.pl
 have k3 := h3.slot
 have k4 := h3.price
 have k5 := h3.y
 rw [sb_ws] at k0 k1 k2 k3 k4 k5
 have s1 : sg sb [0, 1] 1 = some 5 := by
  unfold sg
  rw [sb_ws, sb_ss]; decide
 have s2 : sg sb [0, 1] 2 = some 6 := by
  unfold sg
  rw [sb_ws, sb_ss]; decide
 have y1 : Y 1 = 7 := (k5 1 (by simp)).uniq (show Om (Vv sb) [2] 7 from om_one (by decide) (sb_Vb 2 7 (by decide) (by decide)) (s := 5) (by decide))
 have y2 : Y 2 = 10 := (k5 2 (by simp)).uniq (show Om (Vv sb) [1] 10 from om_one (by decide) (sb_Vb 1 10 (by decide) (by decide)) (s := 5) (by decide))
 have a0 := k3 0 (by decide)
 have a1 := k3 1 (by decide)
 have b0 := k4 0 (by decide)
 have b1 := k4 1 (by decide)
 have g0 : g [1, (2:Int)] 0 = 1 := rfl
 have g1 : g [1, (2:Int)] 1 = 2 := rfl
 rw [g0, s1] at a0 b0
 rw [g1, s2] at a1 b1
 have e1 : d.f1 = [5, 6] := ext_g k1 (fun i hi => by
  rw [k1] at hi
  have hi : i < 2 := hi
  match i, hi with
  | 0, _ => exact a0
  | 1, _ => exact a1)
 have v1 : Vv sb 1 5 = 10 := by decide
 have v2 : Vv sb 2 6 = 3 := by decide
 have e2 : d.f2 = [4, 0] := ext_g k2 (fun i hi => by
  rw [k2] at hi
  have hi : i < 2 := hi
  match i, hi with
  | 0, _ =>
   rw [b0]
   show Y 1 - (13 - Vv sb 1 5) = 4
   rw [y1, v1]; rfl
  | 1, _ =>
   rw [b1]
   show Y 2 - (13 - Vv sb 2 6) = 0
   rw [y2, v2]; rfl)
 obtain ⟨f0, f1, f2⟩ := d
 simp only at k0 e1 e2
 subst k0 e1 e2
 exact h1
theorem sb_tab : Ev (fun k => auction_Tabulate.f k sb) ([1, 2], [5, 6], [[10, 0], [7, 3]]) := by
 have := tabulate_ev sb_ok
 rw [sb_ws, sb_ss, sb_tb] at this
 exact this
theorem nil_clear : ∃ d : S29, d.f0 = [] ∧ Ev (fun k => auction_Clear.f k []) (d, 0) := by
 obtain ⟨d, cols, X, Y, h1, ⟨e, h2⟩, h3⟩ := clear_ev nil_ok
 exact ⟨d, by rw [h3.who, ws_empty], h1⟩
theorem bad_clear {l : List S48} (h : Ev (fun k => auction_Valid.f k l) false) : Ev (fun k => auction_Clear.f k l) ((⟨[], [], []⟩ : S29), 1) :=
 Ev.bind h (Ev.congr (fun k => if_neg (by decide)) (Ev.const rfl))
theorem sanity_ev : Ev (fun k => armillarylaw23_sanity.f k) true := by
 obtain ⟨d3, d0, hd3⟩ := nil_clear
 have h4 := bad_clear (valid_twice (l := [⟨1, 1, 1⟩, ⟨1, 1, 2⟩]) (by decide) (by decide))
 have hu : ∀ w, Ev (fun k => auction_Utility.f k sb ⟨[1, 2], [5, 6], [4, 0]⟩ w) (if w ∈ [1, (2:Int)] then Vv sb w (g [5, 6] ([1, (2:Int)].idxOf w)) - g [4, 0] ([1, (2:Int)].idxOf w) else 0) := fun w =>
  utility_ev sb_ok (d := ⟨[1, 2], [5, 6], [4, 0]⟩) (by decide) (by decide) (by decide) (fun i => by
   match i with
   | 0 => decide
   | 1 => decide
   | n + 2 => show -100000000000 ≤ (0:Int) ∧ (0:Int) ≤ 100000000000; decide) w
 have u1 := hu 1
 have u2 := hu 2
 have u9 := hu 9
 have v1 : (if (1:Int) ∈ [1, (2:Int)] then Vv sb 1 (g [5, 6] ([1, (2:Int)].idxOf 1)) - g [4, 0] ([1, (2:Int)].idxOf 1) else 0) = 6 := by decide
 have v2 : (if (2:Int) ∈ [1, (2:Int)] then Vv sb 2 (g [5, 6] ([1, (2:Int)].idxOf 2)) - g [4, 0] ([1, (2:Int)].idxOf 2) else 0) = 3 := by decide
 have v9 : (if (9:Int) ∈ [1, (2:Int)] then Vv sb 9 (g [5, 6] ([1, (2:Int)].idxOf 9)) - g [4, 0] ([1, (2:Int)].idxOf 9) else 0) = 0 := by decide
 rw [v1] at u1
 rw [v2] at u2
 rw [v9] at u9
 have hw := welfare_ev sb_ok ⟨[1, 2], [5, 6], [4, 0]⟩ (by decide) (by decide)
 have w13 : sm (fun i => Vv sb (g [1, 2] i) (g [5, 6] i)) [1, (2:Int)].length = 13 := by decide
 rw [w13] at hw
 have hv := valid_ev sb_ok
 have hv1 := valid_range (l := [⟨1, 1, 0⟩]) (by decide) (by decide) (by decide)
 have hv2 := valid_range (l := [⟨1001, 1, 1⟩]) (by decide) (by decide) (by decide)
 have hs := sameA (a := ⟨[1, 2], [5, 6], [4, 0]⟩) (by decide) (by decide) (by decide) rfl
 refine Ev.bind sb_clear (Ev.bind sb_tab (Ev.bind hd3 (Ev.bind h4 (Ev.bind1 (r := false) rfl ?_))))
 refine Ev.congr (fun k => if_neg (by decide)) (Ev.bind (r := true) ?_ (Ev.const rfl))
 refine Ev.congr (fun k => if_pos rfl) (Ev.bind hs (Ev.congr (fun k => if_pos rfl) ?_))
 have hd0 : (d3.f0.length : Int) = 0 := by rw [d0]; rfl
 iterate 16 refine Ev.congr (fun k => if_pos (by decide)) ?_
 refine Ev.congr (fun k => if_pos rfl) ?_
 refine Ev.congr (fun k => if_pos hd0) (Ev.congr (fun k => if_pos rfl) ?_)
 refine Ev.bind u1 (Ev.congr (fun k => if_pos rfl) ?_)
 refine Ev.bind u2 (Ev.congr (fun k => if_pos rfl) ?_)
 refine Ev.bind u9 (Ev.congr (fun k => if_pos rfl) ?_)
 refine Ev.bind hw (Ev.congr (fun k => if_pos rfl) ?_)
 refine Ev.bind hv (Ev.congr (fun k => if_pos rfl) ?_)
 refine Ev.bind hv1 (Ev.congr (fun k => if_neg (by decide)) ?_)
 exact Ev.bind hv2 (Ev.const rfl)
end Go.Proofs.Ytihmbmeelheinaa.auc
namespace Go.Proofs.Ytihmbmeelheinaa.auc
open Go Go.Proofs.Ytihmbmeelheinaa Go.Proofs.Ytihmbmeelheinaa.RW Go.Proofs.Ytihmbmeelheinaa.hun
set_option linter.unusedVariables false
set_option maxRecDepth 100000
section
variable {l : List S48} {d : S29} {σ : Int → Option Int} {X : Int} {Y : Int → Int}
theorem Cl.len0 (k : Cl l d σ X Y) (h : okB l) : d.f0.length = (ws l).length ∧ d.f1.length = (ws l).length ∧ d.f2.length = (ws l).length ∧ (ws l).length ≤ 12 := ⟨by rw [k.who], k.sl, k.pl, h.nw⟩
theorem Cl.slot_neg (k : Cl l d σ X Y) (h : okB l) {i : Nat} (hi : i < (ws l).length) : (σ (g (ws l) i) = none ∧ g d.f1 i = -1) ∨ ∃ s, σ (g (ws l) i) = some s ∧ g d.f1 i = s ∧ 0 ≤ s ∧ 0 < Vv l (g (ws l) i) s := by
 have h1 := k.slot i hi
 cases e : σ (g (ws l) i) with
 | none => rw [e] at h1; exact .inl ⟨rfl, h1⟩
 | some s =>
  rw [e] at h1
  have h2 := k.pos _ _ e
  refine .inr ⟨s, rfl, h1, ?_, h2⟩
  rcases Vv_mem (l := l) (w := g (ws l) i) (s := s) with ⟨y, hy, e1, _⟩ | ⟨_, h3⟩
  ·have e2 : y.f1 = s := congrArg Prod.snd e1
   have := (h.rg y hy).2.1
   omega
  ·omega
end
theorem u8_wf {n : Int} (h : (Lit.int .u8 n).wf = true) : 0 ≤ n ∧ n < 256 := by
 simp [Lit.wf, IntKind.min, IntKind.max, IntKind.signed, IntKind.bits] at h
 omega
theorem u16_wf {n : Int} (h : (Lit.int .u16 n).wf = true) : 0 ≤ n ∧ n < 65536 := by
 simp [Lit.wf, IntKind.min, IntKind.max, IntKind.signed, IntKind.bits] at h
 omega
/-- A byte names one of n. -/
theorem pick {a : Int} {n : Nat} (ha : 0 ≤ a ∧ a < 256) (hn : 0 < n) : ∃ i, i < n ∧ (W .i64 a).tmod (n : Int) = ((i : Nat) : Int) := by
 rw [W64 (by omega) (by omega), Int.tmod_eq_emod_of_nonneg ha.1]
 have h1 := Int.emod_nonneg a (show (n : Int) ≠ 0 by omega)
 have h2 := Int.emod_lt_of_pos a (show (0 : Int) < (n : Int) by omega)
 exact ⟨(a % (n : Int)).toNat, by omega, by omega⟩
end Go.Proofs.Ytihmbmeelheinaa.auc
