/- Words of the walk, the functions' walks and plain laws, joined; no conditions beyond those that the theorems name. -/
import Derived.Test.YtieakigoinebdaaX33
import Derived.Test.YtieakigoinebdaaX34
import Derived.Test.YtieakigoinebdaaX32
import Derived.ChangeArms
import Derived.DataReads
import Derived.OpenShut
namespace Go.Proofs.Ytieakigoinebdaa
open Go Go.RowKit Go.Proofs.Ytieakigoinebdaa.RW
set_option linter.unusedVariables false
set_option maxRecDepth 1000000

/-! ### numbers of messages -/
def slotOf (x : S32) : Int × Int × Int := (x.f0, x.f2, x.f3)
def cntB (b : VK) (c : List S32) : Nat := (c.filter fun x => decide (bkey x = b)).length
theorem cntB_snoc (b : VK) (c : List S32) (x : S32) : cntB b (c ++ [x]) = cntB b c + if bkey x = b then 1 else 0 := by
 unfold cntB
 rw [List.filter_append, List.length_append]
 by_cases h : bkey x = b <;> simp [h]
/-- No two votes of one kind, slot and sender; senders are 0 to n - 1. -/
structure Good (n : Int) (c : List S32) : Prop where
 nd : c.Pairwise (fun x y => vkey x ≠ vkey y)
 rg : ∀ x ∈ c, 0 ≤ x.f1 ∧ x.f1 < n
theorem Good.prefix {n : Int} {c d : List S32} (h : Good n (c ++ d)) : Good n c :=
 ⟨(List.pairwise_append.1 h.nd).1, fun x hx => h.rg x (List.mem_append_left _ hx)⟩
theorem nodup_bound : ∀ (n : Nat) (l : List Int), l.Nodup → (∀ x ∈ l, 0 ≤ x ∧ x < (n : Int)) → l.length ≤ n
 | 0, l, _, h => by
  cases l with
  | nil => exact Nat.le_refl _
  | cons x l => have := h x List.mem_cons_self; omega
 | n + 1, l, hn, h => by
  have h1 := nodup_bound n (l.filter fun x => decide (x ≠ (n : Int))) (hn.filter _) (fun x hx => by
   obtain ⟨h2, h3⟩ := List.mem_filter.1 hx
   have := h x h2
   simp at h3
   omega)
  have h2 : l.length ≤ (l.filter fun x => decide (x ≠ (n : Int))).length + 1 := by
   clear h1 h
   induction l with
   | nil => simp
   | cons y l ih =>
    obtain ⟨hy, hl⟩ := List.nodup_cons.1 hn
    by_cases e : y = (n : Int)
    ·have : l.filter (fun x => decide (x ≠ (n : Int))) = l := by
      rw [List.filter_eq_self]
      intro a ha
      simp only [decide_eq_true_eq]
      rintro rfl
      exact hy (by rw [e]; exact ha)
     rw [List.filter_cons_of_neg (by simp [e]), this, List.length_cons]
     exact Nat.le_refl _
    ·rw [List.filter_cons_of_pos (by simp [e])]
     have := ih hl
     simp only [List.length_cons]
     omega
  omega
theorem slot_bound {n : Nat} {c : List S32} (h : Good (n : Int) c) (q : Int × Int × Int) : (c.filter fun x => decide (slotOf x = q)).length ≤ n := by
 have hnd : ((c.filter fun x => decide (slotOf x = q)).map (·.f1)).Nodup := by
  rw [List.Nodup, List.pairwise_map]
  refine (h.nd.filter _).imp_of_mem ?_
  intro x y hx hy hxy e
  have h1 : slotOf x = q := by simpa using (List.mem_filter.1 hx).2
  have h2 : slotOf y = q := by simpa using (List.mem_filter.1 hy).2
  apply hxy
  have h3 := h1.trans h2.symm
  unfold slotOf at h3
  injection h3 with h4 h5
  injection h5 with h5 h6
  unfold vkey
  rw [h4, e, h5, h6]
 have := nodup_bound n _ hnd (fun x hx => by
  obtain ⟨y, hy, rfl⟩ := List.mem_map.1 hx
  exact h.rg y (List.mem_filter.1 hy).1)
 rwa [List.length_map] at this
theorem two_sums {n : Nat} {c : List S32} (h : Good (n : Int) c) (a v q s s' : Int) (hs : s ≠ s') : cntB (a, v, q, s) c + cntB (a, v, q, s') c ≤ n := by
 refine Nat.le_trans ?_ (slot_bound h (a, v, q))
 unfold cntB
 clear h
 induction c with
 | nil => simp
 | cons x c ih =>
  by_cases h1 : bkey x = (a, v, q, s)
  ·have h2 : bkey x ≠ (a, v, q, s') := fun e => hs (by rw [h1] at e; injection e with _ e; injection e with _ e; injection e with _ e)
   have h3 : slotOf x = (a, v, q) := by unfold bkey at h1; unfold slotOf; injection h1 with e1 e2; injection e2 with e2 e3; injection e3 with e3 e4; rw [e1, e2, e3]
   simp only [List.filter_cons, h1, h2, h3, decide_true, decide_false, if_true, Bool.false_eq_true, if_false, List.length_cons]
   have hne : ¬ ((a, v, q, s) = (a, v, q, s')) := fun e => h2 (h1.trans e)
   simp only [hne, decide_false, Bool.false_eq_true, if_false]
   omega
  ·by_cases h2 : bkey x = (a, v, q, s')
   ·have h3 : slotOf x = (a, v, q) := by unfold bkey at h2; unfold slotOf; injection h2 with e1 e2; injection e2 with e2 e3; injection e3 with e3 e4; rw [e1, e2, e3]
    have hne : ¬ ((a, v, q, s') = (a, v, q, s)) := fun e => h1 (h2.trans e)
    simp only [List.filter_cons, h2, h3, hne, decide_true, decide_false, if_true, Bool.false_eq_true, if_false, List.length_cons]
    omega
   ·simp only [List.filter_cons, h1, h2, decide_false, Bool.false_eq_true, if_false]
    split
    ·simp only [List.length_cons]; omega
    ·exact ih
theorem cntB_le {n : Nat} {c : List S32} (h : Good (n : Int) c) (b : VK) : cntB b c ≤ n := by
 obtain ⟨a, v, q, s⟩ := b
 have := two_sums h a v q s (s + 1) (by omega)
 omega

/-! ### the tally, as numbers -/
theorem snoc_ind {α : Type} {p : List α → Prop} (nil : p []) (snoc : ∀ l x, p l → p (l ++ [x])) (l : List α) : p l := by
 have h : ∀ l : List α, p l.reverse := by
  intro l
  induction l with
  | nil => exact nil
  | cons x l ih => rw [List.reverse_cons]; exact snoc _ x ih
 have := h l.reverse
 rwa [List.reverse_reverse] at this
theorem tst_votes {n : Nat} (hn : n ≤ 13) (sz : Int) : ∀ (c : List S32), Good (n : Int) c → ∀ b, (mget (tst sz c).1 b).getD 0 = (cntB b c : Int) := by
 intro c
 induction c using snoc_ind with
 | nil => intro _ b; rfl
 | snoc c x ih =>
  intro h b
  have hc := h.prefix
  rw [tst_snoc, cntB_snoc]
  unfold bump
  simp only
  rw [ih hc (bkey x)]
  have hle := cntB_le hc (bkey x)
  rw [W64 (by omega) (by omega)]
  by_cases e : bkey x = b
  ·subst e
   rw [mput_get, if_pos rfl]
   simp
  ·rw [mput_other _ _ _ _ (fun e2 => e e2.symm), ih hc b, if_neg e]
   simp
theorem dkey_eq {x : S32} {a v q : Int} : dkey x = (a, 0, v, q) ↔ slotOf x = (a, v, q) := by
 unfold dkey slotOf
 constructor
 ·intro h; injection h with e1 e2; injection e2 with _ e2; injection e2 with e2 e3; rw [e1, e2, e3]
 ·intro h; injection h with e1 e2; injection e2 with e2 e3; rw [e1, e2, e3]
theorem bkey_eq {x : S32} {a v q s : Int} : bkey x = (a, v, q, s) ↔ slotOf x = (a, v, q) ∧ x.f4 = s := by
 unfold bkey slotOf
 constructor
 ·intro h; injection h with e1 e2; injection e2 with e2 e3; injection e3 with e3 e4; exact ⟨by rw [e1, e2, e3], e4⟩
 ·rintro ⟨h, e4⟩; injection h with e1 e2; injection e2 with e2 e3; rw [e1, e2, e3, e4]
/-- A sum is decided just where as many as sz votes are for it. -/
theorem tst_dec {n sz : Nat} (hn : n ≤ 13) (h1 : 1 ≤ sz) (h2 : n < 2 * sz) : ∀ (c : List S32), Good (n : Int) c → ∀ (a v q s : Int), mget (tst (sz : Int) c).2 (a, 0, v, q) = some s ↔ sz ≤ cntB (a, v, q, s) c := by
 intro c
 induction c using snoc_ind with
 | nil =>
  intro _ a v q s
  simp only [tst, List.foldl_nil, mget, cntB, List.filter_nil, List.length_nil]
  constructor
  ·intro h; cases h
  ·intro h; omega
 | snoc c x ih =>
  intro h a v q s
  have hc := h.prefix
  rw [tst_snoc, cntB_snoc]
  unfold bump
  simp only
  rw [tst_votes hn (sz : Int) c hc (bkey x)]
  have hle := cntB_le hc (bkey x)
  rw [W64 (by omega) (by omega)]
  by_cases hx : dkey x = (a, 0, v, q)
  ·have hsl := dkey_eq.1 hx
   have hbx : bkey x = (a, v, q, x.f4) := bkey_eq.2 ⟨hsl, rfl⟩
   by_cases hsz : ((cntB (bkey x) c : Int) + 1) = (sz : Int)
   ·rw [if_pos hsz, hx, mput_get]
    by_cases hs : x.f4 = s
    ·subst hs
     rw [if_pos hbx]
     rw [hbx] at hsz
     constructor
     ·intro _; omega
     ·intro _; rfl
    ·rw [if_neg (fun e => hs (bkey_eq.1 e).2)]
     have h3 := two_sums h a v q x.f4 s hs
     rw [cntB_snoc, cntB_snoc, if_pos hbx, if_neg (fun e => hs (bkey_eq.1 e).2)] at h3
     rw [hbx] at hsz
     constructor
     ·intro e; exact absurd (Option.some.inj e) hs
     ·intro e; omega
   ·rw [if_neg hsz, ih hc a v q s]
    by_cases hs : x.f4 = s
    ·subst hs
     rw [if_pos hbx]
     rw [hbx] at hsz
     omega
    ·rw [if_neg (fun e => hs (bkey_eq.1 e).2)]
     omega
  ·have hb : bkey x ≠ (a, v, q, s) := fun e => hx (dkey_eq.2 (bkey_eq.1 e).1)
   rw [if_neg hb]
   split
   ·rw [mput_other _ _ _ _ (fun e => hx e.symm), ih hc a v q s]; omega
   ·rw [ih hc a v q s]; omega

/-! ### which messages count -/
def cntP (vb : S32 → Bool) : List S32 → List (VK × Bool) → List S32
 | [], _ => []
 | m :: r, seen => if (mget seen (vkey m)).getD false = true then cntP vb r seen else if vb m = true then m :: cntP vb r (mput seen (vkey m) true) else cntP vb r seen
theorem cnt_eq (k : Nat) (n : Int) (vb : S32 → Bool) : ∀ (l : List S32) (seen : List (VK × Bool)), (∀ m ∈ l, quorum_group_valid.f k n m = some (vb m)) → cnt k n l seen = some (cntP vb l seen)
 | [], _, _ => rfl
 | m :: r, seen, h => by
  have hr : ∀ m ∈ r, quorum_group_valid.f k n m = some (vb m) := fun x hx => h x (List.mem_cons_of_mem _ hx)
  simp only [cnt, cntP, h m List.mem_cons_self, Option.bind_some]
  split
  ·exact cnt_eq k n vb r seen hr
  ·split
   ·rw [cnt_eq k n vb r _ hr]; rfl
   ·exact cnt_eq k n vb r seen hr
theorem tally_eq {k : Nat} {n : Int} {vb : S32 → Bool} {l : List S32} {sz : Int} (h : ∀ m ∈ l, quorum_group_valid.f k n m = some (vb m)) (hs : quorum_Size.f n = some sz) : quorum_tally.f k l n = some (tst sz (cntP vb l [])).2 := by
 unfold quorum_tally.f
 rw [cnt_eq k n vb l [] h, Option.bind_some, hs]
 rfl
/-- The votes that were seen, behind a list. -/
def seenP (vb : S32 → Bool) : List S32 → List (VK × Bool) → List (VK × Bool)
 | [], seen => seen
 | m :: r, seen => if (mget seen (vkey m)).getD false = true then seenP vb r seen else if vb m = true then seenP vb r (mput seen (vkey m) true) else seenP vb r seen
theorem cntP_append (vb : S32 → Bool) (l2 : List S32) : ∀ (l : List S32) (seen : List (VK × Bool)), cntP vb (l ++ l2) seen = cntP vb l seen ++ cntP vb l2 (seenP vb l seen)
 | [], _ => rfl
 | m :: r, seen => by
  simp only [List.cons_append, cntP, seenP]
  split
  ·exact cntP_append vb l2 r seen
  ·split
   ·rw [cntP_append vb l2 r]; rfl
   ·exact cntP_append vb l2 r seen
theorem cntP_mem (vb : S32 → Bool) : ∀ (l : List S32) (seen : List (VK × Bool)), ∀ x ∈ cntP vb l seen, x ∈ l ∧ vb x = true ∧ (mget seen (vkey x)).getD false = false
 | [], _, x, h => by cases h
 | m :: r, seen, x, h => by
  simp only [cntP] at h
  split at h
  ·have := cntP_mem vb r seen x h
   exact ⟨List.mem_cons_of_mem _ this.1, this.2⟩
  ·rename_i hs
   split at h
   ·rename_i hv
    rcases List.mem_cons.1 h with rfl | h
    ·exact ⟨List.mem_cons_self, hv, by simpa using hs⟩
    ·obtain ⟨h1, h2, h3⟩ := cntP_mem vb r _ x h
     refine ⟨List.mem_cons_of_mem _ h1, h2, ?_⟩
     by_cases e : vkey x = vkey m
     ·rw [e, mput_get] at h3; simp at h3
     ·rwa [mput_other _ _ _ _ e] at h3
   ·have := cntP_mem vb r seen x h
    exact ⟨List.mem_cons_of_mem _ this.1, this.2⟩
theorem cntP_nd (vb : S32 → Bool) : ∀ (l : List S32) (seen : List (VK × Bool)), (cntP vb l seen).Pairwise (fun x y => vkey x ≠ vkey y)
 | [], _ => List.Pairwise.nil
 | m :: r, seen => by
  simp only [cntP]
  split
  ·exact cntP_nd vb r seen
  ·split
   ·refine List.pairwise_cons.2 ⟨fun y hy e => ?_, cntP_nd vb r _⟩
    have := (cntP_mem vb r _ y hy).2.2
    rw [← e, mput_get] at this
    simp at this
   ·exact cntP_nd vb r seen
theorem cntP_good {n : Int} {vb : S32 → Bool} (hv : ∀ x, vb x = true → 0 ≤ x.f1 ∧ x.f1 < n) (l : List S32) (seen : List (VK × Bool)) : Good n (cntP vb l seen) :=
 ⟨cntP_nd vb l seen, fun x hx => hv x (cntP_mem vb l seen x hx).2.1⟩
theorem cntB_append (b : VK) (c d : List S32) : cntB b (c ++ d) = cntB b c + cntB b d := by
 unfold cntB
 rw [List.filter_append, List.length_append]
/-- The size of a quorum. -/
def qsz (n : Int) : Int := n - (n - 1) / 3
theorem size_eq {n : Int} (h1 : 1 ≤ n) (h2 : n ≤ 13) : quorum_Size.f n = some (qsz n) ∧ quorum_MaxFaulty.f n = some ((n - 1) / 3) := by
 have h4 : quorum_group_possible.f n = some true := by
  unfold quorum_group_possible.f
  rw [if_pos (by omega)]
  simp [quorum_group_possible.k1, h2]
 have h5 : quorum_MaxFaulty.f n = some ((n - 1) / 3) := by
  unfold quorum_MaxFaulty.f
  rw [h4]
  simp only [Option.bind_some, if_true]
  rw [W64 (n := n - 1) (by omega) (by omega), Int.tdiv_eq_ediv_of_nonneg (by omega), W64 (by omega) (by omega)]
 refine ⟨?_, h5⟩
 unfold quorum_Size.f
 rw [h4, h5]
 simp only [Option.bind_some, if_true]
 rw [W64 (by omega) (by omega)]
 rfl

/-! ### messages that are made -/
theorem and255 (x : Int) : 0 ≤ bAnd .i64 x 255 ∧ bAnd .i64 x 255 ≤ 255 := by
 have h : (BitVec.ofInt 64 x &&& BitVec.ofInt 64 255).toNat ≤ 255 := by
  rw [BitVec.toNat_and]
  have : (BitVec.ofInt 64 255).toNat = 255 := by decide
  rw [this]
  exact Nat.and_le_right
 have e : bAnd .i64 x 255 = W .i64 ((BitVec.ofInt 64 x &&& BitVec.ofInt 64 255).toNat : Int) := rfl
 rw [e, W64 (by omega) (by omega)]
 omega
theorem possible_eq {n : Int} (h1 : 1 ≤ n) (h2 : n ≤ 13) : quorum_group_possible.f n = some true := by
 unfold quorum_group_possible.f
 rw [if_pos (by omega)]
 simp [quorum_group_possible.k1, h2]
theorem leader_of {n v : Int} (h1 : 1 ≤ n) (h2 : n ≤ 13) (h3 : 0 ≤ v) : quorum_Leader.f n v = some (v.tmod n) := by
 have h5 : decide (v < 0) = false := by simp; omega
 unfold quorum_Leader.f
 rw [possible_eq h1 h2]
 simp only [Option.bind_some, if_true, h5]
 unfold quorum_Leader.k1
 simp [show n ≠ 0 from by omega]
theorem leader29_of {n v : Int} (h1 : 1 ≤ n) (h2 : n ≤ 13) (h3 : 0 ≤ v) : armillaryref29_Leader.f n v = some (v.tmod n) := by
 have h4 : armillaryref29_replicas.f n = some true := by
  unfold armillaryref29_replicas.f
  rw [if_pos (by omega)]
  simp [armillaryref29_replicas.k1, h2]
 have h5 : decide (v < 0) = false := by simp; omega
 unfold armillaryref29_Leader.f
 rw [h4]
 simp only [Option.bind_some, if_true, h5]
 unfold armillaryref29_Leader.k1
 simp [show n ≠ 0 from by omega]
theorem enc1 (k : Nat) : codec_EncodeEntry.f (k + 60) (⟨1, (⟨#[107]⟩ : ByteArray), []⟩ : S30) = some ([2, 2, 107, 0], 0) := by kernel_rfl
theorem enc2 (k : Nat) : codec_EncodeEntry.f (k + 60) (⟨2, (⟨#[107]⟩ : ByteArray), []⟩ : S30) = some ([4, 2, 107, 0], 0) := by kernel_rfl
theorem sum1 (k : Nat) : armillaryref29_Sum.f (k + 60) (⟨1, (⟨#[107]⟩ : ByteArray), []⟩ : S30) = some (247493013, true) := by kernel_rfl
theorem sum2 (k : Nat) : armillaryref29_Sum.f (k + 60) (⟨2, (⟨#[107]⟩ : ByteArray), []⟩ : S30) = some (732638793, true) := by kernel_rfl
theorem ck1 : codec_Checksum.f [2, 2, 107, 0] = some 247493013 := by kernel_rfl
theorem ck2 : codec_Checksum.f [4, 2, 107, 0] = some 732638793 := by kernel_rfl
theorem bare_z (x : S32) (h : x.f5 = ⟨0, ⟨#[]⟩, []⟩) : quorum_bare.f x = some true := by
 unfold quorum_bare.f
 rw [h]
 simp [quorum_bare.k1]
theorem valid_rg {k : Nat} {n : Int} {x : S32} (h : quorum_group_valid.f k n x = some true) : 0 ≤ x.f1 ∧ x.f1 < n := by
 unfold quorum_group_valid.f at h
 cases hp : quorum_group_possible.f n with
 | none => rw [hp] at h; cases h
 | some b =>
  rw [hp] at h
  simp only [Option.bind_some] at h
  by_cases hb : b = true
  ·rw [if_pos hb] at h
   by_cases h1 : x.f1 < 0
   ·rw [if_pos h1] at h
    simp [quorum_group_valid.k4] at h
   ·rw [if_neg h1] at h
    by_cases h2 : x.f1 ≥ n
    ·rw [if_pos h2] at h
     simp [quorum_group_valid.k4] at h
    ·exact ⟨by omega, by omega⟩
  ·rw [if_neg hb] at h
   simp [quorum_group_valid.k4] at h
theorem valid_in {k : Nat} {n : Int} {x : S32} (h1 : 1 ≤ n) (h2 : n ≤ 13) (a1 : 0 ≤ x.f1) (a2 : x.f1 < n) (b1 : 0 ≤ x.f2) (b2 : x.f2 ≤ 2) (c1 : 0 ≤ x.f3) (c2 : x.f3 ≤ 2) : quorum_group_valid.f k n x = quorum_group_valid.k4 k n x false := by
 unfold quorum_group_valid.f
 rw [possible_eq h1 h2]
 simp only [Option.bind_some, if_true]
 rw [if_neg (by omega), if_neg (by omega), if_neg (by omega), if_neg (by omega), if_neg (by omega), show decide (x.f3 ≥ 1000) = false from by simp; omega, Option.bind_some]
theorem made_ok (m : S32) (hm : 0 ≤ m.f4) {n : Int} (h1 : 1 ≤ n) (h2 : n ≤ 13) : ∃ x, (∀ k, armillaryref29_Made.f (k + 60) m n = some x) ∧ ∀ k, quorum_group_valid.f (k + 60) n x = some true := by
 obtain ⟨z0, z1⟩ := and255 m.f0
 obtain ⟨y0, y1⟩ := and255 m.f1
 obtain ⟨v0, v1⟩ := and255 m.f2
 obtain ⟨q0, q1⟩ := and255 m.f3
 obtain ⟨kd, hkd⟩ : ∃ kd, W .i64 (1 + (bAnd .i64 m.f0 255).tmod 4) = kd := ⟨_, rfl⟩
 obtain ⟨fr, hfr⟩ : ∃ fr, (bAnd .i64 m.f1 255).tmod n = fr := ⟨_, rfl⟩
 obtain ⟨vw, hvw⟩ : ∃ vw, (bAnd .i64 m.f2 255).tmod 3 = vw := ⟨_, rfl⟩
 obtain ⟨sq, hsq⟩ : ∃ sq, (bAnd .i64 m.f3 255).tmod 3 = sq := ⟨_, rfl⟩
 have kd1 : 1 ≤ kd ∧ kd ≤ 4 := by
  rw [Int.tmod_eq_emod_of_nonneg z0, W64 (by omega) (by omega)] at hkd
  omega
 have fr1 : 0 ≤ fr ∧ fr < n := by
  rw [Int.tmod_eq_emod_of_nonneg y0] at hfr
  rw [← hfr]
  exact ⟨Int.emod_nonneg _ (by omega), Int.emod_lt_of_pos _ (by omega)⟩
 have vw1 : 0 ≤ vw ∧ vw ≤ 2 := by
  rw [Int.tmod_eq_emod_of_nonneg v0] at hvw
  omega
 have sq1 : 0 ≤ sq ∧ sq ≤ 2 := by
  rw [Int.tmod_eq_emod_of_nonneg q0] at hsq
  omega
 have lr1 : 0 ≤ vw.tmod n ∧ vw.tmod n < n := by
  rw [Int.tmod_eq_emod_of_nonneg vw1.1]
  exact ⟨Int.emod_nonneg _ (by omega), Int.emod_lt_of_pos _ (by omega)⟩
 -- the entry
 obtain ⟨eb, hek, bs, sm, hs, he, hck⟩ : ∃ eb, W .i64 (1 + W .i64 (m.f4.tmod 2)) = eb ∧ ∃ bs sm, (∀ k, armillaryref29_Sum.f (k + 60) (⟨eb, (⟨#[107]⟩ : ByteArray), []⟩ : S30) = some (sm, true)) ∧ (∀ k, codec_EncodeEntry.f (k + 60) (⟨eb, (⟨#[107]⟩ : ByteArray), []⟩ : S30) = some (bs, 0)) ∧ codec_Checksum.f bs = some sm := by
  rw [Int.tmod_eq_emod_of_nonneg hm, W64 (n := m.f4 % 2) (by omega) (by omega), W64 (by omega) (by omega)]
  rcases Int.emod_two_eq m.f4 with h | h
  ·rw [h]; exact ⟨1, rfl, _, _, sum1, enc1, ck1⟩
  ·rw [h]; exact ⟨2, rfl, _, _, sum2, enc2, ck2⟩
 by_cases k1 : kd = 1
 ·refine ⟨⟨kd, vw.tmod n, vw, sq, sm, ⟨eb, ⟨#[107]⟩, []⟩⟩, fun k => ?_, fun k => ?_⟩
  ·unfold armillaryref29_Made.f
   rw [if_neg (by omega), hek, hs k, Option.bind_some, hkd, if_pos k1, hvw, leader29_of h1 h2 vw1.1, hsq]
   simp only [Option.bind_some, armillaryref29_Made.k1, hkd, hvw]
  ·rw [valid_in h1 h2 lr1.1 lr1.2 vw1.1 vw1.2 sq1.1 sq1.2]
   unfold quorum_group_valid.k4
   simp only [Bool.false_eq_true, if_false]
   rw [if_pos k1, he k, Option.bind_some, if_pos rfl, leader_of h1 h2 vw1.1]
   simp only [Option.bind_some, if_true, hck, quorum_group_valid.k1, beq_self_eq_true]
 ·by_cases k4 : kd = 4
  ·refine ⟨⟨kd, fr, vw, 0, 0, ⟨0, ⟨#[]⟩, []⟩⟩, fun k => ?_, fun k => ?_⟩
   ·unfold armillaryref29_Made.f
    rw [if_neg (by omega), hek, hs k, Option.bind_some, hkd, if_neg k1, if_pos k4]
    simp only [Option.bind_some, armillaryref29_Made.k1, armillaryref29_Made.k2, hkd, hvw, hfr]
   ·rw [valid_in h1 h2 fr1.1 fr1.2 vw1.1 vw1.2 (Int.le_refl 0) (show (0 : Int) ≤ 2 by decide)]
    unfold quorum_group_valid.k4
    simp only [Bool.false_eq_true, if_false]
    rw [if_neg k1, if_neg (by omega), show (kd == 3) = false from by simp; omega, Option.bind_some]
    unfold quorum_group_valid.k3
    simp only [Bool.false_eq_true, if_false]
    rw [if_pos k4, bare_z _ rfl]
    rfl
  ·refine ⟨⟨kd, fr, vw, sq, sm, ⟨0, ⟨#[]⟩, []⟩⟩, fun k => ?_, fun k => ?_⟩
   ·unfold armillaryref29_Made.f
    rw [if_neg (by omega), hek, hs k, Option.bind_some, hkd, if_neg k1, if_neg k4]
    simp only [Option.bind_some, armillaryref29_Made.k1, armillaryref29_Made.k2, hkd, hvw, hfr, hsq]
   ·rw [valid_in h1 h2 fr1.1 fr1.2 vw1.1 vw1.2 sq1.1 sq1.2]
    unfold quorum_group_valid.k4
    simp only [Bool.false_eq_true, if_false]
    rw [if_neg k1]
    have h23 : (if kd = 2 then some (kd == 2) else some (kd == 3)) = some true := by
     by_cases e : kd = 2
     ·rw [if_pos e, e]; rfl
     ·have e3 : kd = 3 := by omega
      rw [if_neg e, e3]; rfl
    rw [h23, Option.bind_some]
    unfold quorum_group_valid.k3
    simp only [if_true]
    rw [bare_z _ rfl]
    rfl
/-- Lists that are made: at most 40 messages, each valid. -/
theorem madeAll_ok (l : List S32) (hl : ∀ m ∈ l, 0 ≤ m.f4) {n : Int} (h1 : 1 ≤ n) (h2 : n ≤ 13) : ∃ L, (∀ k, armillaryref29_MadeAll.f (k + 101) l n 40 = some L) ∧ L.length ≤ 40 ∧ ∀ x ∈ L, ∀ k, quorum_group_valid.f (k + 60) n x = some true := by
 have key : ∀ (r i : Nat) (acc : List S32), i + r = 40 → acc.length = i → (i : Int) ≤ (l.length : Int) → ∃ L, (∀ k, armillaryref29_MadeAll.l1 l n 40 (k + 61 + r) acc (i : Int) = some (acc ++ L)) ∧ L.length ≤ r ∧ ∀ x ∈ L, ∀ k, quorum_group_valid.f (k + 60) n x = some true := by
  intro r
  induction r with
  | zero =>
   intro i acc hi ha hil
   refine ⟨[], fun k => ?_, Nat.le_refl _, fun x hx => by cases hx⟩
   rw [show k + 61 + 0 = (k + 60) + 1 from by omega]
   generalize k + 60 = K
   simp only [armillaryref29_MadeAll.l1]
   have : decide ((i : Int) < 40) = false := by simp; omega
   rw [this]
   split <;> simp
  | succ r ih =>
   intro i acc hi ha hil
   by_cases hlt : (i : Int) < (l.length : Int)
   ·have hil2 : i < l.length := by omega
    obtain ⟨x, hx1, hx2⟩ := made_ok (l.getD (i : Int).toNat z32) (by
     rw [Int.toNat_natCast, List.getD_eq_getElem?_getD, List.getElem?_eq_getElem hil2]
     exact hl _ (List.getElem_mem hil2)) h1 h2
    obtain ⟨L, hL1, hL2, hL3⟩ := ih (i + 1) (acc ++ [x]) (by omega) (by simp [ha]) (by omega)
    refine ⟨x :: L, fun k => ?_, by simp; omega, fun y hy => ?_⟩
    ·have e1 := hL1 k
     have e2 := hx1 (k + 1 + r)
     rw [show (k + 1 + r) + 60 = k + 61 + r from by omega] at e2
     rw [show k + 61 + (r + 1) = (k + 61 + r) + 1 from by omega]
     generalize k + 61 + r = K at e1 e2
     simp only [armillaryref29_MadeAll.l1]
     have : decide ((i : Int) < 40) = true := by simp; omega
     rw [if_pos hlt, this, Option.bind_some, if_pos rfl, if_pos (by omega), if_pos hlt, e2, Option.bind_some, if_pos (by simp [ha]; omega), W64 (by omega) (by omega), show ((i : Int) + 1) = ((i + 1 : Nat) : Int) from by omega, e1]
     simp
    ·rcases List.mem_cons.1 hy with rfl | hy
     ·exact hx2
     ·exact hL3 y hy
   ·refine ⟨[], fun k => ?_, Nat.zero_le _, fun x hx => by cases hx⟩
    rw [show k + 61 + (r + 1) = (k + 61 + r) + 1 from by omega]
    generalize k + 61 + r = K
    simp only [armillaryref29_MadeAll.l1]
    rw [if_neg hlt]
    simp
 obtain ⟨L, h3, h4, h5⟩ := key 40 0 [] rfl rfl (by omega)
 refine ⟨L, fun k => ?_, h4, h5⟩
 unfold armillaryref29_MadeAll.f
 have := h3 k
 rw [show k + 61 + 40 = k + 101 from by omega] at this
 rw [show ((0 : Nat) : Int) = 0 from rfl] at this
 rw [this, Option.bind_some, List.nil_append]
 rfl

/-! ### what laws say of the tally -/
/-- The size of a quorum, as a natural number. -/
theorem qsz_nat {n : Int} (h1 : 1 ≤ n) (h2 : n ≤ 13) : ∃ N s : Nat, (N : Int) = n ∧ N ≤ 13 ∧ (s : Int) = qsz n ∧ 1 ≤ s ∧ N < 2 * s := by
 refine ⟨n.toNat, (qsz n).toNat, ?_, ?_, ?_, ?_, ?_⟩ <;> (try unfold qsz) <;> omega
/-- The valid messages of a group. -/
def vbN (k : Nat) (n : Int) (x : S32) : Bool := decide (quorum_group_valid.f k n x = some true)
theorem vbN_rg {k : Nat} {n : Int} (x : S32) (h : vbN k n x = true) : 0 ≤ x.f1 ∧ x.f1 < n := valid_rg (of_decide_eq_true h)
theorem vbN_of {k : Nat} {n : Int} {x : S32} {b : Bool} (h : quorum_group_valid.f k n x = some b) : quorum_group_valid.f k n x = some (vbN k n x) := by
 unfold vbN
 rw [h]
 cases b <;> simp
/-- What is decided for a kind and a slot. -/
def decN (k : Nat) (n : Int) (l : List S32) (a v q : Int) : Option Int := mget (tst (qsz n) (cntP (vbN k n) l [])).2 (a, 0, v, q)
theorem tally_dec {k : Nat} {n : Int} (h1 : 1 ≤ n) (h2 : n ≤ 13) {l : List S32} (h : ∀ m ∈ l, ∃ b, quorum_group_valid.f k n m = some b) : quorum_tally.f k l n = some (tst (qsz n) (cntP (vbN k n) l [])).2 :=
 tally_eq (fun m hm => by obtain ⟨b, hb⟩ := h m hm; exact vbN_of hb) (size_eq h1 h2).1
theorem prepared_dec {k : Nat} {n : Int} (h1 : 1 ≤ n) (h2 : n ≤ 13) {l : List S32} (h : ∀ m ∈ l, ∃ b, quorum_group_valid.f k n m = some b) (at_ : S24) : quorum_Prepared.f k l n at_ = some ((decN k n l 2 at_.f0 at_.f1).getD 0, (decN k n l 2 at_.f0 at_.f1).isSome) := by
 unfold quorum_Prepared.f
 rw [tally_dec h1 h2 h]
 rfl
theorem committed_dec {k : Nat} {n : Int} (h1 : 1 ≤ n) (h2 : n ≤ 13) {l : List S32} (h : ∀ m ∈ l, ∃ b, quorum_group_valid.f k n m = some b) (at_ : S24) : quorum_Committed.f k l n at_ = some ((decN k n l 3 at_.f0 at_.f1).getD 0, (decN k n l 3 at_.f0 at_.f1).isSome) := by
 unfold quorum_Committed.f
 rw [tally_dec h1 h2 h]
 rfl
/-- A sum is decided just where a quorum of the messages that count is for it. -/
theorem decN_iff {k : Nat} {n : Int} (h1 : 1 ≤ n) (h2 : n ≤ 13) (l : List S32) (a v q s : Int) : decN k n l a v q = some s ↔ (qsz n) ≤ (cntB (a, v, q, s) (cntP (vbN k n) l []) : Int) := by
 obtain ⟨N, z, hN, hN2, hz, hz1, hz2⟩ := qsz_nat h1 h2
 have := tst_dec hN2 hz1 hz2 (cntP (vbN k n) l []) (by rw [hN]; exact cntP_good (fun x hx => vbN_rg x hx) l []) a v q s
 unfold decN
 rw [← hz, this]
 omega
theorem decN_append {k : Nat} {n : Int} (h1 : 1 ≤ n) (h2 : n ≤ 13) (l m : List S32) {a v q s : Int} (h : decN k n l a v q = some s) : decN k n (l ++ m) a v q = some s := by
 rw [decN_iff h1 h2] at h ⊢
 rw [cntP_append, cntB_append]
 omega

/-! ### the highest prepared entry -/
/-- Could this message's entry be the answer? -/
def HC (V : S32 → Bool) (D : Int → Int → Option Int) (at_ : S24) (m : S32) : Prop := m.f0 = 1 ∧ m.f3 = at_.f1 ∧ m.f2 < at_.f0 ∧ V m = true ∧ D m.f2 m.f3 = some m.f4
instance (V : S32 → Bool) (D : Int → Int → Option Int) (at_ : S24) (m : S32) : Decidable (HC V D at_ m) := by unfold HC; infer_instance
def hstep (V : S32 → Bool) (D : Int → Int → Option Int) (at_ : S24) (st : S30 × Int) (m : S32) : S30 × Int := if HC V D at_ m ∧ st.2 < m.f2 then (m.f5, m.f2) else st
theorem hp_iter {k : Nat} {n : Int} {at_ : S24} {t1 : List (VK × Int)} {l : List S32} {V : S32 → Bool} {D : Int → Int → Option Int} {st : S30 × Int} {i : Int} {m : S32} (hget : l.getD i.toNat z32 = m) (hV : quorum_group_valid.f k n m = some (V m)) (hD : ∀ v q, mget t1 (2, 0, v, q) = D v q) :
  ((if m.f0 ≠ 1 then (some true) else (if m.f3 ≠ at_.f1 then (some true) else (if m.f2 ≥ at_.f0 then (some true) else (if m.f2 ≤ st.2 then (some true) else ((quorum_Valid.f k m n).bind fun t2 => (some (!t2))))))).bind (quorum_HighestPrepared.k5 l t1 st.1.f0 st.1.f1 st.1.f2 st.2 i)) =
   some ((hstep V D at_ st m).1.f0, (hstep V D at_ st m).1.f1, (hstep V D at_ st m).1.f2, (hstep V D at_ st m).2) := by
 have hv : quorum_Valid.f k m n = some (V m) := by unfold quorum_Valid.f; rw [hV]; rfl
 have skip : ∀ b, b = true → (hstep V D at_ st m = st) → quorum_HighestPrepared.k5 l t1 st.1.f0 st.1.f1 st.1.f2 st.2 i b = some ((hstep V D at_ st m).1.f0, (hstep V D at_ st m).1.f1, (hstep V D at_ st m).1.f2, (hstep V D at_ st m).2) := by
  intro b hb hs
  unfold quorum_HighestPrepared.k5
  rw [if_pos hb, hs]
 have noHC : ¬ (HC V D at_ m ∧ st.2 < m.f2) → hstep V D at_ st m = st := fun h => by unfold hstep; rw [if_neg h]
 by_cases h1 : m.f0 = 1
 ·rw [if_neg (by simpa using h1)]
  by_cases h2 : m.f3 = at_.f1
  ·rw [if_neg (by simpa using h2)]
   by_cases h3 : m.f2 ≥ at_.f0
   ·rw [if_pos h3, Option.bind_some]
    exact skip _ rfl (noHC (fun h => by have := h.1.2.2.1; omega))
   ·rw [if_neg h3]
    by_cases h4 : m.f2 ≤ st.2
    ·rw [if_pos h4, Option.bind_some]
     exact skip _ rfl (noHC (fun h => by have := h.2; omega))
    ·rw [if_neg h4, hv, Option.bind_some, Option.bind_some]
     cases h5 : V m with
     | false => exact skip _ rfl (noHC (fun h => by have := h.1.2.2.2.1; rw [h5] at this; cases this))
     | true =>
      unfold quorum_HighestPrepared.k5
      rw [if_neg (by decide), hget, hD]
      cases h6 : D m.f2 m.f3 with
      | none =>
       have hs := noHC (fun h => by have := h.1.2.2.2.2; rw [h6] at this; cases this)
       simp only [Option.isSome_none, Bool.false_eq_true, if_false, Option.bind_some, quorum_HighestPrepared.k4, quorum_HighestPrepared.k3, hs]
      | some s =>
       simp only [Option.isSome_some, if_true, Option.getD_some, Option.bind_some]
       by_cases h7 : s = m.f4
       ·have hs : hstep V D at_ st m = (m.f5, m.f2) := by
         unfold hstep
         rw [if_pos ⟨⟨h1, h2, by omega, h5, by rw [h6, h7]⟩, by omega⟩]
        have e : (s == m.f4) = true := by simpa using h7
        simp only [e, quorum_HighestPrepared.k4, if_true, Option.bind_some, quorum_HighestPrepared.k3, hget, hs]
       ·have hs := noHC (fun h => by have := h.1.2.2.2.2; rw [h6] at this; exact h7 (Option.some.inj this))
        have e : (s == m.f4) = false := by simpa using h7
        simp only [e, quorum_HighestPrepared.k4, Bool.false_eq_true, if_false, Option.bind_some, quorum_HighestPrepared.k3, hs]
  ·rw [if_pos h2, Option.bind_some]
   exact skip _ rfl (noHC (fun h => h2 h.1.2.1))
 ·rw [if_pos h1, Option.bind_some]
  exact skip _ rfl (noHC (fun h => h1 h.1.1))
theorem hp_loop {n : Int} {at_ : S24} {t1 : List (VK × Int)} {l : List S32} {V : S32 → Bool} {D : Int → Int → Option Int} (hlen : l.length ≤ 1000) (hV : ∀ m ∈ l, ∀ k, quorum_group_valid.f (k + 60) n m = some (V m)) (hD : ∀ v q, mget t1 (2, 0, v, q) = D v q) :
  ∀ (r i : Nat) (k : Nat) (st : S30 × Int), i + r = l.length → quorum_HighestPrepared.l1 l n at_ t1 (k + 61 + r) st.1.f0 st.1.f1 st.1.f2 st.2 (i : Int) =
   some (((l.drop i).foldl (hstep V D at_) st).1.f0, ((l.drop i).foldl (hstep V D at_) st).1.f1, ((l.drop i).foldl (hstep V D at_) st).1.f2, ((l.drop i).foldl (hstep V D at_) st).2) := by
 intro r
 induction r with
 | zero =>
  intro i k st hi
  rw [show k + 61 + 0 = (k + 60) + 1 from by omega]
  generalize k + 60 = K
  simp only [quorum_HighestPrepared.l1]
  rw [if_neg (by omega), List.drop_of_length_le (by omega)]
  rfl
 | succ r ih =>
  intro i k st hi
  have hil : i < l.length := by omega
  have hdrop : l.drop i = l[i] :: l.drop (i + 1) := List.drop_eq_getElem_cons hil
  have hget : l.getD (i : Int).toNat z32 = l[i] := by
   rw [Int.toNat_natCast, List.getD_eq_getElem?_getD, List.getElem?_eq_getElem hil]; rfl
  have hv := hV l[i] (List.getElem_mem hil) (k + 1 + r)
  rw [show (k + 1 + r) + 60 = k + 61 + r from by omega] at hv
  have hnext := ih (i + 1) k (hstep V D at_ st l[i]) (by omega)
  have hit := hp_iter (k := k + 61 + r) (at_ := at_) (st := st) (i := (i : Int)) hget hv hD
  rw [show k + 61 + (r + 1) = (k + 61 + r) + 1 from by omega]
  generalize k + 61 + r = K at hnext hit
  simp only [quorum_HighestPrepared.l1]
  rw [if_pos (by omega), if_pos (by omega), if_pos (by omega), hget, hit, Option.bind_some]
  simp only
  rw [W64 (by omega) (by omega), show ((i : Int) + 1) = ((i + 1 : Nat) : Int) from by omega, hnext, hdrop]
  rfl
theorem highest_eq {n : Int} (h1 : 1 ≤ n) (h2 : n ≤ 13) {l : List S32} (hlen : l.length ≤ 230) (hV : ∀ m ∈ l, ∀ k, quorum_group_valid.f (k + 60) n m = some (vbN 300 n m)) (at_ : S24) :
  quorum_HighestPrepared.f 300 l n at_ = some ((l.foldl (hstep (vbN 300 n) (decN 300 n l 2) at_) (⟨0, ⟨#[]⟩, []⟩, -1)).1, decide ((l.foldl (hstep (vbN 300 n) (decN 300 n l 2) at_) (⟨0, ⟨#[]⟩, []⟩, -1)).2 ≥ 0)) := by
 unfold quorum_HighestPrepared.f
 rw [tally_dec h1 h2 (fun m hm => ⟨_, hV m hm 240⟩), Option.bind_some]
 have := hp_loop (at_ := at_) (V := vbN 300 n) (D := decN 300 n l 2) (t1 := (tst (qsz n) (cntP (vbN 300 n) l [])).2) (by omega) hV (fun v q => rfl) l.length 0 (239 - l.length) ((⟨0, ⟨#[]⟩, []⟩ : S30), (-1 : Int)) (by omega)
 rw [show 239 - l.length + 61 + l.length = 300 from by omega, show ((0 : Nat) : Int) = 0 from rfl, List.drop_zero] at this
 simp only at this
 rw [this, Option.bind_some]
 unfold quorum_HighestPrepared.k1
 rfl
theorem valid_all {n : Int} {m : S32} (h : ∃ b, ∀ k, quorum_group_valid.f (k + 60) n m = some b) : ∀ k, quorum_group_valid.f (k + 60) n m = some (vbN 300 n m) := by
 obtain ⟨b, hb⟩ := h
 intro k
 rw [hb k]
 unfold vbN
 rw [hb 240]
 cases b <;> simp
theorem same_refl (e : S30) : armillaryref29_Same.f e e = some true := by
 unfold armillaryref29_Same.f armillaryref27_Same.f
 rw [if_pos rfl, if_pos rfl]
 simp [armillaryref27_Same.k1]

/-! ### what was seen -/
theorem seenP_append (vb : S32 → Bool) (l2 : List S32) : ∀ (l : List S32) (seen : List (VK × Bool)), seenP vb (l ++ l2) seen = seenP vb l2 (seenP vb l seen)
 | [], _ => rfl
 | m :: r, seen => by
  simp only [List.cons_append, seenP]
  split
  ·exact seenP_append vb l2 r seen
  ·split
   ·exact seenP_append vb l2 r _
   ·exact seenP_append vb l2 r seen
theorem seenP_mono (vb : S32 → Bool) (q : VK) : ∀ (l : List S32) (seen : List (VK × Bool)), (mget seen q).getD false = true → (mget (seenP vb l seen) q).getD false = true
 | [], _, h => h
 | m :: r, seen, h => by
  simp only [seenP]
  split
  ·exact seenP_mono vb q r seen h
  ·split
   ·refine seenP_mono vb q r _ ?_
    by_cases e : q = vkey m
    ·rw [e, mput_get]; rfl
    ·rw [mput_other _ _ _ _ e]; exact h
   ·exact seenP_mono vb q r seen h
theorem seenP_has (vb : S32 → Bool) : ∀ (l : List S32) (seen : List (VK × Bool)), ∀ x ∈ l, vb x = true → (mget (seenP vb l seen) (vkey x)).getD false = true
 | [], _, x, h, _ => by cases h
 | m :: r, seen, x, h, hv => by
  simp only [seenP]
  rcases List.mem_cons.1 h with rfl | h
  ·split
   ·rename_i hs
    exact seenP_mono vb _ r seen hs
   ·exact seenP_mono vb _ r _ (by rw [mput_get]; rfl)
  ·split
   ·exact seenP_has vb r seen x h hv
   ·split
    ·exact seenP_has vb r _ x h hv
    ·exact seenP_has vb r seen x h hv
theorem hstep_skip {V : S32 → Bool} {D : Int → Int → Option Int} {at_ : S24} {st : S30 × Int} {m : S32} (h : HC V D at_ m → m.f2 ≤ st.2) : hstep V D at_ st m = st := by
 unfold hstep
 rw [if_neg (fun hh => by have := h hh.1; omega)]
theorem hstep_after {V : S32 → Bool} {D : Int → Int → Option Int} {at_ : S24} {st : S30 × Int} {m : S32} (h : HC V D at_ m) : m.f2 ≤ (hstep V D at_ st m).2 := by
 unfold hstep
 by_cases h2 : st.2 < m.f2
 ·rw [if_pos ⟨h, h2⟩]; exact Int.le_refl _
 ·rw [if_neg (fun hh => h2 hh.2)]; omega
theorem hstep_mono {V : S32 → Bool} {D : Int → Int → Option Int} {at_ : S24} {st : S30 × Int} {m : S32} : st.2 ≤ (hstep V D at_ st m).2 := by
 unfold hstep
 split
 ·rename_i h; exact Int.le_of_lt h.2
 ·exact Int.le_refl _

end Go.Proofs.Ytieakigoinebdaa
namespace Go.Proofs.Ytieakigoinebdaa.crc
open Go Go.Proofs.Ytieakigoinebdaa Go.Proofs.Ytieakigoinebdaa.RW
set_option linter.unusedVariables false
set_option maxRecDepth 100000
theorem wrap32 {n : Nat} (h : n < 4294967296) : IntKind.u32.wrap (n : Int) = (n : Int) := by
 have h2 : (2 : Int) ^ 32 = 4294967296 := by decide
 unfold IntKind.wrap
 simp only [IntKind.bits, IntKind.signed, h2, Bool.false_and, Bool.false_eq_true, if_false]
 exact Int.emod_eq_of_lt (by omega) (by omega)
theorem xor32 {a b : Nat} (ha : a < 4294967296) (hb : b < 4294967296) : bXor .u32 (a : Int) (b : Int) = ((a ^^^ b : Nat) : Int) := by
 have hx : a ^^^ b < 4294967296 := Nat.xor_lt_two_pow (n := 32) ha hb
 show IntKind.u32.wrap (((BitVec.ofInt 32 (a : Int)) ^^^ (BitVec.ofInt 32 (b : Int))).toNat : Int) = _
 rw [BitVec.ofInt_natCast, BitVec.ofInt_natCast, BitVec.toNat_xor, BitVec.toNat_ofNat, BitVec.toNat_ofNat]
 rw [Nat.mod_eq_of_lt (show a < 2 ^ 32 from ha), Nat.mod_eq_of_lt (show b < 2 ^ 32 from hb)]
 exact wrap32 hx
theorem and32 {a : Nat} (ha : a < 4294967296) : bAnd .u32 (a : Int) 1 = ((a % 2 : Nat) : Int) := by
 show IntKind.u32.wrap (((BitVec.ofInt 32 (a : Int)) &&& (BitVec.ofNat 32 1)).toNat : Int) = _
 rw [BitVec.ofInt_natCast, BitVec.toNat_and, BitVec.toNat_ofNat, BitVec.toNat_ofNat]
 rw [Nat.mod_eq_of_lt (show a < 2 ^ 32 from ha), Nat.mod_eq_of_lt (show 1 < 2 ^ 32 by decide), Nat.and_one_is_mod]
 exact wrap32 (by omega)
def nstep (c : Nat) : Nat := (c / 2) ^^^ (if c % 2 = 1 then 3988292384 else 0)
def nit : Nat → Nat → Nat
 | 0, c => c
 | n + 1, c => nit n (nstep c)
theorem nstep_lt {c : Nat} (h : c < 4294967296) : nstep c < 4294967296 := by
 unfold nstep
 refine Nat.xor_lt_two_pow (n := 32) (show c / 2 < 2 ^ 32 by omega) ?_
 split <;> decide
theorem nit_lt : ∀ (n c : Nat), c < 4294967296 → nit n c < 4294967296
 | 0, c, h => h
 | n + 1, c, h => nit_lt n _ (nstep_lt h)
theorem half {a : Nat} : Int.fdiv (a : Int) 2 = ((a / 2 : Nat) : Int) := by
 rw [Int.fdiv_eq_ediv_of_nonneg _ (by omega)]
 omega
theorem crcStep_nat {c : Nat} (h : c < 4294967296) : crcStep (c : Int) = (nstep c : Int) := by
 unfold crcStep nstep
 rw [and32 h, half]
 by_cases h1 : c % 2 = 1
 ·rw [h1, if_pos rfl, show W .u32 (3988292384 * ((1 : Nat) : Int)) = ((3988292384 : Nat) : Int) from by decide]
  exact xor32 (by omega) (by decide)
 ·have h0 : c % 2 = 0 := by omega
  rw [h0, if_neg (by decide), show W .u32 (3988292384 * ((0 : Nat) : Int)) = ((0 : Nat) : Int) from by decide]
  exact xor32 (by omega) (by decide)
theorem crc8_nat : ∀ (n c : Nat), c < 4294967296 → crc8 n (c : Int) = (nit n c : Int)
 | 0, c, h => rfl
 | n + 1, c, h => by rw [crc8, crcStep_nat h, crc8_nat n _ (nstep_lt h)]; rfl
theorem xor_par (a b : Nat) : (a ^^^ b) % 2 = 1 ↔ ¬ (a % 2 = 1 ↔ b % 2 = 1) := by
 have h : (a ^^^ b).testBit 0 = (a.testBit 0 ^^ b.testBit 0) := Nat.testBit_xor a b 0
 rw [Nat.testBit_zero, Nat.testBit_zero, Nat.testBit_zero] at h
 by_cases h1 : a % 2 = 1 <;> by_cases h2 : b % 2 = 1 <;> simp [h1, h2] at h ⊢ <;> omega
theorem xor_half (a b : Nat) : (a ^^^ b) / 2 = (a / 2) ^^^ (b / 2) := by
 have h := @Nat.shiftRight_xor_distrib 1 a b
 rw [Nat.shiftRight_eq_div_pow, Nat.shiftRight_eq_div_pow, Nat.shiftRight_eq_div_pow] at h
 exact h
theorem x4 (a b p q : Nat) : (a ^^^ b) ^^^ (p ^^^ q) = (a ^^^ p) ^^^ (b ^^^ q) := by
 rw [Nat.xor_assoc, Nat.xor_assoc, ← Nat.xor_assoc b p q, Nat.xor_comm b p, Nat.xor_assoc p b q]
theorem nstep_xor (a b : Nat) : nstep (a ^^^ b) = nstep a ^^^ nstep b := by
 unfold nstep
 rw [xor_half, x4 (a / 2) _ (b / 2) _]
 congr 1
 by_cases h1 : a % 2 = 1 <;> by_cases h2 : b % 2 = 1
 ·rw [if_neg (by rw [xor_par]; simp [h1, h2]), if_pos h1, if_pos h2]; rfl
 ·rw [if_pos (by rw [xor_par]; simp [h1, h2]), if_pos h1, if_neg h2]; rfl
 ·rw [if_pos (by rw [xor_par]; simp [h1, h2]), if_neg h1, if_pos h2]; rfl
 ·rw [if_neg (by rw [xor_par]; simp [h1, h2]), if_neg h1, if_neg h2]; rfl
theorem nit_xor : ∀ (n a b : Nat), nit n (a ^^^ b) = nit n a ^^^ nit n b
 | 0, _, _ => rfl
 | n + 1, a, b => by rw [nit, nstep_xor, nit_xor n]; rfl
theorem nstep_even (m : Nat) : nstep (2 * m) = m := by
 unfold nstep
 rw [if_neg (by omega), show 2 * m / 2 = m by omega, Nat.xor_zero]
theorem nit8_high (h : Nat) : nit 8 (256 * h) = h := by
 rw [show 256 * h = 2 * (2 * (2 * (2 * (2 * (2 * (2 * (2 * h))))))) by omega]
 simp only [nit, nstep_even]
theorem split256 (c : Nat) : c = (256 * (c / 256)) ^^^ (c % 256) := by
 refine Nat.eq_of_testBit_eq fun i => ?_
 have hc : c = 2 ^ 8 * (c / 256) + c % 256 := by omega
 have hl : c % 256 < 2 ^ 8 := by omega
 rw [Nat.testBit_xor]
 conv => lhs; rw [hc]
 rw [Nat.testBit_two_pow_mul_add _ hl, show 256 * (c / 256) = 2 ^ 8 * (c / 256) from rfl, Nat.testBit_two_pow_mul]
 by_cases hi : i < 8
 ·rw [if_pos hi]
  simp [show ¬ 8 ≤ i by omega]
 ·rw [if_neg hi]
  have : (c % 256).testBit i = false := Nat.testBit_lt_two_pow (Nat.lt_of_lt_of_le hl (Nat.pow_le_pow_right (by decide) (by omega)))
  simp [show 8 ≤ i by omega, this]
/-- One byte more. -/
def rstep (c : Nat) (x : Int) : Nat := nit 8 (c ^^^ x.toNat)
theorem rstep_lt {c : Nat} {x : Int} (hc : c < 4294967296) (hx : 0 ≤ x ∧ x ≤ 255) : rstep c x < 4294967296 := nit_lt 8 _ (Nat.xor_lt_two_pow (n := 32) hc (by omega))
theorem tab_at {j : Nat} (h : j < 256) : crcTab.getD j 0 = (nit 8 j : Int) := by
 have e : W .u32 ((j : Nat) : Int) = ((j : Nat) : Int) := wrap32 (by omega)
 rw [List.getD_eq_getElem?_getD]
 unfold crcTab
 rw [List.getElem?_map, List.getElem?_range h]
 simp only [Option.map_some, Option.getD_some]
 rw [e]
 exact crc8_nat 8 j (by omega)
theorem wrap8 {n : Nat} : IntKind.u8.wrap (n : Int) = ((n % 256 : Nat) : Int) := by
 have h2 : (2 : Int) ^ 8 = 256 := by decide
 unfold IntKind.wrap
 simp only [IntKind.bits, IntKind.signed, h2, Bool.false_and, Bool.false_eq_true, if_false]
 omega
theorem xor8 {a b : Nat} (ha : a < 256) (hb : b < 256) : bXor .u8 (a : Int) (b : Int) = ((a ^^^ b : Nat) : Int) := by
 have hx : a ^^^ b < 256 := Nat.xor_lt_two_pow (n := 8) ha hb
 show IntKind.u8.wrap (((BitVec.ofInt 8 (a : Int)) ^^^ (BitVec.ofInt 8 (b : Int))).toNat : Int) = _
 rw [BitVec.ofInt_natCast, BitVec.ofInt_natCast, BitVec.toNat_xor, BitVec.toNat_ofNat, BitVec.toNat_ofNat]
 rw [Nat.mod_eq_of_lt (show a < 2 ^ 8 from ha), Nat.mod_eq_of_lt (show b < 2 ^ 8 from hb), wrap8, Nat.mod_eq_of_lt hx]
theorem ckStep_nat {c : Nat} {x : Int} (hc : c < 4294967296) (hx : 0 ≤ x ∧ x ≤ 255) : ckStep (c : Int) x = (rstep c x : Int) := by
 obtain ⟨b, rfl⟩ : ∃ b : Nat, x = (b : Int) := ⟨x.toNat, by omega⟩
 have hb : b < 256 := by omega
 have hm : c % 256 < 256 := Nat.mod_lt _ (by decide)
 have hx8 : c % 256 ^^^ b < 256 := Nat.xor_lt_two_pow (n := 8) hm hb
 unfold ckStep rstep
 have e1 : Int.fdiv (c : Int) 256 = ((c / 256 : Nat) : Int) := by
  rw [Int.fdiv_eq_ediv_of_nonneg _ (by omega)]
  omega
 have e2 : W .u8 (c : Int) = ((c % 256 : Nat) : Int) := wrap8
 rw [e1, e2, xor8 hm hb, Int.toNat_natCast, Int.toNat_natCast, tab_at hx8, xor32 (by omega) (nit_lt 8 _ (by omega))]
 congr 1
 conv => rhs; rw [split256 c, Nat.xor_assoc, nit_xor, nit8_high]
theorem fold_nat : ∀ (l : List Int) (c : Nat), c < 4294967296 → (∀ x ∈ l, 0 ≤ x ∧ x ≤ 255) → l.foldl ckStep (c : Int) = ((l.foldl rstep c : Nat) : Int) ∧ l.foldl rstep c < 4294967296
 | [], c, h, _ => ⟨rfl, h⟩
 | x :: r, c, h, hx => by
  have h1 := hx x List.mem_cons_self
  rw [List.foldl_cons, List.foldl_cons, ckStep_nat h h1]
  exact fold_nat r _ (rstep_lt h h1) (fun y hy => hx y (List.mem_cons_of_mem _ hy))
/-! ### bit by bit -/
theorem ref_l2 : ∀ (r i k c : Nat), i + r = 8 → c < 4294967296 → armillaryref27_Checksum.l2 (k + 1 + r) (c : Int) (i : Int) = some (nit r c : Int) := by
 intro r
 induction r with
 | zero =>
  intro i k c hi hc
  rw [show k + 1 + 0 = k + 1 from rfl]
  simp only [armillaryref27_Checksum.l2]
  rw [if_neg (by omega)]
  rfl
 | succ r ih =>
  intro i k c hi hc
  have hnext := ih (i + 1) k (nstep c) (by omega) (nstep_lt hc)
  rw [show k + 1 + (r + 1) = (k + 1 + r) + 1 from by omega]
  generalize k + 1 + r = K at hnext
  simp only [armillaryref27_Checksum.l2]
  have e : (if bAnd .u32 (c : Int) 1 = 1 then some (bXor .u32 (Int.fdiv (c : Int) 2) 3988292384) else some (Int.fdiv (c : Int) 2)) = some (nstep c : Int) := by
   rw [and32 hc, half]
   unfold nstep
   by_cases h1 : c % 2 = 1
   ·rw [h1, if_pos (show ((1 : Nat) : Int) = 1 from rfl), if_pos rfl]
    have := xor32 (a := c / 2) (b := 3988292384) (by omega) (by decide)
    exact congrArg some this
   ·have h0 : c % 2 = 0 := by omega
    rw [h0, if_neg (show ¬ ((0 : Nat) : Int) = 1 by decide), if_neg (show ¬ (0 : Nat) = 1 by decide), Nat.xor_zero]
  rw [if_pos (by omega), e, Option.bind_some, W64 (by omega) (by omega), show ((i : Int) + 1) = ((i + 1 : Nat) : Int) from by omega, hnext]
  rfl
theorem ref_l1 {a0 : List Int} (hlen : a0.length ≤ 100000) (hb : ∀ x ∈ a0, 0 ≤ x ∧ x ≤ 255) : ∀ (r i k c : Nat), i + r = a0.length → c < 4294967296 → armillaryref27_Checksum.l1 a0 (k + 10 + r) (c : Int) (i : Int) = some (((a0.drop i).foldl rstep c : Nat) : Int) := by
 intro r
 induction r with
 | zero =>
  intro i k c hi hc
  rw [show k + 10 + 0 = (k + 9) + 1 from by omega]
  generalize k + 9 = K
  simp only [armillaryref27_Checksum.l1]
  rw [if_neg (by omega), List.drop_of_length_le (by omega)]
  rfl
 | succ r ih =>
  intro i k c hi hc
  have hil : i < a0.length := by omega
  have hdrop : a0.drop i = a0[i] :: a0.drop (i + 1) := List.drop_eq_getElem_cons hil
  have hget : a0.getD (i : Int).toNat 0 = a0[i] := by
   rw [Int.toNat_natCast, List.getD_eq_getElem?_getD, List.getElem?_eq_getElem hil]; rfl
  have hx := hb a0[i] (List.getElem_mem hil)
  have hnext := ih (i + 1) k (rstep c a0[i]) (by omega) (rstep_lt hc hx)
  obtain ⟨b, hbn⟩ : ∃ b : Nat, a0[i] = (b : Int) := ⟨(a0[i]).toNat, by omega⟩
  have hW : bXor .u32 (c : Int) (W .u32 a0[i]) = ((c ^^^ b : Nat) : Int) := by
   rw [hbn, show W .u32 ((b : Nat) : Int) = ((b : Nat) : Int) from wrap32 (by omega)]
   exact xor32 hc (by omega)
  have h8 := ref_l2 8 0 (k + r + 1) (c ^^^ b) (by omega) (Nat.xor_lt_two_pow (n := 32) hc (by omega))
  rw [show k + r + 1 + 1 + 8 = k + 10 + r from by omega, show ((0 : Nat) : Int) = 0 from rfl] at h8
  have e8 : nit 8 (c ^^^ b) = rstep c a0[i] := by unfold rstep; rw [hbn]; rfl
  rw [show k + 10 + (r + 1) = (k + 10 + r) + 1 from by omega]
  generalize k + 10 + r = K at hnext h8
  simp only [armillaryref27_Checksum.l1]
  rw [if_pos (by omega), if_pos (by omega), if_pos (by omega), hget, hW, h8, Option.bind_some, e8]
  unfold armillaryref27_Checksum.k3
  rw [Option.bind_some, W64 (by omega) (by omega), show ((i : Int) + 1) = ((i + 1 : Nat) : Int) from by omega, hnext, hdrop]
  rfl
/-- Both checksums. -/
theorem sums {bs : List Int} (hlen : bs.length ≤ 30000) (hb : ∀ x ∈ bs, 0 ≤ x ∧ x ≤ 255) : ∃ s, codec_Checksum.f bs = some s ∧ ∀ k, armillaryref27_Checksum.f (k + 40000) bs = some s := by
 obtain ⟨h1, h2⟩ := fold_nat bs 4294967295 (by decide) hb
 refine ⟨_, rfl, fun k => ?_⟩
 have := ref_l1 (by omega) hb bs.length 0 (k + 39990 - bs.length) 4294967295 (by omega) (by decide)
 rw [show k + 39990 - bs.length + 10 + bs.length = k + 40000 from by omega, List.drop_zero, show ((0 : Nat) : Int) = 0 from rfl, show ((4294967295 : Nat) : Int) = 4294967295 from rfl] at this
 unfold armillaryref27_Checksum.f
 rw [this, Option.bind_some]
 unfold armillaryref27_Checksum.k1
 rw [show ((4294967295 : Nat) : Int) = 4294967295 from rfl] at h1
 rw [h1]
 have e1 := xor32 (a := bs.foldl rstep 4294967295) (b := 4294967295) h2 (by decide)
 have e2 := xor32 (a := 4294967295) (b := bs.foldl rstep 4294967295) (by decide) h2
 rw [show ((4294967295 : Nat) : Int) = 4294967295 from rfl] at e1 e2
 rw [e1, e2, Nat.xor_comm]
end Go.Proofs.Ytieakigoinebdaa.crc
namespace Go.Proofs.Ytieakigoinebdaa.RW
open Go Go.RowKit

/-- The whole memory, as cells that never turn. -/
def wImm (W : World) : Imm := look W
theorem wImm_at (W : World) : (wImm W).at_ W := fun _ _ h => h
/-- What reads as a datum of type t is told by d, with p. -/
def Opens (P : Program) {α : Type} (d : Ty α) (t : TypeId) (p : α → Prop) : Prop :=
 ∀ {H : Type} {enc : TypeId × Value → H} (W : World) (base : Nat) (sp : Nat → Bool) (held : Bool) (fuel : Nat) (cs : List Value) (x : DataW H × List MemPlace), DataW.trod enc P W base sp held fuel t cs = some x → ∃ a, d.K (wImm W) a cs ∧ p a

section
variable {P : Program} {α β : Type} {d : Ty α} {t e : TypeId} {p : α → Prop}
theorem opens_int {k : IntKind} (ht : P.underlying t = some (.int k)) : Opens P (Ty.int k) t (fun n => (Lit.int k n).wf = true) := by
 intro H enc W base sp held fuel cs x h
 obtain ⟨n, rfl, _, hw⟩ := DataW.trod_int ht h
 exact ⟨n, rfl, hw⟩
theorem opens_bool (ht : P.underlying t = some .bool) : Opens P Ty.bool t (fun _ => True) := by
 intro H enc W base sp held fuel cs x h
 obtain ⟨b, rfl, _⟩ := DataW.trod_bool ht h
 exact ⟨b, rfl, trivial⟩
theorem opens_string (ht : P.underlying t = some .string) : Opens P Ty.string t (fun s => s.size ≤ maxLen) := by
 intro H enc W base sp held fuel cs x h
 obtain ⟨s, rfl, _, hs⟩ := DataW.trod_string ht h
 exact ⟨s, rfl, hs⟩
theorem add_add {a : Addr} (h : a.spot = none) (n m : Nat) : (a.add n).add m = ⟨a.block, a.off + n + m, none⟩ := by
 obtain ⟨b, o, s⟩ := a
 obtain rfl : s = none := h
 unfold Addr.add
 split <;> split <;> simp_all
theorem opens_slice (ho : Opens P d e p) (ht : P.underlying t = some (.slice e)) (hsz : P.cellsOf e = d.sz) (hpos : 0 < d.sz) : Opens P (Ty.slice d) t (fun l => ∀ x ∈ l, p x) := by
 intro H enc W base sp held fuel cs x h
 rcases DataW.trod_slice ht h with ⟨rfl, _⟩ | ⟨a, len, cap, elems, rest, n, _, rfl, _, hb, hl, hm, hlen, hel, _, _⟩
 ·exact ⟨[], ⟨none, 0, rfl, Nat.le_refl _, Rd.nil _ _ _⟩, fun x hx => by cases hx⟩
 ·have hsp0 : 0 < len → a.spot = none := by
   intro hi
   have h1 := hel 0 hi
   rw [List.getElem?_eq_getElem (by rw [hlen]; exact hi), Option.bind_eq_some_iff] at h1
   obtain ⟨c, hc, hy⟩ := h1
   obtain ⟨_, hcl, hcell⟩ := World.cells?_some hc
   have h2 := hcell 0 (by rw [hsz]; exact hpos)
   have hlt : 0 < c.length := by rw [hcl, hsz]; exact hpos
   rw [List.getElem?_eq_getElem hlt, show (a.add (0 * P.cellsOf e)).add 0 = a from by simp [Addr.add]] at h2
   cases hsp : a.spot with
   | none => rfl
   | some s =>
    exfalso
    unfold World.cell? at h2
    split at h2
    ·rw [hsp] at h2; simp at h2
    ·cases h2
  have each : ∀ i, i < len → ∃ v c, d.K (wImm W) v c ∧ p v ∧ a.spot = none ∧ ∀ q u, c[q]? = some u → wImm W ⟨a.block, a.off + i * d.sz + q, none⟩ = some u := by
   intro i hi
   have h1 := hel i hi
   rw [List.getElem?_eq_getElem (by rw [hlen]; exact hi), Option.bind_eq_some_iff] at h1
   obtain ⟨c, hc, hy⟩ := h1
   obtain ⟨v, hk, hp⟩ := ho W base sp held n c _ hy
   obtain ⟨_, hcl, hcell⟩ := World.cells?_some hc
   have hspot := hsp0 (by omega)
   refine ⟨v, c, hk, hp, hspot, fun q u hu => ?_⟩
   have hql : q < c.length := (List.getElem?_eq_some_iff.1 hu).1
   have h2 := hcell q (by rw [← hcl]; exact hql)
   rw [add_add hspot, hsz, hu] at h2
   exact h2
  have build : ∀ n, n ≤ len → ∃ l : List α, l.length = n ∧ (∀ x ∈ l, p x) ∧ ∀ (j : Nat) (v : α), l[j]? = some v → ∃ c, d.K (wImm W) v c ∧ a.spot = none ∧ ∀ q u, c[q]? = some u → wImm W ⟨a.block, a.off + j * d.sz + q, none⟩ = some u := by
   intro n
   induction n with
   | zero => intro _; exact ⟨[], rfl, (fun x hx => by cases hx), fun j v hj => by cases hj⟩
   | succ n ih =>
    intro hn
    obtain ⟨l, hl1, hl2, hl3⟩ := ih (by omega)
    obtain ⟨v, c, hk, hp, hs, hc⟩ := each n (by omega)
    refine ⟨l ++ [v], by simp [hl1], fun x hx => ?_, fun j w hj => ?_⟩
    ·rcases List.mem_append.1 hx with hx | hx
     ·exact hl2 x hx
     ·rw [List.mem_singleton.1 hx]; exact hp
    ·rcases Nat.lt_or_ge j l.length with hlt | hge
     ·rw [List.getElem?_append_left hlt] at hj
      exact hl3 j w hj
     ·rw [List.getElem?_append_right hge] at hj
      have hj0 : j - l.length = 0 := by
       rcases Nat.eq_zero_or_pos (j - l.length) with h0 | h0
       ·exact h0
       ·rw [List.getElem?_eq_none (by simp; omega)] at hj; cases hj
      rw [hj0] at hj
      simp only [List.getElem?_cons_zero, Option.some.injEq] at hj
      subst hj
      obtain rfl : j = n := by omega
      exact ⟨c, hk, hs, hc⟩
  obtain ⟨l, hl1, hl2, hl3⟩ := build len (Nat.le_refl _)
  refine ⟨l, ⟨some a, cap, by rw [hl1], by omega, ⟨by unfold maxLen at hm; omega, fun hne => ?_⟩⟩, hl2⟩
  have h0 : 0 < l.length := List.length_pos_iff.2 hne
  obtain ⟨_, _, hs, _⟩ := hl3 0 _ (List.getElem?_eq_getElem h0)
  refine ⟨a.block, a.off, by obtain ⟨b, o, s⟩ := a; simp_all, fun j v hj => ?_⟩
  obtain ⟨c, hk, _, hc⟩ := hl3 j v hj
  exact ⟨c, hk, hc⟩

/-- The fields of a struct, from cell 'off' on. -/
def offs : Nat → List (TypeId × Nat) → List (TypeId × Nat × Nat)
 | _, [] => []
 | o, (t, n) :: r => (t, o, n) :: offs (o + n) r
def total : List (TypeId × Nat) → Nat
 | [] => 0
 | (_, n) :: r => n + total r
def OpensF (P : Program) {α : Type} (d : Ty α) (fl : List (TypeId × Nat)) (p : α → Prop) : Prop :=
 ∀ {H : Type} {enc : TypeId × Value → H} (W : World) (base : Nat) (sp : Nat → Bool) (held : Bool) (fuel off : Nat) (cs : List Value),
  (∀ q ∈ offs off fl, ∃ x, DataW.trod enc P W base sp held fuel q.1 ((cs.drop q.2.1).take q.2.2) = some x) → cs.length = off + total fl → ∃ a, d.K (wImm W) a (cs.drop off) ∧ p a
theorem opensF_one (ho : Opens P d t p) (n : Nat) : OpensF P d [(t, n)] p := by
 intro H enc W base sp held fuel off cs h hl
 obtain ⟨x, hx⟩ := h _ List.mem_cons_self
 simp only [total, Nat.add_zero] at hl
 have e : (cs.drop off).take n = cs.drop off := List.take_of_length_le (by rw [List.length_drop]; omega)
 simp only at hx
 rw [e] at hx
 exact ho W base sp held fuel _ x hx
theorem opensF_cons {d2 : Ty β} {fl : List (TypeId × Nat)} {q : β → Prop} (n : Nat) (ho : Opens P d t p) (hr : OpensF P d2 fl q) : OpensF P (Ty.pair d d2) ((t, n) :: fl) (fun x => p x.1 ∧ q x.2) := by
 intro H enc W base sp held fuel off cs h hl
 simp only [total] at hl
 obtain ⟨x, hx⟩ := h _ List.mem_cons_self
 obtain ⟨a, hk, hp⟩ := ho W base sp held fuel _ x hx
 obtain ⟨b, hk2, hp2⟩ := hr (enc := enc) W base sp held fuel (off + n) cs (fun q hq => h q (List.mem_cons_of_mem _ hq)) (by omega)
 refine ⟨(a, b), ⟨_, _, ?_, hk, hk2⟩, hp, hp2⟩
 simp only
 rw [← List.drop_drop, List.take_append_drop]
theorem opens_struct {fl : List (TypeId × Nat)} (ho : OpensF P d fl p) (ht : P.underlying t = some (.struct (P.fieldsOf t))) (hf : (P.fieldsOf t).toList.map (fun f => (f.type, f.offset, P.cellsOf f.type)) = offs 0 fl) (hc : P.cellsOf t = total fl)
  (f : β → α) (g : α → β) (hg : ∀ y, f (g y) = y) : Opens P (Ty.iso d f) t (fun x => p (f x)) := by
 intro H enc W base sp held fuel cs x h
 obtain ⟨xs, n, _, _, hcl, hxl, hx⟩ := DataW.trod_struct ht h
 have hseg : ∀ q ∈ offs 0 fl, ∃ x, DataW.trod enc P W base sp held n q.1 ((cs.drop q.2.1).take q.2.2) = some x := by
  intro q hq
  rw [← hf] at hq
  obtain ⟨f, hfm, rfl⟩ := List.mem_map.1 hq
  obtain ⟨i, hi, hif⟩ := List.getElem_of_mem hfm
  have h1 := hx i f (by rw [← Array.getElem?_toList, List.getElem?_eq_getElem hi, hif])
  have h2 : i < xs.length := by rw [hxl]; simpa using hi
  rw [List.getElem?_eq_getElem h2] at h1
  exact ⟨_, h1⟩
 obtain ⟨a, hk, hp⟩ := ho W base sp held n 0 cs hseg (by rw [hcl, hc, Nat.zero_add])
 refine ⟨g a, ?_, by show p (f (g a)); rw [hg]; exact hp⟩
 show d.K (wImm W) (f (g a)) cs
 rw [hg]
 exact hk
theorem opens_array {n : Nat} {fl : List (TypeId × Nat)} (ho : OpensF P d fl p) (ht : P.underlying t = some (.array n e)) (hf : (List.range n).map (fun i => (e, i * P.cellsOf e, P.cellsOf e)) = offs 0 fl) (hc : P.cellsOf t = total fl)
  (f : β → α) (g : α → β) (hg : ∀ y, f (g y) = y) : Opens P (Ty.iso d f) t (fun x => p (f x)) := by
 intro H enc W base sp held fuel cs x h
 obtain ⟨xs, m, _, _, hcl, hxl, hx⟩ := DataW.trod_array ht h
 have hseg : ∀ q ∈ offs 0 fl, ∃ x, DataW.trod enc P W base sp held m q.1 ((cs.drop q.2.1).take q.2.2) = some x := by
  intro q hq
  rw [← hf] at hq
  obtain ⟨i, hi, rfl⟩ := List.mem_map.1 hq
  have hi' := List.mem_range.1 hi
  have h1 := hx i hi'
  rw [List.getElem?_eq_getElem (show i < xs.length by omega)] at h1
  exact ⟨_, h1⟩
 obtain ⟨a, hk, hp⟩ := ho W base sp held m 0 cs hseg (by rw [hcl, hc, Nat.zero_add])
 refine ⟨g a, ?_, by show p (f (g a)); rw [hg]; exact hp⟩
 show d.K (wImm W) (f (g a)) cs
 rw [hg]
 exact hk
end
end Go.Proofs.Ytieakigoinebdaa.RW
namespace Go.Proofs.Ytieakigoinebdaa
open Go Go.Proofs.Ytieakigoinebdaa.RW
set_option linter.unusedVariables false
set_option maxRecDepth 100000
set_option maxHeartbeats 8000000

def p30 (x : S30) : Prop := (fun n => (Lit.int .i64 n).wf = true) x.f0 ∧ (fun s => s.size ≤ maxLen) x.f1 ∧ (fun l => ∀ x ∈ l, (fun n => (Lit.int .u8 n).wf = true) x) x.f2
theorem o30 : Opens Try.prog t30 30 p30 :=
 opens_struct (fl := [(3, 1), (9, 1), (28, 1)]) (opensF_cons 1 (opens_int (by kernel_rfl)) (opensF_cons 1 (opens_string (by kernel_rfl)) (opensF_one (opens_slice (e := 5) (opens_int (by kernel_rfl)) (by kernel_rfl) (by kernel_rfl) (Nat.le_of_ble_eq_true (by kernel_rfl))) 1))) (by kernel_rfl) (by kernel_rfl) (by kernel_rfl) (fun (x : S30) => (x.f0, x.f1, x.f2)) (fun y => ⟨y.1, y.2.1, y.2.2⟩) (fun _ => rfl)
def p32 (x : S32) : Prop := (fun n => (Lit.int .i64 n).wf = true) x.f0 ∧ (fun n => (Lit.int .i64 n).wf = true) x.f1 ∧ (fun n => (Lit.int .i64 n).wf = true) x.f2 ∧ (fun n => (Lit.int .i64 n).wf = true) x.f3 ∧ (fun n => (Lit.int .u32 n).wf = true) x.f4 ∧ p30 x.f5
theorem o32 : Opens Try.prog t32 32 p32 :=
 opens_struct (fl := [(3, 1), (3, 1), (3, 1), (3, 1), (27, 1), (30, 3)]) (opensF_cons 1 (opens_int (by kernel_rfl)) (opensF_cons 1 (opens_int (by kernel_rfl)) (opensF_cons 1 (opens_int (by kernel_rfl)) (opensF_cons 1 (opens_int (by kernel_rfl)) (opensF_cons 1 (opens_int (by kernel_rfl)) (opensF_one o30 3)))))) (by kernel_rfl) (by kernel_rfl) (by kernel_rfl) (fun (x : S32) => (x.f0, x.f1, x.f2, x.f3, x.f4, x.f5)) (fun y => ⟨y.1, y.2.1, y.2.2.1, y.2.2.2.1, y.2.2.2.2.1, y.2.2.2.2.2⟩) (fun _ => rfl)
def p24 (x : S24) : Prop := (fun n => (Lit.int .i64 n).wf = true) x.f0 ∧ (fun n => (Lit.int .i64 n).wf = true) x.f1
theorem o24 : Opens Try.prog t24 24 p24 :=
 opens_struct (fl := [(3, 1), (3, 1)]) (opensF_cons 1 (opens_int (by kernel_rfl)) (opensF_one (opens_int (by kernel_rfl)) 1)) (by kernel_rfl) (by kernel_rfl) (by kernel_rfl) (fun (x : S24) => (x.f0, x.f1)) (fun y => ⟨y.1, y.2⟩) (fun _ => rfl)
def p72 (x : S72) : Prop := (fun n => (Lit.int .i64 n).wf = true) x.f0 ∧ (fun n => (Lit.int .i64 n).wf = true) x.f1 ∧ p24 x.f2
theorem o72 : Opens Try.prog t72 72 p72 :=
 opens_struct (fl := [(3, 1), (3, 1), (24, 2)]) (opensF_cons 1 (opens_int (by kernel_rfl)) (opensF_cons 1 (opens_int (by kernel_rfl)) (opensF_one o24 2))) (by kernel_rfl) (by kernel_rfl) (by kernel_rfl) (fun (x : S72) => (x.f0, x.f1, x.f2)) (fun y => ⟨y.1, y.2.1, y.2.2⟩) (fun _ => rfl)
def p26 (x : S26) : Prop := (fun l => ∀ x ∈ l, p32 x) x.f0 ∧ (fun n => (Lit.int .u8 n).wf = true) x.f1 ∧ p24 x.f2
theorem o26 : Opens Try.prog t26 26 p26 :=
 opens_struct (fl := [(22, 1), (5, 1), (24, 2)]) (opensF_cons 1 (opens_slice (e := 32) o32 (by kernel_rfl) (by kernel_rfl) (Nat.le_of_ble_eq_true (by kernel_rfl))) (opensF_cons 1 (opens_int (by kernel_rfl)) (opensF_one o24 2))) (by kernel_rfl) (by kernel_rfl) (by kernel_rfl) (fun (x : S26) => (x.f0, x.f1, x.f2)) (fun y => ⟨y.1, y.2.1, y.2.2⟩) (fun _ => rfl)
def p34 (x : S34) : Prop := p32 x.f0 ∧ (fun n => (Lit.int .i64 n).wf = true) x.f1 ∧ (fun n => (Lit.int .i64 n).wf = true) x.f2
theorem o34 : Opens Try.prog t34 34 p34 :=
 opens_struct (fl := [(32, 8), (3, 1), (3, 1)]) (opensF_cons 8 o32 (opensF_cons 1 (opens_int (by kernel_rfl)) (opensF_one (opens_int (by kernel_rfl)) 1))) (by kernel_rfl) (by kernel_rfl) (by kernel_rfl) (fun (x : S34) => (x.f0, x.f1, x.f2)) (fun y => ⟨y.1, y.2.1, y.2.2⟩) (fun _ => rfl)
def p51 (x : S51) : Prop := (fun n => (Lit.int .u64 n).wf = true) x.f0 ∧ (fun n => (Lit.int .u64 n).wf = true) x.f1
theorem o51 : Opens Try.prog t51 51 p51 :=
 opens_array (n := 2) (e := 50) (fl := [(50, 1), (50, 1)]) (opensF_cons 1 (opens_int (by kernel_rfl)) (opensF_one (opens_int (by kernel_rfl)) 1)) (by kernel_rfl) (by kernel_rfl) (by kernel_rfl) (fun (x : S51) => (x.f0, x.f1)) (fun y => ⟨y.1, y.2⟩) (fun _ => rfl)
def p59 (x : S59) : Prop := (fun n => (Lit.int .u8 n).wf = true) x.f0 ∧ (fun n => (Lit.int .u8 n).wf = true) x.f1 ∧ (fun _ => True) x.f2 ∧ (fun n => (Lit.int .u32 n).wf = true) x.f3 ∧ (fun n => (Lit.int .u32 n).wf = true) x.f4
theorem o59 : Opens Try.prog t59 59 p59 :=
 opens_struct (fl := [(5, 1), (5, 1), (4, 1), (27, 1), (27, 1)]) (opensF_cons 1 (opens_int (by kernel_rfl)) (opensF_cons 1 (opens_int (by kernel_rfl)) (opensF_cons 1 (opens_bool (by kernel_rfl)) (opensF_cons 1 (opens_int (by kernel_rfl)) (opensF_one (opens_int (by kernel_rfl)) 1))))) (by kernel_rfl) (by kernel_rfl) (by kernel_rfl) (fun (x : S59) => (x.f0, x.f1, x.f2, x.f3, x.f4)) (fun y => ⟨y.1, y.2.1, y.2.2.1, y.2.2.2.1, y.2.2.2.2⟩) (fun _ => rfl)

end Go.Proofs.Ytieakigoinebdaa
namespace Go.Proofs.Ytieakigoinebdaa.enc
open Go Go.Proofs.Ytieakigoinebdaa Go.Proofs.Ytieakigoinebdaa.RW crc
set_option linter.unusedVariables false
set_option maxRecDepth 100000
theorem wrap64 {n : Nat} (h : n < 18446744073709551616) : IntKind.u64.wrap (n : Int) = (n : Int) := by
 have h2 : (2 : Int) ^ 64 = 18446744073709551616 := by decide
 unfold IntKind.wrap
 simp only [IntKind.bits, IntKind.signed, h2, Bool.false_and, Bool.false_eq_true, if_false]
 exact Int.emod_eq_of_lt (by omega) (by omega)
theorem xor64 {a b : Nat} (ha : a < 18446744073709551616) (hb : b < 18446744073709551616) : bXor .u64 (a : Int) (b : Int) = ((a ^^^ b : Nat) : Int) := by
 have hx : a ^^^ b < 18446744073709551616 := Nat.xor_lt_two_pow (n := 64) ha hb
 show IntKind.u64.wrap (((BitVec.ofInt 64 (a : Int)) ^^^ (BitVec.ofInt 64 (b : Int))).toNat : Int) = _
 rw [BitVec.ofInt_natCast, BitVec.ofInt_natCast, BitVec.toNat_xor, BitVec.toNat_ofNat, BitVec.toNat_ofNat]
 rw [Nat.mod_eq_of_lt (show a < 2 ^ 64 from ha), Nat.mod_eq_of_lt (show b < 2 ^ 64 from hb)]
 exact wrap64 hx
def byte (x : Int) : Prop := 0 ≤ x ∧ x ≤ 255
theorem wrap8_byte (x : Int) : byte (IntKind.u8.wrap x) := by
 have h2 : (2 : Int) ^ 8 = 256 := by decide
 unfold IntKind.wrap byte
 simp only [IntKind.bits, IntKind.signed, h2, Bool.false_and, Bool.false_eq_true, if_false]
 omega
def vl : Nat → Int → List Int
 | 0, u => [W .u8 u]
 | j + 1, u => if u ≥ 128 then bOr .u8 (W .u8 u) 128 :: vl j (Int.fdiv u 128) else [W .u8 u]
theorem vl_byte : ∀ (j : Nat) (u : Int), ∀ x ∈ vl j u, byte x
 | 0, u, x, h => by rw [List.mem_singleton.1 h]; exact wrap8_byte _
 | j + 1, u, x, h => by
  simp only [vl] at h
  split at h
  ·rcases List.mem_cons.1 h with rfl | h
   ·exact wrap8_byte _
   ·exact vl_byte j _ x h
  ·rw [List.mem_singleton.1 h]; exact wrap8_byte _
theorem vl_len : ∀ (j : Nat) (u : Int), (vl j u).length ≤ j + 1
 | 0, _ => Nat.le_refl _
 | j + 1, u => by
  simp only [vl]
  split
  ·have := vl_len j (Int.fdiv u 128)
   rw [List.length_cons]; omega
  ·simp
theorem codec_l1 : ∀ (j : Nat) (u : Int) (x : List Int) (k : Nat), 0 ≤ u → u < 128 ^ (j + 1) → x.length + j ≤ 1000000 → codec_AppendVarint.l1 (k + j + 1) x u = some (x ++ vl j u) := by
 intro j
 induction j with
 | zero =>
  intro u x k h0 h1 hl
  simp only [codec_AppendVarint.l1, vl]
  rw [if_neg (by omega), if_pos (by simp; omega)]
 | succ j ih =>
  intro u x k h0 h1 hl
  rw [show k + (j + 1) + 1 = (k + j + 1) + 1 from by omega]
  have hd : Int.fdiv u 128 = u / 128 := Int.fdiv_eq_ediv_of_nonneg _ (by omega)
  have hlt : u / 128 < 128 ^ (j + 1) := by
   refine Int.ediv_lt_of_lt_mul (by omega) ?_
   rw [Int.pow_succ] at h1
   exact h1
  have hnext := ih (Int.fdiv u 128) (x ++ [bOr .u8 (W .u8 u) 128]) k (by rw [hd]; omega) (by rw [hd]; exact hlt) (by simp; omega)
  generalize k + j + 1 = K at hnext
  simp only [codec_AppendVarint.l1, vl]
  by_cases h : u ≥ 128
  ·rw [if_pos h, if_pos (by simp; omega), hnext, if_pos h]
   simp
  ·rw [if_neg h, if_pos (by simp; omega), if_neg h]
theorem ref_l1v : ∀ (j : Nat) (u : Int) (x : List Int) (k : Nat), 0 ≤ u → u < 128 ^ (j + 1) → x.length + j ≤ 1000000 → (armillaryref27_AppendVarint.l1 (k + j + 1) u x).bind armillaryref27_AppendVarint.k1 = some (x ++ vl j u) := by
 intro j
 induction j with
 | zero =>
  intro u x k h0 h1 hl
  simp only [armillaryref27_AppendVarint.l1, vl]
  rw [if_neg (by omega), Option.bind_some]
  simp only [armillaryref27_AppendVarint.k1]
  rw [if_pos (by simp; omega)]
 | succ j ih =>
  intro u x k h0 h1 hl
  rw [show k + (j + 1) + 1 = (k + j + 1) + 1 from by omega]
  have hd : Int.fdiv u 128 = u / 128 := Int.fdiv_eq_ediv_of_nonneg _ (by omega)
  have hlt : u / 128 < 128 ^ (j + 1) := by
   refine Int.ediv_lt_of_lt_mul (by omega) ?_
   rw [Int.pow_succ] at h1
   exact h1
  have hnext := ih (Int.fdiv u 128) (x ++ [bOr .u8 (W .u8 u) 128]) k (by rw [hd]; omega) (by rw [hd]; exact hlt) (by simp; omega)
  generalize k + j + 1 = K at hnext
  simp only [armillaryref27_AppendVarint.l1, vl]
  by_cases h : u ≥ 128
  ·rw [if_pos h, if_pos (by simp; omega), hnext, if_pos h]
   simp
  ·rw [if_neg h, if_neg h, Option.bind_some]
   simp only [armillaryref27_AppendVarint.k1]
   rw [if_pos (by simp; omega)]
theorem codec_f {n : Int} {x : List Int} (h0 : 0 ≤ n) (h1 : n ≤ 20000) (hx : x.length ≤ 100000) (k : Nat) : codec_AppendVarint.f (k + 10) x n = some (x ++ vl 2 (n * 2)) := by
 obtain ⟨m, rfl⟩ : ∃ m : Nat, n = (m : Int) := ⟨n.toNat, by omega⟩
 have e1 : W .i64 ((m : Int) * 2) = ((m * 2 : Nat) : Int) := by rw [W64 (by omega) (by omega)]; omega
 have e2 : W .u64 ((m * 2 : Nat) : Int) = ((m * 2 : Nat) : Int) := wrap64 (by omega)
 have e3 : Int.fdiv (m : Int) 9223372036854775808 = ((0 : Nat) : Int) := by
  rw [Int.fdiv_eq_ediv_of_nonneg _ (by omega)]
  omega
 have e4 : W .u64 ((0 : Nat) : Int) = ((0 : Nat) : Int) := wrap64 (by omega)
 have hu : bXor .u64 (W .u64 (W .i64 ((m : Int) * 2))) (W .u64 (Int.fdiv (m : Int) 9223372036854775808)) = (m : Int) * 2 := by
  rw [e1, e2, e3, e4, xor64 (by omega) (by omega), Nat.xor_zero]
  omega
 have h := codec_l1 2 ((m : Int) * 2) x (k + 8) (by omega) (by omega) (by omega)
 rw [show k + 8 + 2 + 1 = (k + 10) + 1 from by omega] at h
 unfold codec_AppendVarint.f slices_Clip_byte_byte.f
 rw [Option.bind_some, hu]
 generalize k + 10 = K at h ⊢
 simp only [codec_AppendVarint.l1] at h
 exact h
theorem ref_f {n : Int} {x : List Int} (h0 : 0 ≤ n) (h1 : n ≤ 20000) (hx : x.length ≤ 100000) (k : Nat) : armillaryref27_AppendVarint.f (k + 10) x n = some (x ++ vl 2 (n * 2)) := by
 obtain ⟨m, rfl⟩ : ∃ m : Nat, n = (m : Int) := ⟨n.toNat, by omega⟩
 have e2 : W .u64 (m : Int) = (m : Int) := wrap64 (by omega)
 have e3 : W .u64 ((m : Int) * 2) = (m : Int) * 2 := by
  rw [show (m : Int) * 2 = ((m * 2 : Nat) : Int) by omega]
  exact wrap64 (by omega)
 have h := ref_l1v 2 ((m : Int) * 2) x (k + 7) (by omega) (by omega) (by omega)
 rw [show k + 7 + 2 + 1 = k + 10 from by omega] at h
 unfold armillaryref27_AppendVarint.f
 rw [if_neg (by omega), Option.bind_some, e2, e3]
 unfold armillaryref27_AppendVarint.k2
 rw [if_pos (by simp; omega), List.nil_append]
 exact h
/-! ### entries -/
theorem valid_both (e : S30) : ∃ b, codec_validEntry.f e = some b ∧ armillaryref27_ValidEntry.f e = some b ∧ (b = true → 1 ≤ e.f0 ∧ e.f0 ≤ 4 ∧ e.f1.size ≤ 40 ∧ e.f2.length ≤ 20000) := by
 unfold codec_validEntry.f armillaryref27_ValidEntry.f
 by_cases c1 : e.f0 ≥ 1
 ·by_cases c2 : e.f0 ≤ 4
  ·by_cases c3 : (e.f1.size : Int) ≥ 1
   ·by_cases c4 : (e.f1.size : Int) ≤ 40
    ·refine ⟨decide ((e.f2.length : Int) ≤ 20000), ?_, ?_, fun h => ?_⟩
     ·rw [if_pos c1, if_pos c2, if_pos c3, if_pos c4]; rfl
     ·rw [if_pos c1, if_pos c2, if_pos c3, if_pos c4]; rfl
     ·have := of_decide_eq_true h
      exact ⟨c1, c2, by omega, by omega⟩
    ·exact ⟨false, by rw [if_pos c1, if_pos c2, if_pos c3, if_neg c4]; rfl, by rw [if_pos c1, if_pos c2, if_pos c3, if_neg c4]; rfl, fun h => by cases h⟩
   ·exact ⟨false, by rw [if_pos c1, if_pos c2, if_neg c3]; rfl, by rw [if_pos c1, if_pos c2, if_neg c3]; rfl, fun h => by cases h⟩
  ·exact ⟨false, by rw [if_pos c1, if_neg c2]; rfl, by rw [if_pos c1, if_neg c2]; rfl, fun h => by cases h⟩
 ·exact ⟨false, by rw [if_neg c1]; rfl, by rw [if_neg c1]; rfl, fun h => by cases h⟩
theorem bytesOf_byte (s : ByteArray) : ∀ x ∈ bytesOf s, byte x := by
 intro x hx
 unfold bytesOf at hx
 obtain ⟨b, _, rfl⟩ := List.mem_map.1 hx
 have := b.toNat_lt
 unfold byte
 omega
theorem both {e : S30} (hb : ∀ x ∈ e.f2, byte x) : ∃ bs code, (∀ k, codec_EncodeEntry.f (k + 10) e = some (bs, code)) ∧ (∀ k, armillaryref27_EncodeEntry.f (k + 10) e = some (bs, code)) ∧ bs.length ≤ 30000 ∧ ∀ x ∈ bs, byte x := by
 obtain ⟨b, v1, v2, v3⟩ := valid_both e
 cases b with
 | false =>
  refine ⟨[], 1, fun k => ?_, fun k => ?_, by simp, fun x hx => by cases hx⟩
  ·unfold codec_EncodeEntry.f; rw [v1, Option.bind_some, if_neg (by decide)]
  ·unfold armillaryref27_EncodeEntry.f; rw [v2, Option.bind_some, if_neg (by decide)]
 | true =>
  obtain ⟨r1, r2, r3, r4⟩ := v3 rfl
  have l1 := vl_len 2 (e.f0 * 2)
  have l2 := vl_len 2 ((e.f1.size : Int) * 2)
  have l3 := vl_len 2 ((e.f2.length : Int) * 2)
  have hlen : (bytesOf e.f1).length = e.f1.size := bytesOf_length e.f1
  refine ⟨(((vl 2 (e.f0 * 2) ++ vl 2 ((e.f1.size : Int) * 2)) ++ bytesOf e.f1) ++ vl 2 ((e.f2.length : Int) * 2)) ++ e.f2, 0, fun k => ?_, fun k => ?_, by simp only [List.length_append]; omega, fun x hx => ?_⟩
  ·unfold codec_EncodeEntry.f
   rw [v1, Option.bind_some, if_pos rfl, codec_f (by omega) (by omega) (by simp), Option.bind_some, if_pos (by omega), List.nil_append]
   unfold codec_appendBytes.f
   rw [hlen, codec_f (by omega) (by omega) (by omega), Option.bind_some, if_pos (by simp only [List.length_append]; omega), Option.bind_some, codec_f (by omega) (by omega) (by simp only [List.length_append]; omega), Option.bind_some, if_pos (by simp only [List.length_append]; omega), Option.bind_some]
  ·unfold armillaryref27_EncodeEntry.f
   rw [v2, Option.bind_some, if_pos rfl, ref_f (by omega) (by omega) (by simp), Option.bind_some, List.nil_append, ref_f (by omega) (by omega) (by omega), Option.bind_some, if_pos (by omega), if_pos (by simp only [List.length_append]; omega), ref_f (by omega) (by omega) (by simp only [List.length_append]; omega), Option.bind_some, if_pos (by simp only [List.length_append]; omega)]
  ·rcases List.mem_append.1 hx with hx | hx
   ·rcases List.mem_append.1 hx with hx | hx
    ·rcases List.mem_append.1 hx with hx | hx
     ·rcases List.mem_append.1 hx with hx | hx
      ·exact vl_byte _ _ x hx
      ·exact vl_byte _ _ x hx
     ·exact bytesOf_byte _ x hx
    ·exact vl_byte _ _ x hx
   ·exact hb x hx
/-- The sum of an entry, told twice. -/
theorem sum_both {e : S30} (hb : ∀ x ∈ e.f2, byte x) : ∃ bs code s, (∀ k, codec_EncodeEntry.f (k + 40000) e = some (bs, code)) ∧ codec_Checksum.f bs = some s ∧ ∀ k, armillaryref29_Sum.f (k + 40000) e = some (s, code == 0) := by
 obtain ⟨bs, code, h1, h2, h3, h4⟩ := both hb
 obtain ⟨s, h5, h6⟩ := sums h3 h4
 refine ⟨bs, code, s, fun k => h1 (k + 39990), h5, fun k => ?_⟩
 unfold armillaryref29_Sum.f
 rw [h2 (k + 39990), Option.bind_some, h6 k, Option.bind_some]
end Go.Proofs.Ytieakigoinebdaa.enc
namespace Go.Proofs.Ytieakigoinebdaa
open Go Go.Proofs.Ytieakigoinebdaa.RW
set_option linter.unusedVariables false
set_option maxRecDepth 100000
set_option maxHeartbeats 8000000

/-! ### armillarylaw29_vote: function 29, armillary/armillarylaw29.vote -/
noncomputable def K29_0 : Code := cBody Try.f29
noncomputable def K29_1 : Code := cL K29_0
noncomputable def O29_1 : List Oper := cOps K29_1
noncomputable def K29_3 : Code := cR K29_0
noncomputable def K29_4 : Code := cL K29_3
noncomputable def O29_4 : List Oper := cOps K29_4
noncomputable def K29_6 : Code := cR K29_3
def armillarylaw29_vote.f (a0 : Int) (a1 : Int) (a2 : Int) (a3 : Int) : Option (S32) := (some (⟨a0, a1, a2, 0, a3, (⟨0, (⟨#[]⟩ : ByteArray), []⟩ : S30)⟩ : S32))
def armillarylaw29_vote.Post (I : Imm) (w : World) (r : S32) (v : Value) (w' : World) : Prop :=
 ∃ (J : Imm) (A0_5_2 : Option Addr) (c0_5_2 : Nat) (cs0_5_2 : List Value), v = .agg #[.int .i64 r.f0, .int .i64 r.f1, .int .i64 r.f2, .int .i64 r.f3, .int .u32 r.f4, .int .i64 r.f5.f0, .string r.f5.f1, .slice A0_5_2 r.f5.f2.length c0_5_2] ∧ Got w w' I J [orow 5 1 A0_5_2 r.f5.f2.length c0_5_2 cs0_5_2] ∧ Reps (Ty.int .u8) J r.f5.f2 cs0_5_2
theorem armillarylaw29_vote.calls (I0 : Imm) (a0 : Int) (a1 : Int) (a2 : Int) (a3 : Int) (w : World) (hI : I0.at_ w)  (r : S32) (h : armillarylaw29_vote.f a0 a1 a2 a3 = some r) :
  Calls Try.prog 29 [.int .i64 a0, .int .i64 a1, .int .i64 a2, .int .u32 a3].toArray w fun e w' => ∃ v, e = .returned v ∧ armillarylaw29_vote.Post I0 w r v w' := by
 have H : (some (⟨a0, a1, a2, 0, a3, (⟨0, (⟨#[]⟩ : ByteArray), []⟩ : S30)⟩ : S32)) = some r := h
 clear h
 refine calls_body Try.func29 (by kernel_rfl) 14 (by kernel_rfl) (by kernel_rfl) ⟨w, fun _ => False, I0⟩ I0 [] [(0, .int .i64 a0), (1, .int .i64 a1), (2, .int .i64 a2), (3, .int .u32 a3)] (by kernel_rfl) (Sat.start w _ I0 hI) ?_
 generalize w.heap.size = nx0
 show OK _ K29_0 _ _ _ _ _ _ _ _
 refine OK.seq K29_1 K29_3 (by kernel_rfl) ?_
 refine OK.region 0 O29_1 (by kernel_rfl) ?_
 refine RL.simP (K' := [(8, .pointer (some ⟨nx0, 0, none⟩)), (0, .int .i64 a0), (1, .int .i64 a1), (2, .int .i64 a2), (3, .int .u32 a3)]) (nx' := nx0 + 1) (L' := [⟨nx0, [.int .i64 0, .int .i64 0, .int .i64 0, .int .i64 0, .int .u32 0, .int .i64 0, .string (⟨#[]⟩ : ByteArray), .slice none 0 0], 32⟩]) [] (RFacts.nil _ _ _) 1 [.no] (by kernel_rfl) (by kernel_rfl) ?_
 refine RL.nil (by kernel_rfl) ?_
 refine QN.then_ ?_
 refine OK.seq K29_4 K29_6 (by kernel_rfl) ?_
 refine OK.region 1 O29_4 (by kernel_rfl) ?_
 refine RL.simP (K' := [(8, .pointer (some ⟨nx0, 0, none⟩))]) (nx' := nx0 + 1) (L' := [⟨nx0, [.int .i64 a0, .int .i64 a1, .int .i64 a2, .int .i64 0, .int .u32 a3, .int .i64 0, .string (⟨#[]⟩ : ByteArray), .slice none 0 0], 32⟩]) [] (RFacts.nil _ _ _) 6 [.no, .no, .no, .no, .no, .l 0] (by kernel_rfl) (by kernel_rfl) ?_
 refine RL.nil (by kernel_rfl) ?_
 refine QN.then_ ?_
 refine OK.ret (by kernel_rfl) ?_
 obtain rfl := Option.some.inj H
 refine QN.body rfl [] (RFacts.nil _ _ _) (.l 0) (.agg #[.int .i64 a0, .int .i64 a1, .int .i64 a2, .int .i64 0, .int .u32 a3, .int .i64 0, .string (⟨#[]⟩ : ByteArray), .slice none 0 0]) (by kernel_rfl) (by kernel_rfl) (by kernel_rfl) ?_ _ (.inr rfl)
 exact fun w' hs' => ⟨_, rfl, I0, none, 0, [], rfl, gotNil1 (hs'.got [] (List.nil_sublist _)), rfl⟩

end Go.Proofs.Ytieakigoinebdaa
namespace Go.Proofs.Ytieakigoinebdaa
open Go Go.Proofs.Ytieakigoinebdaa.RW
set_option linter.unusedVariables false
set_option maxRecDepth 100000
set_option maxHeartbeats 8000000

/-! ### armillarylaw29_slot: function 30, armillary/armillarylaw29.slot -/
noncomputable def K30_0 : Code := cBody Try.f30
noncomputable def K30_1 : Code := cL K30_0
noncomputable def O30_1 : List Oper := cOps K30_1
noncomputable def K30_3 : Code := cR K30_0
noncomputable def K30_4 : Code := cL K30_3
noncomputable def O30_4 : List Oper := cOps K30_4
noncomputable def K30_6 : Code := cR K30_3
def armillarylaw29_slot.f (a0 : Int) : Option (S24) := (some (⟨a0, 0⟩ : S24))
def armillarylaw29_slot.Post (I : Imm) (w : World) (r : S24) (v : Value) (w' : World) : Prop :=
 ∃ (J : Imm), v = .agg #[.int .i64 r.f0, .int .i64 r.f1] ∧ Got w w' I J []
theorem armillarylaw29_slot.calls (I0 : Imm) (a0 : Int) (w : World) (hI : I0.at_ w)  (r : S24) (h : armillarylaw29_slot.f a0 = some r) :
  Calls Try.prog 30 [.int .i64 a0].toArray w fun e w' => ∃ v, e = .returned v ∧ armillarylaw29_slot.Post I0 w r v w' := by
 have H : (some (⟨a0, 0⟩ : S24)) = some r := h
 clear h
 refine calls_body Try.func30 (by kernel_rfl) 5 (by kernel_rfl) (by kernel_rfl) ⟨w, fun _ => False, I0⟩ I0 [] [(0, .int .i64 a0)] (by kernel_rfl) (Sat.start w _ I0 hI) ?_
 generalize w.heap.size = nx0
 show OK _ K30_0 _ _ _ _ _ _ _ _
 refine OK.seq K30_1 K30_3 (by kernel_rfl) ?_
 refine OK.region 0 O30_1 (by kernel_rfl) ?_
 refine RL.simP (K' := [(2, .pointer (some ⟨nx0, 0, none⟩)), (0, .int .i64 a0)]) (nx' := nx0 + 1) (L' := [⟨nx0, [.int .i64 0, .int .i64 0], 24⟩]) [] (RFacts.nil _ _ _) 1 [.no] (by kernel_rfl) (by kernel_rfl) ?_
 refine RL.nil (by kernel_rfl) ?_
 refine QN.then_ ?_
 refine OK.seq K30_4 K30_6 (by kernel_rfl) ?_
 refine OK.region 1 O30_4 (by kernel_rfl) ?_
 refine RL.simP (K' := [(2, .pointer (some ⟨nx0, 0, none⟩))]) (nx' := nx0 + 1) (L' := [⟨nx0, [.int .i64 a0, .int .i64 0], 24⟩]) [] (RFacts.nil _ _ _) 3 [.no, .no, .l 0] (by kernel_rfl) (by kernel_rfl) ?_
 refine RL.nil (by kernel_rfl) ?_
 refine QN.then_ ?_
 refine OK.ret (by kernel_rfl) ?_
 obtain rfl := Option.some.inj H
 refine QN.body rfl [] (RFacts.nil _ _ _) (.l 0) (.agg #[.int .i64 a0, .int .i64 0]) (by kernel_rfl) (by kernel_rfl) (by kernel_rfl) ?_ _ (.inr rfl)
 exact fun w' hs' => ⟨_, rfl, I0, rfl, hs'.got _ .slnil⟩

end Go.Proofs.Ytieakigoinebdaa
namespace Go.Proofs.Ytieakigoinebdaa
open Go Go.Proofs.Ytieakigoinebdaa.RW
set_option linter.unusedVariables false
set_option maxRecDepth 100000
set_option maxHeartbeats 8000000

/-! ### armillarylaw29_sanity: function 10, armillary/armillarylaw29.sanity -/
noncomputable def K10_0 : Code := cBody Try.f10
noncomputable def K10_1 : Code := cL K10_0
noncomputable def O10_1 : List Oper := cOps K10_1
noncomputable def K10_3 : Code := cR K10_0
noncomputable def K10_4 : Code := cL K10_3
noncomputable def O10_4 : List Oper := cOps K10_4
noncomputable def K10_6 : Code := cR K10_3
noncomputable def K10_7 : Code := cL K10_6
noncomputable def O10_7 : List Oper := cOps K10_7
noncomputable def K10_9 : Code := cR K10_6
noncomputable def K10_10 : Code := cL K10_9
noncomputable def O10_10 : List Oper := cOps K10_10
noncomputable def K10_12 : Code := cR K10_9
noncomputable def K10_13 : Code := cL K10_12
noncomputable def O10_13 : List Oper := cOps K10_13
noncomputable def K10_15 : Code := cR K10_12
noncomputable def K10_16 : Code := cL K10_15
noncomputable def O10_16 : List Oper := cOps K10_16
noncomputable def K10_18 : Code := cR K10_15
noncomputable def K10_19 : Code := cL K10_18
noncomputable def O10_19 : List Oper := cOps K10_19
noncomputable def K10_21 : Code := cR K10_18
noncomputable def K10_22 : Code := cL K10_21
noncomputable def O10_22 : List Oper := cOps K10_22
noncomputable def K10_24 : Code := cR K10_21
noncomputable def K10_25 : Code := cL K10_24
noncomputable def O10_25 : List Oper := cOps K10_25
noncomputable def K10_27 : Code := cR K10_24
noncomputable def K10_28 : Code := cL K10_27
noncomputable def O10_28 : List Oper := cOps K10_28
noncomputable def K10_30 : Code := cR K10_27
noncomputable def K10_31 : Code := cL K10_30
noncomputable def O10_31 : List Oper := cOps K10_31
noncomputable def K10_33 : Code := cR K10_30
noncomputable def K10_34 : Code := cL K10_33
noncomputable def O10_34 : List Oper := cOps K10_34
noncomputable def K10_36 : Code := cR K10_33
noncomputable def K10_37 : Code := cL K10_36
noncomputable def O10_37 : List Oper := cOps K10_37
noncomputable def K10_39 : Code := cR K10_36
noncomputable def K10_40 : Code := cL K10_39
noncomputable def O10_40 : List Oper := cOps K10_40
noncomputable def K10_42 : Code := cR K10_39
noncomputable def K10_43 : Code := cL K10_42
noncomputable def O10_43 : List Oper := cOps K10_43
noncomputable def K10_45 : Code := cR K10_42
noncomputable def K10_46 : Code := cL K10_45
noncomputable def O10_46 : List Oper := cOps K10_46
noncomputable def K10_48 : Code := cR K10_45
def armillarylaw29_sanity.k1  (x1 : Bool) : Option (Bool) := (some x1)
def armillarylaw29_sanity.f (k : Nat)  : Option (Bool) := ((armillarylaw29_vote.f 2 0 1 7).bind fun t1 => ((armillarylaw29_vote.f 2 1 1 7).bind fun t2 => ((armillarylaw29_vote.f 2 2 1 7).bind fun t3 => ((armillarylaw29_vote.f 2 2 1 8).bind fun t4 => ((armillarylaw29_vote.f 3 0 1 7).bind fun t5 => ((armillarylaw29_vote.f 3 0 1 7).bind fun t6 => ((armillarylaw29_vote.f 3 3 1 7).bind fun t7 => ((armillarylaw29_slot.f 1).bind fun t8 => ((quorum_Prepared.f k [t1, t2, t3, t4, t5, t6, t7] 4 t8).bind fun t9 => (if (0 : Int) ≤ (2 : Int) then (if (2 : Int) ≤ ([t1, t2, t3, t4, t5, t6, t7].length : Int) then ((armillarylaw29_slot.f 1).bind fun t10 => ((quorum_Prepared.f k (rpart [t1, t2, t3, t4, t5, t6, t7] 0 (2 : Int)) 4 t10).bind fun t11 => ((armillarylaw29_slot.f 1).bind fun t12 => ((quorum_Committed.f k [t1, t2, t3, t4, t5, t6, t7] 4 t12).bind fun t13 => ((armillaryref29_Sum.f k (⟨1, (⟨#[97]⟩ : ByteArray), []⟩ : S30)).bind fun t14 => ((armillarylaw29_vote.f 2 0 1 t14.1).bind fun t15 => ((armillarylaw29_vote.f 2 1 1 t14.1).bind fun t16 => ((armillarylaw29_vote.f 2 3 1 t14.1).bind fun t17 => ((armillarylaw29_slot.f 2).bind fun t18 => ((quorum_HighestPrepared.f k [t15, t16, t17, (⟨1, 1, 1, 0, t14.1, (⟨1, (⟨#[97]⟩ : ByteArray), []⟩ : S30)⟩ : S32)] 4 t18).bind fun t19 => ((armillarylaw29_slot.f 1).bind fun t20 => ((quorum_HighestPrepared.f k [t15, t16, t17, (⟨1, 1, 1, 0, t14.1, (⟨1, (⟨#[97]⟩ : ByteArray), []⟩ : S30)⟩ : S32)] 4 t20).bind fun t21 => (((quorum_MaxFaulty.f 4).bind fun t22 => (if t22 = 1 then ((quorum_Size.f 4).bind fun t23 => (if t23 = 3 then ((quorum_Size.f 13).bind fun t24 => (if t24 = 9 then ((quorum_Size.f 14).bind fun t25 => (if t25 = 0 then ((quorum_Leader.f 4 6).bind fun t26 => (if t26 = 2 then ((quorum_Leader.f 0 1).bind fun t27 => (if t27 = (-1) then (if t9.2 = true then (if t9.1 = 7 then (if t11.2 = true then (some false) else (if t13.2 = true then (some false) else (if t19.2 = true then ((armillaryref29_Same.f (⟨1, (⟨#[97]⟩ : ByteArray), []⟩ : S30) t19.1).bind fun t28 => (if t28 = true then (if t21.2 = true then (some false) else ((quorum_Valid.f k (⟨1, 1, 1, 0, t14.1, (⟨1, (⟨#[97]⟩ : ByteArray), []⟩ : S30)⟩ : S32) 4).bind fun t29 => (if t29 = true then ((quorum_Valid.f k (⟨1, 1, 1, 0, W .u32 (t14.1 + 1), (⟨1, (⟨#[97]⟩ : ByteArray), []⟩ : S30)⟩ : S32) 4).bind fun t30 => (if t30 = true then (some false) else ((quorum_Valid.f k (⟨1, 2, 1, 0, t14.1, (⟨1, (⟨#[97]⟩ : ByteArray), []⟩ : S30)⟩ : S32) 4).bind fun t31 => (if t31 = true then (some false) else ((armillarylaw29_vote.f 4 0 5 0).bind fun t32 => ((quorum_Valid.f k t32 1).bind fun t33 => (if t33 = true then ((armillarylaw29_vote.f 4 0 5 1).bind fun t34 => ((quorum_Valid.f k t34 1).bind fun t35 => (if t35 = true then (some false) else ((armillarylaw29_vote.f 2 4 0 0).bind fun t36 => ((quorum_Valid.f k t36 4).bind fun t37 => (if t37 = true then (some false) else ((armillarylaw29_vote.f 5 0 0 0).bind fun t38 => ((quorum_Valid.f k t38 4).bind fun t39 => (some (!t39)))))))))) else (some false)))))))) else (some false)))) else (some false))) else (some false)))) else (some false)) else (some false)) else (some false))) else (some false))) else (some false))) else (some false))) else (some false))) else (some false))).bind (armillarylaw29_sanity.k1)))))))))))))) else none) else none))))))))))
def armillarylaw29_sanity.Post (I : Imm) (w : World) (r : Bool) (v : Value) (w' : World) : Prop :=
 ∃ (J : Imm), v = .bool r ∧ Got w w' I J []
noncomputable def a10_10n : List Nat := [0, 1, 0, 7, 15, 31, 31, 63, 255]
theorem a10_10 : ancs O10_10 [] = a10_10n := by kernel_rfl
theorem a10_10o : drawOk O10_10 a10_10n 8 = true := by kernel_rfl
noncomputable def u10d1l (t10 : S24) (t11 : Int × Bool) : List Ld :=
 [⟨2, fun x => .agg #[.int .i64 t10.f0, .int .i64 t10.f1], fun x => [], fun x J => True, fun x J J' h f => trivial⟩,
  ⟨3, fun x => .tuple #[.int .u32 t11.1, .bool t11.2], fun x => [], fun x J => True, fun x J J' h f => trivial⟩]
noncomputable def u10d1g (t1 : S32) (t2 : S32) (t3 : S32) (t4 : S32) (t5 : S32) (t6 : S32) (t7 : S32) (nx7 : Nat) : List (Nat × ((Nat → Wt) → Value)) := [(1, fun u => .slice (slA (some ⟨nx7, 0, none⟩) (0 : Int).toNat 7 8) ((rpart [t1, t2, t3, t4, t5, t6, t7] 0 (2 : Int)).length) (7 - (0 : Int).toNat))]
noncomputable def u10d1q (t1 : S32) (t2 : S32) (t3 : S32) (t4 : S32) (t5 : S32) (t6 : S32) (t7 : S32) (nx7 : Nat) (t9 : Int × Bool) (t10 : S24) (t11 : Int × Bool) (u : Nat → Wt) : Option (List Value × List (Nat × Value) × List (Nat × Nat)) := qSim Try.prog [] [] O10_10 ⟨163, []⟩ (Ld.vl (u10d1l t10 t11)) (u10d1g t1 t2 t3 t4 t5 t6 t7 nx7) u [.no, .no, .no, .no, .no, .no, .no, .no] 0 (O10_10.take 8) [(3, .bool t9.2), (2, .int .u32 t9.1), (1, .slice (some ⟨nx7, 0, none⟩) 7 7)]
noncomputable def u10d1s (t1 : S32) (t2 : S32) (t3 : S32) (t4 : S32) (t5 : S32) (t6 : S32) (t7 : S32) (nx7 : Nat) (t10 : S24) (t11 : Int × Bool) (u : Nat → Wt) : List Value := [.slice (some ⟨nx7, 0, none⟩) 7 7, .slice (slA (some ⟨nx7, 0, none⟩) (0 : Int).toNat 7 8) ((rpart [t1, t2, t3, t4, t5, t6, t7] 0 (2 : Int)).length) (7 - (0 : Int).toNat), .agg #[.int .i64 t10.f0, .int .i64 t10.f1], .tuple #[.int .u32 t11.1, .bool t11.2], .tuple #[.int .u32 t11.1, .bool t11.2], .int .u32 t11.1, .bool t11.2, .int .u32 t11.1]
noncomputable def u10d1f (t1 : S32) (t2 : S32) (t3 : S32) (t4 : S32) (t5 : S32) (t6 : S32) (t7 : S32) (nx7 : Nat) (t9 : Int × Bool) (t10 : S24) (t11 : Int × Bool) (i : Nat) (u : Nat → Wt) : List (Nat × Value) := foldPut ⟨163, []⟩ [(3, .bool t9.2), (2, .int .u32 t9.1), (1, .slice (some ⟨nx7, 0, none⟩) 7 7)] (O10_10.take i) (((u10d1s t1 t2 t3 t4 t5 t6 t7 nx7 t10 t11) u).take i)
theorem u10d1v (t1 : S32) (t2 : S32) (t3 : S32) (t4 : S32) (t5 : S32) (t6 : S32) (t7 : S32) (nx7 : Nat) (t9 : Int × Bool) (t10 : S24) (t11 : Int × Bool) (u : Nat → Wt) : (u10d1q t1 t2 t3 t4 t5 t6 t7 nx7 t9 t10 t11 u).map (fun x => (x.1, x.2.1)) = some ((u10d1s t1 t2 t3 t4 t5 t6 t7 nx7 t10 t11) u, (u10d1f t1 t2 t3 t4 t5 t6 t7 nx7 t9 t10 t11 8) u) := by kernel_rfl
theorem u10d1e (t1 : S32) (t2 : S32) (t3 : S32) (t4 : S32) (t5 : S32) (t6 : S32) (t7 : S32) (nx7 : Nat) (t9 : Int × Bool) (t10 : S24) (t11 : Int × Bool) (u : Nat → Wt) : (u10d1q t1 t2 t3 t4 t5 t6 t7 nx7 t9 t10 t11 u).map (fun x => x.2.2.map (·.1)) = (u10d1q t1 t2 t3 t4 t5 t6 t7 nx7 t9 t10 t11 u).map (fun x => x.2.2.map (·.2)) := by kernel_rfl
noncomputable def a10_25n : List Nat := [0, 1, 0, 7, 0, 31, 0, 127, 255]
theorem a10_25 : ancs O10_25 [] = a10_25n := by kernel_rfl
theorem a10_25o : drawOk O10_25 a10_25n 7 = true := by kernel_rfl
noncomputable def u10d2l (t15 : S32) (t16 : S32) (t17 : S32) : List Ld :=
 [⟨1, fun x => .agg #[.int .i64 t15.f0, .int .i64 t15.f1, .int .i64 t15.f2, .int .i64 t15.f3, .int .u32 t15.f4, .int .i64 t15.f5.f0, .string t15.f5.f1, .slice ((x 0).1) t15.f5.f2.length ((x 0).2.1)], fun x => [orow 5 1 (x 0).1 t15.f5.f2.length (x 0).2.1 (x 0).2.2], fun x J => Reps (Ty.int .u8) J t15.f5.f2 (x 0).2.2 ∧ True, fun x J J' h f => ⟨Reps.ext h f.1, trivial⟩⟩,
  ⟨3, fun x => .agg #[.int .i64 t16.f0, .int .i64 t16.f1, .int .i64 t16.f2, .int .i64 t16.f3, .int .u32 t16.f4, .int .i64 t16.f5.f0, .string t16.f5.f1, .slice ((x 0).1) t16.f5.f2.length ((x 0).2.1)], fun x => [orow 5 1 (x 0).1 t16.f5.f2.length (x 0).2.1 (x 0).2.2], fun x J => Reps (Ty.int .u8) J t16.f5.f2 (x 0).2.2 ∧ True, fun x J J' h f => ⟨Reps.ext h f.1, trivial⟩⟩,
  ⟨5, fun x => .agg #[.int .i64 t17.f0, .int .i64 t17.f1, .int .i64 t17.f2, .int .i64 t17.f3, .int .u32 t17.f4, .int .i64 t17.f5.f0, .string t17.f5.f1, .slice ((x 0).1) t17.f5.f2.length ((x 0).2.1)], fun x => [orow 5 1 (x 0).1 t17.f5.f2.length (x 0).2.1 (x 0).2.2], fun x J => Reps (Ty.int .u8) J t17.f5.f2 (x 0).2.2 ∧ True, fun x J J' h f => ⟨Reps.ext h f.1, trivial⟩⟩]
noncomputable def u10d2g  : List (Nat × ((Nat → Wt) → Value)) := []
noncomputable def u10d2q (t9 : Int × Bool) (t11 : Int × Bool) (t13 : Int × Bool) (nx12 : Nat) (t14 : Int × Bool) (nx13 : Nat) (t15 : S32) (t16 : S32) (t17 : S32) (u : Nat → Wt) : Option (List Value × List (Nat × Value) × List (Nat × Nat)) := qSim Try.prog [] [⟨nx12, [.int .i64 1, .string (⟨#[97]⟩ : ByteArray), .slice none 0 0], 30⟩, ⟨nx13, [.int .i64 1, .int .i64 1, .int .i64 1, .int .i64 0, .int .u32 t14.1, .int .i64 1, .string (⟨#[97]⟩ : ByteArray), .slice none 0 0], 32⟩] O10_25 ⟨163, []⟩ (Ld.vl (u10d2l t15 t16 t17)) u10d2g u [.no, .no, .no, .no, .no, .no, .l 1] 0 (O10_25.take 7) [(11, .pointer (some ⟨nx13, 0, none⟩)), (9, .int .u32 t14.1), (8, .pointer (some ⟨nx12, 0, none⟩)), (7, .bool t13.2), (5, .bool t11.2), (3, .bool t9.2), (2, .int .u32 t9.1)]
noncomputable def u10d2s (t14 : Int × Bool) (t15 : S32) (t16 : S32) (t17 : S32) (u : Nat → Wt) : List Value := [.int .u32 t14.1, .agg #[.int .i64 t15.f0, .int .i64 t15.f1, .int .i64 t15.f2, .int .i64 t15.f3, .int .u32 t15.f4, .int .i64 t15.f5.f0, .string t15.f5.f1, .slice ((u 1 0).1) t15.f5.f2.length ((u 1 0).2.1)], .int .u32 t14.1, .agg #[.int .i64 t16.f0, .int .i64 t16.f1, .int .i64 t16.f2, .int .i64 t16.f3, .int .u32 t16.f4, .int .i64 t16.f5.f0, .string t16.f5.f1, .slice ((u 3 0).1) t16.f5.f2.length ((u 3 0).2.1)], .int .u32 t14.1, .agg #[.int .i64 t17.f0, .int .i64 t17.f1, .int .i64 t17.f2, .int .i64 t17.f3, .int .u32 t17.f4, .int .i64 t17.f5.f0, .string t17.f5.f1, .slice ((u 5 0).1) t17.f5.f2.length ((u 5 0).2.1)], .agg #[.int .i64 1, .int .i64 1, .int .i64 1, .int .i64 0, .int .u32 t14.1, .int .i64 1, .string (⟨#[97]⟩ : ByteArray), .slice none 0 0]]
noncomputable def u10d2f (t9 : Int × Bool) (t11 : Int × Bool) (t13 : Int × Bool) (nx12 : Nat) (t14 : Int × Bool) (nx13 : Nat) (t15 : S32) (t16 : S32) (t17 : S32) (i : Nat) (u : Nat → Wt) : List (Nat × Value) := foldPut ⟨163, []⟩ [(11, .pointer (some ⟨nx13, 0, none⟩)), (9, .int .u32 t14.1), (8, .pointer (some ⟨nx12, 0, none⟩)), (7, .bool t13.2), (5, .bool t11.2), (3, .bool t9.2), (2, .int .u32 t9.1)] (O10_25.take i) (((u10d2s t14 t15 t16 t17) u).take i)
theorem u10d2v (t9 : Int × Bool) (t11 : Int × Bool) (t13 : Int × Bool) (nx12 : Nat) (t14 : Int × Bool) (nx13 : Nat) (t15 : S32) (t16 : S32) (t17 : S32) (u : Nat → Wt) : (u10d2q t9 t11 t13 nx12 t14 nx13 t15 t16 t17 u).map (fun x => (x.1, x.2.1)) = some ((u10d2s t14 t15 t16 t17) u, (u10d2f t9 t11 t13 nx12 t14 nx13 t15 t16 t17 7) u) := by kernel_rfl
theorem u10d2e (t9 : Int × Bool) (t11 : Int × Bool) (t13 : Int × Bool) (nx12 : Nat) (t14 : Int × Bool) (nx13 : Nat) (t15 : S32) (t16 : S32) (t17 : S32) (u : Nat → Wt) : (u10d2q t9 t11 t13 nx12 t14 nx13 t15 t16 t17 u).map (fun x => x.2.2.map (·.1)) = (u10d2q t9 t11 t13 nx12 t14 nx13 t15 t16 t17 u).map (fun x => x.2.2.map (·.2)) := by kernel_rfl
theorem armillarylaw29_sanity.calls (k : Nat) (I0 : Imm)  (w : World) (hI : I0.at_ w)  (r : Bool) (h : armillarylaw29_sanity.f k  = some r) :
  Calls Try.prog 10 [].toArray w fun e w' => ∃ v, e = .returned v ∧ armillarylaw29_sanity.Post I0 w r v w' := by
 have H : ((armillarylaw29_vote.f 2 0 1 7).bind fun t1 => ((armillarylaw29_vote.f 2 1 1 7).bind fun t2 => ((armillarylaw29_vote.f 2 2 1 7).bind fun t3 => ((armillarylaw29_vote.f 2 2 1 8).bind fun t4 => ((armillarylaw29_vote.f 3 0 1 7).bind fun t5 => ((armillarylaw29_vote.f 3 0 1 7).bind fun t6 => ((armillarylaw29_vote.f 3 3 1 7).bind fun t7 => ((armillarylaw29_slot.f 1).bind fun t8 => ((quorum_Prepared.f k [t1, t2, t3, t4, t5, t6, t7] 4 t8).bind fun t9 => (if (0 : Int) ≤ (2 : Int) then (if (2 : Int) ≤ ([t1, t2, t3, t4, t5, t6, t7].length : Int) then ((armillarylaw29_slot.f 1).bind fun t10 => ((quorum_Prepared.f k (rpart [t1, t2, t3, t4, t5, t6, t7] 0 (2 : Int)) 4 t10).bind fun t11 => ((armillarylaw29_slot.f 1).bind fun t12 => ((quorum_Committed.f k [t1, t2, t3, t4, t5, t6, t7] 4 t12).bind fun t13 => ((armillaryref29_Sum.f k (⟨1, (⟨#[97]⟩ : ByteArray), []⟩ : S30)).bind fun t14 => ((armillarylaw29_vote.f 2 0 1 t14.1).bind fun t15 => ((armillarylaw29_vote.f 2 1 1 t14.1).bind fun t16 => ((armillarylaw29_vote.f 2 3 1 t14.1).bind fun t17 => ((armillarylaw29_slot.f 2).bind fun t18 => ((quorum_HighestPrepared.f k [t15, t16, t17, (⟨1, 1, 1, 0, t14.1, (⟨1, (⟨#[97]⟩ : ByteArray), []⟩ : S30)⟩ : S32)] 4 t18).bind fun t19 => ((armillarylaw29_slot.f 1).bind fun t20 => ((quorum_HighestPrepared.f k [t15, t16, t17, (⟨1, 1, 1, 0, t14.1, (⟨1, (⟨#[97]⟩ : ByteArray), []⟩ : S30)⟩ : S32)] 4 t20).bind fun t21 => (((quorum_MaxFaulty.f 4).bind fun t22 => (if t22 = 1 then ((quorum_Size.f 4).bind fun t23 => (if t23 = 3 then ((quorum_Size.f 13).bind fun t24 => (if t24 = 9 then ((quorum_Size.f 14).bind fun t25 => (if t25 = 0 then ((quorum_Leader.f 4 6).bind fun t26 => (if t26 = 2 then ((quorum_Leader.f 0 1).bind fun t27 => (if t27 = (-1) then (if t9.2 = true then (if t9.1 = 7 then (if t11.2 = true then (some false) else (if t13.2 = true then (some false) else (if t19.2 = true then ((armillaryref29_Same.f (⟨1, (⟨#[97]⟩ : ByteArray), []⟩ : S30) t19.1).bind fun t28 => (if t28 = true then (if t21.2 = true then (some false) else ((quorum_Valid.f k (⟨1, 1, 1, 0, t14.1, (⟨1, (⟨#[97]⟩ : ByteArray), []⟩ : S30)⟩ : S32) 4).bind fun t29 => (if t29 = true then ((quorum_Valid.f k (⟨1, 1, 1, 0, W .u32 (t14.1 + 1), (⟨1, (⟨#[97]⟩ : ByteArray), []⟩ : S30)⟩ : S32) 4).bind fun t30 => (if t30 = true then (some false) else ((quorum_Valid.f k (⟨1, 2, 1, 0, t14.1, (⟨1, (⟨#[97]⟩ : ByteArray), []⟩ : S30)⟩ : S32) 4).bind fun t31 => (if t31 = true then (some false) else ((armillarylaw29_vote.f 4 0 5 0).bind fun t32 => ((quorum_Valid.f k t32 1).bind fun t33 => (if t33 = true then ((armillarylaw29_vote.f 4 0 5 1).bind fun t34 => ((quorum_Valid.f k t34 1).bind fun t35 => (if t35 = true then (some false) else ((armillarylaw29_vote.f 2 4 0 0).bind fun t36 => ((quorum_Valid.f k t36 4).bind fun t37 => (if t37 = true then (some false) else ((armillarylaw29_vote.f 5 0 0 0).bind fun t38 => ((quorum_Valid.f k t38 4).bind fun t39 => (some (!t39)))))))))) else (some false)))))))) else (some false)))) else (some false))) else (some false)))) else (some false)) else (some false)) else (some false))) else (some false))) else (some false))) else (some false))) else (some false))) else (some false))).bind (armillarylaw29_sanity.k1)))))))))))))) else none) else none)))))))))) = some r := h
 clear h
 refine calls_body Try.func10 (by kernel_rfl) 163 (by kernel_rfl) (by kernel_rfl) ⟨w, fun _ => False, I0⟩ I0 [] [] (by kernel_rfl) (Sat.start w _ I0 hI) ?_
 generalize w.heap.size = nx0
 show OK _ K10_0 _ _ _ _ _ _ _ _
 refine OK.seq K10_1 K10_3 (by kernel_rfl) ?_
 refine OK.region 0 O10_1 (by kernel_rfl) ?_
 refine RL.simK (K' := []) [] (RFacts.nil _ _ _) 1 [.no] (by kernel_rfl) (by kernel_rfl) ?_
 refine RL.nil (by kernel_rfl) ?_
 refine QN.then_ ?_
 refine OK.seq K10_4 K10_6 (by kernel_rfl) ?_
 refine OK.region 1 O10_4 (by kernel_rfl) ?_
 obtain ⟨t1, hA1, H⟩ := Option.bind_eq_some_iff.mp H
 refine RL.callP 29 [.int .i64 2, .int .i64 0, .int .i64 1, .int .u32 7] (some 19) (fun w => armillarylaw29_vote.Post I0 w t1) (by kernel_rfl) (by kernel_rfl) (fun w hs => armillarylaw29_vote.calls I0 2 0 1 7 w hs.im  t1 hA1) ?_
 rintro w v w' hs ⟨I1, A1, c1, cs1, rfl, hg, hp1⟩
 have hi1 := hg.le
 refine RL.resume (X' := [orow 5 1 A1 t1.f5.f2.length c1 cs1]) rfl (hs.call hg) ?_
 clear hs hg
 generalize w'.heap.size = nx1
 clear w w'
 refine RL.freeze (e := 5) (sz := 1) (S := A1) (n := t1.f5.f2.length) (cap := c1) 0 (by kernel_rfl) hp1 rfl (fun _ h => h.elim) (fun I2 hi2 hl1 hr1 => ?_)
 skip
 obtain ⟨t2, hA2, H⟩ := Option.bind_eq_some_iff.mp H
 refine RL.callP 29 [.int .i64 2, .int .i64 1, .int .i64 1, .int .u32 7] (some 20) (fun w => armillarylaw29_vote.Post I2 w t2) (by kernel_rfl) (by kernel_rfl) (fun w hs => armillarylaw29_vote.calls I2 2 1 1 7 w hs.im  t2 hA2) ?_
 rintro w v w' hs ⟨I3, A2, c2, cs2, rfl, hg, hp2⟩
 have hi3 := hg.le
 refine RL.resume (X' := [orow 5 1 A2 t2.f5.f2.length c2 cs2]) rfl (hs.call hg) ?_
 clear hs hg
 generalize w'.heap.size = nx2
 clear w w'
 refine RL.freeze (e := 5) (sz := 1) (S := A2) (n := t2.f5.f2.length) (cap := c2) 0 (by kernel_rfl) hp2 rfl (fun _ h => h.elim) (fun I4 hi4 hl2 hr2 => ?_)
 skip
 obtain ⟨t3, hA3, H⟩ := Option.bind_eq_some_iff.mp H
 refine RL.callP 29 [.int .i64 2, .int .i64 2, .int .i64 1, .int .u32 7] (some 21) (fun w => armillarylaw29_vote.Post I4 w t3) (by kernel_rfl) (by kernel_rfl) (fun w hs => armillarylaw29_vote.calls I4 2 2 1 7 w hs.im  t3 hA3) ?_
 rintro w v w' hs ⟨I5, A3, c3, cs3, rfl, hg, hp3⟩
 have hi5 := hg.le
 refine RL.resume (X' := [orow 5 1 A3 t3.f5.f2.length c3 cs3]) rfl (hs.call hg) ?_
 clear hs hg
 generalize w'.heap.size = nx3
 clear w w'
 refine RL.freeze (e := 5) (sz := 1) (S := A3) (n := t3.f5.f2.length) (cap := c3) 0 (by kernel_rfl) hp3 rfl (fun _ h => h.elim) (fun I6 hi6 hl3 hr3 => ?_)
 skip
 obtain ⟨t4, hA4, H⟩ := Option.bind_eq_some_iff.mp H
 refine RL.callP 29 [.int .i64 2, .int .i64 2, .int .i64 1, .int .u32 8] (some 22) (fun w => armillarylaw29_vote.Post I6 w t4) (by kernel_rfl) (by kernel_rfl) (fun w hs => armillarylaw29_vote.calls I6 2 2 1 8 w hs.im  t4 hA4) ?_
 rintro w v w' hs ⟨I7, A4, c4, cs4, rfl, hg, hp4⟩
 have hi7 := hg.le
 refine RL.resume (X' := [orow 5 1 A4 t4.f5.f2.length c4 cs4]) rfl (hs.call hg) ?_
 clear hs hg
 generalize w'.heap.size = nx4
 clear w w'
 refine RL.freeze (e := 5) (sz := 1) (S := A4) (n := t4.f5.f2.length) (cap := c4) 0 (by kernel_rfl) hp4 rfl (fun _ h => h.elim) (fun I8 hi8 hl4 hr4 => ?_)
 skip
 obtain ⟨t5, hA5, H⟩ := Option.bind_eq_some_iff.mp H
 refine RL.callP 29 [.int .i64 3, .int .i64 0, .int .i64 1, .int .u32 7] (some 23) (fun w => armillarylaw29_vote.Post I8 w t5) (by kernel_rfl) (by kernel_rfl) (fun w hs => armillarylaw29_vote.calls I8 3 0 1 7 w hs.im  t5 hA5) ?_
 rintro w v w' hs ⟨I9, A5, c5, cs5, rfl, hg, hp5⟩
 have hi9 := hg.le
 refine RL.resume (X' := [orow 5 1 A5 t5.f5.f2.length c5 cs5]) rfl (hs.call hg) ?_
 clear hs hg
 generalize w'.heap.size = nx5
 clear w w'
 refine RL.freeze (e := 5) (sz := 1) (S := A5) (n := t5.f5.f2.length) (cap := c5) 0 (by kernel_rfl) hp5 rfl (fun _ h => h.elim) (fun I10 hi10 hl5 hr5 => ?_)
 skip
 obtain ⟨t6, hA6, H⟩ := Option.bind_eq_some_iff.mp H
 refine RL.callP 29 [.int .i64 3, .int .i64 0, .int .i64 1, .int .u32 7] (some 24) (fun w => armillarylaw29_vote.Post I10 w t6) (by kernel_rfl) (by kernel_rfl) (fun w hs => armillarylaw29_vote.calls I10 3 0 1 7 w hs.im  t6 hA6) ?_
 rintro w v w' hs ⟨I11, A6, c6, cs6, rfl, hg, hp6⟩
 have hi11 := hg.le
 refine RL.resume (X' := [orow 5 1 A6 t6.f5.f2.length c6 cs6]) rfl (hs.call hg) ?_
 clear hs hg
 generalize w'.heap.size = nx6
 clear w w'
 refine RL.freeze (e := 5) (sz := 1) (S := A6) (n := t6.f5.f2.length) (cap := c6) 0 (by kernel_rfl) hp6 rfl (fun _ h => h.elim) (fun I12 hi12 hl6 hr6 => ?_)
 skip
 obtain ⟨t7, hA7, H⟩ := Option.bind_eq_some_iff.mp H
 refine RL.callP 29 [.int .i64 3, .int .i64 3, .int .i64 1, .int .u32 7] (some 25) (fun w => armillarylaw29_vote.Post I12 w t7) (by kernel_rfl) (by kernel_rfl) (fun w hs => armillarylaw29_vote.calls I12 3 3 1 7 w hs.im  t7 hA7) ?_
 rintro w v w' hs ⟨I13, A7, c7, cs7, rfl, hg, hp7⟩
 have hi13 := hg.le
 refine RL.resume (X' := [orow 5 1 A7 t7.f5.f2.length c7 cs7]) rfl (hs.call hg) ?_
 clear hs hg
 generalize w'.heap.size = nx7
 clear w w'
 refine RL.freeze (e := 5) (sz := 1) (S := A7) (n := t7.f5.f2.length) (cap := c7) 0 (by kernel_rfl) hp7 rfl (fun _ h => h.elim) (fun I14 hi14 hl7 hr7 => ?_)
 skip
 refine RL.simP (K' := [(1, .slice (some ⟨nx7, 0, none⟩) 7 7)]) (nx' := nx7 + 1) (L' := [⟨nx7, (.int .i64 t1.f0 :: .int .i64 t1.f1 :: .int .i64 t1.f2 :: .int .i64 t1.f3 :: .int .u32 t1.f4 :: .int .i64 t1.f5.f0 :: .string t1.f5.f1 :: .slice A1 t1.f5.f2.length c1 :: .int .i64 t2.f0 :: .int .i64 t2.f1 :: .int .i64 t2.f2 :: .int .i64 t2.f3 :: .int .u32 t2.f4 :: .int .i64 t2.f5.f0 :: .string t2.f5.f1 :: .slice A2 t2.f5.f2.length c2 :: .int .i64 t3.f0 :: .int .i64 t3.f1 :: .int .i64 t3.f2 :: .int .i64 t3.f3 :: .int .u32 t3.f4 :: .int .i64 t3.f5.f0 :: .string t3.f5.f1 :: .slice A3 t3.f5.f2.length c3 :: .int .i64 t4.f0 :: .int .i64 t4.f1 :: .int .i64 t4.f2 :: .int .i64 t4.f3 :: .int .u32 t4.f4 :: .int .i64 t4.f5.f0 :: .string t4.f5.f1 :: .slice A4 t4.f5.f2.length c4 :: .int .i64 t5.f0 :: .int .i64 t5.f1 :: .int .i64 t5.f2 :: .int .i64 t5.f3 :: .int .u32 t5.f4 :: .int .i64 t5.f5.f0 :: .string t5.f5.f1 :: .slice A5 t5.f5.f2.length c5 :: .int .i64 t6.f0 :: .int .i64 t6.f1 :: .int .i64 t6.f2 :: .int .i64 t6.f3 :: .int .u32 t6.f4 :: .int .i64 t6.f5.f0 :: .string t6.f5.f1 :: .slice A6 t6.f5.f2.length c6 :: .int .i64 t7.f0 :: .int .i64 t7.f1 :: .int .i64 t7.f2 :: .int .i64 t7.f3 :: .int .u32 t7.f4 :: .int .i64 t7.f5.f0 :: .string t7.f5.f1 :: .slice A7 t7.f5.f2.length c7 :: []), 32⟩]) [] (RFacts.nil _ _ _) 2 [.no, .no] (by kernel_rfl) (by kernel_rfl) ?_
 refine RL.nil (by kernel_rfl) ?_
 refine QN.then_ ?_
 refine OK.seq K10_7 K10_9 (by kernel_rfl) ?_
 refine OK.region 2 O10_7 (by kernel_rfl) ?_
 refine RL.simK (K' := [(28, .slice (some ⟨nx7, 0, none⟩) 7 7), (1, .slice (some ⟨nx7, 0, none⟩) 7 7)]) [] (RFacts.nil _ _ _) 1 [.no] (by kernel_rfl) (by kernel_rfl) ?_
 obtain ⟨t8, hA8, H⟩ := Option.bind_eq_some_iff.mp H
 refine RL.callP 30 [.int .i64 1] (some 29) (fun w => armillarylaw29_slot.Post I14 w t8) (by kernel_rfl) (by kernel_rfl) (fun w hs => armillarylaw29_slot.calls I14 1 w hs.im  t8 hA8) ?_
 rintro w v w' hs ⟨I15, rfl, hg⟩
 have hi15 := hg.le
 refine RL.resume (X' := []) rfl (hs.call hg) ?_
 clear hs hg
 generalize w'.heap.size = nx8
 clear w w'
 refine RL.freezeL (d := t32) (xs := [t1, t2, t3, t4, t5, t6, t7]) (b := ⟨nx7, (.int .i64 t1.f0 :: .int .i64 t1.f1 :: .int .i64 t1.f2 :: .int .i64 t1.f3 :: .int .u32 t1.f4 :: .int .i64 t1.f5.f0 :: .string t1.f5.f1 :: .slice A1 t1.f5.f2.length c1 :: .int .i64 t2.f0 :: .int .i64 t2.f1 :: .int .i64 t2.f2 :: .int .i64 t2.f3 :: .int .u32 t2.f4 :: .int .i64 t2.f5.f0 :: .string t2.f5.f1 :: .slice A2 t2.f5.f2.length c2 :: .int .i64 t3.f0 :: .int .i64 t3.f1 :: .int .i64 t3.f2 :: .int .i64 t3.f3 :: .int .u32 t3.f4 :: .int .i64 t3.f5.f0 :: .string t3.f5.f1 :: .slice A3 t3.f5.f2.length c3 :: .int .i64 t4.f0 :: .int .i64 t4.f1 :: .int .i64 t4.f2 :: .int .i64 t4.f3 :: .int .u32 t4.f4 :: .int .i64 t4.f5.f0 :: .string t4.f5.f1 :: .slice A4 t4.f5.f2.length c4 :: .int .i64 t5.f0 :: .int .i64 t5.f1 :: .int .i64 t5.f2 :: .int .i64 t5.f3 :: .int .u32 t5.f4 :: .int .i64 t5.f5.f0 :: .string t5.f5.f1 :: .slice A5 t5.f5.f2.length c5 :: .int .i64 t6.f0 :: .int .i64 t6.f1 :: .int .i64 t6.f2 :: .int .i64 t6.f3 :: .int .u32 t6.f4 :: .int .i64 t6.f5.f0 :: .string t6.f5.f1 :: .slice A6 t6.f5.f2.length c6 :: .int .i64 t7.f0 :: .int .i64 t7.f1 :: .int .i64 t7.f2 :: .int .i64 t7.f3 :: .int .u32 t7.f4 :: .int .i64 t7.f5.f0 :: .string t7.f5.f1 :: .slice A7 t7.f5.f2.length c7 :: []), 32⟩) 0 (by kernel_rfl) ⟨_, _, rfl, (t32_mk _ _ hl1 (Rd.ext (Imm.le_trans (Imm.le_trans (Imm.le_trans (Imm.le_trans (Imm.le_trans (Imm.le_trans (Imm.le_trans (Imm.le_trans (Imm.le_trans (Imm.le_trans (Imm.le_trans (Imm.le_trans hi3 hi4) hi5) hi6) hi7) hi8) hi9) hi10) hi11) hi12) hi13) hi14) hi15) hr1)), ⟨_, _, rfl, (t32_mk _ _ hl2 (Rd.ext (Imm.le_trans (Imm.le_trans (Imm.le_trans (Imm.le_trans (Imm.le_trans (Imm.le_trans (Imm.le_trans (Imm.le_trans (Imm.le_trans (Imm.le_trans hi5 hi6) hi7) hi8) hi9) hi10) hi11) hi12) hi13) hi14) hi15) hr2)), ⟨_, _, rfl, (t32_mk _ _ hl3 (Rd.ext (Imm.le_trans (Imm.le_trans (Imm.le_trans (Imm.le_trans (Imm.le_trans (Imm.le_trans (Imm.le_trans (Imm.le_trans hi7 hi8) hi9) hi10) hi11) hi12) hi13) hi14) hi15) hr3)), ⟨_, _, rfl, (t32_mk _ _ hl4 (Rd.ext (Imm.le_trans (Imm.le_trans (Imm.le_trans (Imm.le_trans (Imm.le_trans (Imm.le_trans hi9 hi10) hi11) hi12) hi13) hi14) hi15) hr4)), ⟨_, _, rfl, (t32_mk _ _ hl5 (Rd.ext (Imm.le_trans (Imm.le_trans (Imm.le_trans (Imm.le_trans hi11 hi12) hi13) hi14) hi15) hr5)), ⟨_, _, rfl, (t32_mk _ _ hl6 (Rd.ext (Imm.le_trans (Imm.le_trans hi13 hi14) hi15) hr6)), ⟨_, _, rfl, (t32_mk _ _ hl7 (Rd.ext hi15 hr7)), rfl⟩⟩⟩⟩⟩⟩⟩ (Nat.le_of_ble_eq_true rfl) (fun _ hs => (hs.own _ (List.mem_of_getElem? (i := 0) rfl)).resolve_right (fun h => h)) (fun I16 hi16 hr8 => ?_)
 obtain ⟨t9, hA9, H⟩ := Option.bind_eq_some_iff.mp H
 refine RL.callP 14 [.slice (some ⟨nx7, 0, none⟩) 7 7, .int .i64 4, .agg #[.int .i64 t8.f0, .int .i64 t8.f1]] (some 30) (fun w => quorum_Prepared.Post I16 w t9) (by kernel_rfl) (by kernel_rfl) (fun w hs => quorum_Prepared.calls k I16 [t1, t2, t3, t4, t5, t6, t7] (some ⟨nx7, 0, none⟩) 7 4 t8 w hs.im (Nat.le_of_ble_eq_true rfl) hr8 t9 hA9) ?_
 rintro w v w' hs ⟨I17, rfl, hg⟩
 have hi17 := hg.le
 refine RL.resume (X' := []) rfl (hs.call hg) ?_
 clear hs hg
 generalize w'.heap.size = nx9
 clear w w'
 refine RL.simK (K' := [(3, .bool t9.2), (2, .int .u32 t9.1), (1, .slice (some ⟨nx7, 0, none⟩) 7 7)]) [] (RFacts.nil _ _ _) 5 [.no, .no, .no, .no, .no] (by kernel_rfl) (by kernel_rfl) ?_
 refine RL.nil (by kernel_rfl) ?_
 refine QN.then_ ?_
 refine OK.seq K10_10 K10_12 (by kernel_rfl) ?_
 by_cases hs1_1 : (0 : Int) ≤ (2 : Int)
 case neg => rw [if_neg hs1_1] at H; cases H
 rw [if_pos hs1_1] at H
 by_cases hs2_1 : (2 : Int) ≤ ([t1, t2, t3, t4, t5, t6, t7].length : Int)
 case neg => rw [if_neg hs2_1] at H; cases H
 rw [if_pos hs2_1] at H
 obtain ⟨t10, hA10, H⟩ := Option.bind_eq_some_iff.mp H
 obtain ⟨t11, hA11, H⟩ := Option.bind_eq_some_iff.mp H
 refine OK.drawnC 3 8 O10_10 a10_10n (by kernel_rfl) (by kernel_rfl) (u10d1l t10 t11) (u10d1g t1 t2 t3 t4 t5 t6 t7 nx7) [] (RI.nil _) [.no, .no, .no, .no, .no, .no, .no, .no] a10_10 a10_10o (by kernel_rfl) (by kernel_rfl) (u10d1s t1 t2 t3 t4 t5 t6 t7 nx7 t10 t11) (u10d1f t1 t2 t3 t4 t5 t6 t7 nx7 t9 t10 t11 8) (u10d1v t1 t2 t3 t4 t5 t6 t7 nx7 t9 t10 t11) (u10d1e t1 t2 t3 t4 t5 t6 t7 nx7 t9 t10 t11) [u10d1f t1 t2 t3 t4 t5 t6 t7 nx7 t9 t10 t11 2, u10d1f t1 t2 t3 t4 t5 t6 t7 nx7 t9 t10 t11 3] (framesOk.cons (fun u => rfl) (framesOk.cons (fun u => rfl) framesOk.nil)) ?_ [u10d1f t1 t2 t3 t4 t5 t6 t7 nx7 t9 t10 t11 1] (framesOk.cons (fun u => rfl) framesOk.nil) ?_ ?_
 ·refine LoudsG.cons ?_ (LoudsG.cons ?_ (LoudsG.nil))
  ·intro D u J w hp hJ hs hF
   refine Does.call 30 [.int .i64 1] (by kernel_rfl) ((armillarylaw29_slot.calls J 1 w hs.im  t10 hA10).mono ?_)
   rintro e w' ⟨v, rfl, J2, rfl, hg⟩
   exact ⟨_, rfl, fun _ => (none, 0, []), J2, rfl, hg, trivial⟩
  ·intro D u J w hp hJ hs hF
   refine Does.call 14 [.slice (slA (some ⟨nx7, 0, none⟩) (0 : Int).toNat 7 8) ((rpart [t1, t2, t3, t4, t5, t6, t7] 0 (2 : Int)).length) (7 - (0 : Int).toNat), .int .i64 4, .agg #[.int .i64 t10.f0, .int .i64 t10.f1]] (by kernel_rfl) ((quorum_Prepared.calls k J (rpart [t1, t2, t3, t4, t5, t6, t7] 0 (2 : Int)) (slA (some ⟨nx7, 0, none⟩) (0 : Int).toNat 7 8) (7 - (0 : Int).toNat) 4 t10 w hs.im (part_le (Nat.le_of_ble_eq_true rfl) (Int.le_refl 0) hs1_1 hs2_1) (Rd.ext hJ (rd_sub (Rd.ext hi17 hr8) (Nat.le_of_ble_eq_true rfl) (Int.le_refl 0) hs1_1 hs2_1)) t11 hA11).mono ?_)
   rintro e w' ⟨v, rfl, J2, rfl, hg⟩
   exact ⟨_, rfl, fun _ => (none, 0, []), J2, rfl, hg, trivial⟩
 ·refine Givens.cons (fun u w =>  ?_) (fun _ _ _ => rfl) (Givens.nil)
  ·exact giv_subH (T := 22) (e := 32) (l := [t1, t2, t3, t4, t5, t6, t7]) (S := (some ⟨nx7, 0, none⟩)) (cap := 7) (hi := 2) 8 .i64 (by kernel_rfl) (by kernel_rfl) (by kernel_rfl) (Nat.le_of_ble_eq_true rfl) hs1_1 hs2_1 w
 intro u I18 nx10 hi18 hF
 clear hF
 refine RL.norm (K' := [(4, .int .u32 t11.1), (39, .bool t11.2), (38, .int .u32 t11.1), (33, .tuple #[.int .u32 t11.1, .bool t11.2]), (37, .tuple #[.int .u32 t11.1, .bool t11.2]), (36, .agg #[.int .i64 t10.f0, .int .i64 t10.f1]), (35, .slice (slA (some ⟨nx7, 0, none⟩) (0 : Int).toNat 7 8) ((rpart [t1, t2, t3, t4, t5, t6, t7] 0 (2 : Int)).length) (7 - (0 : Int).toNat)), (34, .slice (some ⟨nx7, 0, none⟩) 7 7), (3, .bool t9.2), (2, .int .u32 t9.1), (1, .slice (some ⟨nx7, 0, none⟩) 7 7)]) (X' := []) (by kernel_rfl) rfl rfl rfl ?_
 refine RL.simK (K' := [(5, .bool t11.2), (3, .bool t9.2), (2, .int .u32 t9.1), (1, .slice (some ⟨nx7, 0, none⟩) 7 7)]) [] (RFacts.nil _ _ _) 1 [.no] (by kernel_rfl) (by kernel_rfl) ?_
 refine RL.nil (by kernel_rfl) ?_
 refine QN.then_ ?_
 refine OK.seq K10_13 K10_15 (by kernel_rfl) ?_
 refine OK.region 4 O10_13 (by kernel_rfl) ?_
 refine RL.simK (K' := [(41, .slice (some ⟨nx7, 0, none⟩) 7 7), (5, .bool t11.2), (3, .bool t9.2), (2, .int .u32 t9.1)]) [] (RFacts.nil _ _ _) 1 [.no] (by kernel_rfl) (by kernel_rfl) ?_
 obtain ⟨t12, hA12, H⟩ := Option.bind_eq_some_iff.mp H
 refine RL.callP 30 [.int .i64 1] (some 42) (fun w => armillarylaw29_slot.Post I18 w t12) (by kernel_rfl) (by kernel_rfl) (fun w hs => armillarylaw29_slot.calls I18 1 w hs.im  t12 hA12) ?_
 rintro w v w' hs ⟨I19, rfl, hg⟩
 have hi19 := hg.le
 refine RL.resume (X' := []) rfl (hs.call hg) ?_
 clear hs hg
 generalize w'.heap.size = nx11
 clear w w'
 obtain ⟨t13, hA13, H⟩ := Option.bind_eq_some_iff.mp H
 refine RL.callP 16 [.slice (some ⟨nx7, 0, none⟩) 7 7, .int .i64 4, .agg #[.int .i64 t12.f0, .int .i64 t12.f1]] (some 43) (fun w => quorum_Committed.Post I19 w t13) (by kernel_rfl) (by kernel_rfl) (fun w hs => quorum_Committed.calls k I19 [t1, t2, t3, t4, t5, t6, t7] (some ⟨nx7, 0, none⟩) 7 4 t12 w hs.im (Nat.le_of_ble_eq_true rfl) (Rd.ext (Imm.le_trans (Imm.le_trans hi17 hi18) hi19) hr8) t13 hA13) ?_
 rintro w v w' hs ⟨I20, rfl, hg⟩
 have hi20 := hg.le
 refine RL.resume (X' := []) rfl (hs.call hg) ?_
 clear hs hg
 generalize w'.heap.size = nx12
 clear w w'
 refine RL.simK (K' := [(7, .bool t13.2), (5, .bool t11.2), (3, .bool t9.2), (2, .int .u32 t9.1)]) [] (RFacts.nil _ _ _) 5 [.no, .no, .no, .no, .no] (by kernel_rfl) (by kernel_rfl) ?_
 refine RL.nil (by kernel_rfl) ?_
 refine QN.then_ ?_
 refine OK.seq K10_16 K10_18 (by kernel_rfl) ?_
 refine OK.region 5 O10_16 (by kernel_rfl) ?_
 refine RL.simP (K' := [(8, .pointer (some ⟨nx12, 0, none⟩)), (7, .bool t13.2), (5, .bool t11.2), (3, .bool t9.2), (2, .int .u32 t9.1)]) (nx' := nx12 + 1) (L' := [⟨nx12, [.int .i64 1, .string (⟨#[97]⟩ : ByteArray), .slice none 0 0], 30⟩]) [] (RFacts.nil _ _ _) 3 [.no, .no, .l 0] (by kernel_rfl) (by kernel_rfl) ?_
 refine RL.nil (by kernel_rfl) ?_
 refine QN.then_ ?_
 refine OK.seq K10_19 K10_21 (by kernel_rfl) ?_
 refine OK.region 6 O10_19 (by kernel_rfl) ?_
 refine RL.simK (K' := [(48, .agg #[.int .i64 1, .string (⟨#[97]⟩ : ByteArray), .slice none 0 0]), (8, .pointer (some ⟨nx12, 0, none⟩)), (7, .bool t13.2), (5, .bool t11.2), (3, .bool t9.2), (2, .int .u32 t9.1)]) [] (RFacts.nil _ _ _) 1 [.l 0] (by kernel_rfl) (by kernel_rfl) ?_
 obtain ⟨t14, hA14, H⟩ := Option.bind_eq_some_iff.mp H
 refine RL.callP 31 [.agg #[.int .i64 1, .string (⟨#[97]⟩ : ByteArray), .slice none 0 0]] (some 49) (fun w => armillaryref29_Sum.Post I20 w t14) (by kernel_rfl) (by kernel_rfl) (fun w hs => armillaryref29_Sum.calls k I20 (⟨1, (⟨#[97]⟩ : ByteArray), []⟩ : S30) none 0 w hs.im (Nat.le_refl _) (Rd.nil _ _ _) t14 hA14) ?_
 rintro w v w' hs ⟨I21, rfl, hg⟩
 have hi21 := hg.le
 refine RL.resume (X' := []) rfl (hs.call hg) ?_
 clear hs hg
 generalize w'.heap.size = nx13
 clear w w'
 refine RL.simK (K' := [(9, .int .u32 t14.1), (8, .pointer (some ⟨nx12, 0, none⟩)), (7, .bool t13.2), (5, .bool t11.2), (3, .bool t9.2), (2, .int .u32 t9.1)]) [] (RFacts.nil _ _ _) 5 [.no, .no, .no, .no, .no] (by kernel_rfl) (by kernel_rfl) ?_
 refine RL.nil (by kernel_rfl) ?_
 refine QN.then_ ?_
 refine OK.seq K10_22 K10_24 (by kernel_rfl) ?_
 refine OK.region 7 O10_22 (by kernel_rfl) ?_
 refine RL.simP (K' := [(11, .pointer (some ⟨nx13, 0, none⟩)), (9, .int .u32 t14.1), (8, .pointer (some ⟨nx12, 0, none⟩)), (7, .bool t13.2), (5, .bool t11.2), (3, .bool t9.2), (2, .int .u32 t9.1)]) (nx' := nx13 + 1) (L' := [⟨nx12, [.int .i64 1, .string (⟨#[97]⟩ : ByteArray), .slice none 0 0], 30⟩, ⟨nx13, [.int .i64 1, .int .i64 1, .int .i64 1, .int .i64 0, .int .u32 t14.1, .int .i64 1, .string (⟨#[97]⟩ : ByteArray), .slice none 0 0], 32⟩]) [] (RFacts.nil _ _ _) 5 [.no, .l 0, .no, .no, .l 1] (by kernel_rfl) (by kernel_rfl) ?_
 refine RL.nil (by kernel_rfl) ?_
 refine QN.then_ ?_
 refine OK.seq K10_25 K10_27 (by kernel_rfl) ?_
 obtain ⟨t15, hA15, H⟩ := Option.bind_eq_some_iff.mp H
 obtain ⟨t16, hA16, H⟩ := Option.bind_eq_some_iff.mp H
 obtain ⟨t17, hA17, H⟩ := Option.bind_eq_some_iff.mp H
 refine OK.drawnC 8 7 O10_25 a10_25n (by kernel_rfl) (by kernel_rfl) (u10d2l t15 t16 t17) u10d2g [] (RI.nil _) [.no, .no, .no, .no, .no, .no, .l 1] a10_25 a10_25o (by kernel_rfl) (by kernel_rfl) (u10d2s t14 t15 t16 t17) (u10d2f t9 t11 t13 nx12 t14 nx13 t15 t16 t17 7) (u10d2v t9 t11 t13 nx12 t14 nx13 t15 t16 t17) (u10d2e t9 t11 t13 nx12 t14 nx13 t15 t16 t17) [u10d2f t9 t11 t13 nx12 t14 nx13 t15 t16 t17 1, u10d2f t9 t11 t13 nx12 t14 nx13 t15 t16 t17 3, u10d2f t9 t11 t13 nx12 t14 nx13 t15 t16 t17 5] (framesOk.cons (fun u => rfl) (framesOk.cons (fun u => rfl) (framesOk.cons (fun u => rfl) framesOk.nil))) ?_ [] framesOk.nil ?_ ?_
 ·refine LoudsG.cons ?_ (LoudsG.cons ?_ (LoudsG.cons ?_ (LoudsG.nil)))
  ·intro D u J w hp hJ hs hF
   refine Does.call 29 [.int .i64 2, .int .i64 0, .int .i64 1, .int .u32 t14.1] (by kernel_rfl) ((armillarylaw29_vote.calls J 2 0 1 t14.1 w hs.im  t15 hA15).mono ?_)
   rintro e w' ⟨v, rfl, J2, A0_, c0_, cs0_, rfl, hg, hp0_⟩
   exact ⟨_, rfl, fun _ => (A0_, c0_, cs0_), J2, rfl, hg, hp0_, trivial⟩
  ·intro D u J w hp hJ hs hF
   refine Does.call 29 [.int .i64 2, .int .i64 1, .int .i64 1, .int .u32 t14.1] (by kernel_rfl) ((armillarylaw29_vote.calls J 2 1 1 t14.1 w hs.im  t16 hA16).mono ?_)
   rintro e w' ⟨v, rfl, J2, A0_, c0_, cs0_, rfl, hg, hp0_⟩
   exact ⟨_, rfl, fun _ => (A0_, c0_, cs0_), J2, rfl, hg, hp0_, trivial⟩
  ·intro D u J w hp hJ hs hF
   refine Does.call 29 [.int .i64 2, .int .i64 3, .int .i64 1, .int .u32 t14.1] (by kernel_rfl) ((armillarylaw29_vote.calls J 2 3 1 t14.1 w hs.im  t17 hA17).mono ?_)
   rintro e w' ⟨v, rfl, J2, A0_, c0_, cs0_, rfl, hg, hp0_⟩
   exact ⟨_, rfl, fun _ => (A0_, c0_, cs0_), J2, rfl, hg, hp0_, trivial⟩
 ·refine Givens.nil
 intro u I22 nx14 hi22 hF
 have hf1 := ((hF.1 rfl).1)
 have hf2 := ((hF.2.1 rfl).1)
 have hf3 := ((hF.2.2.1 rfl).1)
 clear hF
 refine RL.norm (K' := [(61, .agg #[.int .i64 1, .int .i64 1, .int .i64 1, .int .i64 0, .int .u32 t14.1, .int .i64 1, .string (⟨#[97]⟩ : ByteArray), .slice none 0 0]), (60, .agg #[.int .i64 t17.f0, .int .i64 t17.f1, .int .i64 t17.f2, .int .i64 t17.f3, .int .u32 t17.f4, .int .i64 t17.f5.f0, .string t17.f5.f1, .slice ((u 5 0).1) t17.f5.f2.length ((u 5 0).2.1)]), (59, .int .u32 t14.1), (58, .agg #[.int .i64 t16.f0, .int .i64 t16.f1, .int .i64 t16.f2, .int .i64 t16.f3, .int .u32 t16.f4, .int .i64 t16.f5.f0, .string t16.f5.f1, .slice ((u 3 0).1) t16.f5.f2.length ((u 3 0).2.1)]), (57, .int .u32 t14.1), (56, .agg #[.int .i64 t15.f0, .int .i64 t15.f1, .int .i64 t15.f2, .int .i64 t15.f3, .int .u32 t15.f4, .int .i64 t15.f5.f0, .string t15.f5.f1, .slice ((u 1 0).1) t15.f5.f2.length ((u 1 0).2.1)]), (55, .int .u32 t14.1), (11, .pointer (some ⟨nx13, 0, none⟩)), (9, .int .u32 t14.1), (8, .pointer (some ⟨nx12, 0, none⟩)), (7, .bool t13.2), (5, .bool t11.2), (3, .bool t9.2), (2, .int .u32 t9.1)]) (X' := [orow 5 1 (u 1 0).1 t15.f5.f2.length (u 1 0).2.1 (u 1 0).2.2, orow 5 1 (u 3 0).1 t16.f5.f2.length (u 3 0).2.1 (u 3 0).2.2, orow 5 1 (u 5 0).1 t17.f5.f2.length (u 5 0).2.1 (u 5 0).2.2]) (by kernel_rfl) rfl rfl rfl ?_
 revert hf1 hf2 hf3
 generalize (u 1 0).1 = A8
 generalize (u 1 0).2.1 = c8
 generalize (u 1 0).2.2 = cs8
 generalize (u 3 0).1 = A9
 generalize (u 3 0).2.1 = c9
 generalize (u 3 0).2.2 = cs9
 generalize (u 5 0).1 = A10
 generalize (u 5 0).2.1 = c10
 generalize (u 5 0).2.2 = cs10
 intro hf1 hf2 hf3
 clear u
 refine RL.simP (K' := [(12, .slice (some ⟨nx14, 0, none⟩) 4 4), (11, .pointer (some ⟨nx13, 0, none⟩)), (9, .int .u32 t14.1), (8, .pointer (some ⟨nx12, 0, none⟩)), (7, .bool t13.2), (5, .bool t11.2), (3, .bool t9.2), (2, .int .u32 t9.1)]) (nx' := nx14 + 1) (L' := [⟨nx12, [.int .i64 1, .string (⟨#[97]⟩ : ByteArray), .slice none 0 0], 30⟩, ⟨nx13, [.int .i64 1, .int .i64 1, .int .i64 1, .int .i64 0, .int .u32 t14.1, .int .i64 1, .string (⟨#[97]⟩ : ByteArray), .slice none 0 0], 32⟩, ⟨nx14, (.int .i64 t15.f0 :: .int .i64 t15.f1 :: .int .i64 t15.f2 :: .int .i64 t15.f3 :: .int .u32 t15.f4 :: .int .i64 t15.f5.f0 :: .string t15.f5.f1 :: .slice A8 t15.f5.f2.length c8 :: .int .i64 t16.f0 :: .int .i64 t16.f1 :: .int .i64 t16.f2 :: .int .i64 t16.f3 :: .int .u32 t16.f4 :: .int .i64 t16.f5.f0 :: .string t16.f5.f1 :: .slice A9 t16.f5.f2.length c9 :: .int .i64 t17.f0 :: .int .i64 t17.f1 :: .int .i64 t17.f2 :: .int .i64 t17.f3 :: .int .u32 t17.f4 :: .int .i64 t17.f5.f0 :: .string t17.f5.f1 :: .slice A10 t17.f5.f2.length c10 :: .int .i64 1 :: .int .i64 1 :: .int .i64 1 :: .int .i64 0 :: .int .u32 t14.1 :: .int .i64 1 :: .string (⟨#[97]⟩ : ByteArray) :: .slice none 0 0 :: []), 32⟩]) [] (RFacts.nil _ _ _) 2 [.no, .no] (by kernel_rfl) (by kernel_rfl) ?_
 refine RL.nil (by kernel_rfl) ?_
 refine QN.then_ ?_
 refine OK.seq K10_28 K10_30 (by kernel_rfl) ?_
 refine OK.region 9 O10_28 (by kernel_rfl) ?_
 refine RL.simK (K' := [(64, .slice (some ⟨nx14, 0, none⟩) 4 4), (12, .slice (some ⟨nx14, 0, none⟩) 4 4), (11, .pointer (some ⟨nx13, 0, none⟩)), (9, .int .u32 t14.1), (8, .pointer (some ⟨nx12, 0, none⟩)), (7, .bool t13.2), (5, .bool t11.2), (3, .bool t9.2), (2, .int .u32 t9.1)]) [] (RFacts.nil _ _ _) 1 [.no] (by kernel_rfl) (by kernel_rfl) ?_
 obtain ⟨t18, hA18, H⟩ := Option.bind_eq_some_iff.mp H
 refine RL.callP 30 [.int .i64 2] (some 65) (fun w => armillarylaw29_slot.Post I22 w t18) (by kernel_rfl) (by kernel_rfl) (fun w hs => armillarylaw29_slot.calls I22 2 w hs.im  t18 hA18) ?_
 rintro w v w' hs ⟨I23, rfl, hg⟩
 have hi23 := hg.le
 refine RL.resume (X' := [orow 5 1 A8 t15.f5.f2.length c8 cs8, orow 5 1 A9 t16.f5.f2.length c9 cs9, orow 5 1 A10 t17.f5.f2.length c10 cs10]) rfl (hs.call hg) ?_
 clear hs hg
 generalize w'.heap.size = nx15
 clear w w'
 refine RL.freeze (e := 5) (sz := 1) (S := A8) (n := t15.f5.f2.length) (cap := c8) 0 (by kernel_rfl) (Reps.ext hi23 hf1) rfl (fun _ h => h.elim) (fun I24 hi24 hl8 hr9 => ?_)
 skip
 refine RL.freeze (e := 5) (sz := 1) (S := A9) (n := t16.f5.f2.length) (cap := c9) 0 (by kernel_rfl) (Reps.ext (Imm.le_trans hi23 hi24) hf2) rfl (fun _ h => h.elim) (fun I25 hi25 hl9 hr10 => ?_)
 skip
 refine RL.freeze (e := 5) (sz := 1) (S := A10) (n := t17.f5.f2.length) (cap := c10) 0 (by kernel_rfl) (Reps.ext (Imm.le_trans (Imm.le_trans hi23 hi24) hi25) hf3) rfl (fun _ h => h.elim) (fun I26 hi26 hl10 hr11 => ?_)
 skip
 refine RL.freezeL (d := t32) (xs := [t15, t16, t17, (⟨1, 1, 1, 0, t14.1, (⟨1, (⟨#[97]⟩ : ByteArray), []⟩ : S30)⟩ : S32)]) (b := ⟨nx14, (.int .i64 t15.f0 :: .int .i64 t15.f1 :: .int .i64 t15.f2 :: .int .i64 t15.f3 :: .int .u32 t15.f4 :: .int .i64 t15.f5.f0 :: .string t15.f5.f1 :: .slice A8 t15.f5.f2.length c8 :: .int .i64 t16.f0 :: .int .i64 t16.f1 :: .int .i64 t16.f2 :: .int .i64 t16.f3 :: .int .u32 t16.f4 :: .int .i64 t16.f5.f0 :: .string t16.f5.f1 :: .slice A9 t16.f5.f2.length c9 :: .int .i64 t17.f0 :: .int .i64 t17.f1 :: .int .i64 t17.f2 :: .int .i64 t17.f3 :: .int .u32 t17.f4 :: .int .i64 t17.f5.f0 :: .string t17.f5.f1 :: .slice A10 t17.f5.f2.length c10 :: .int .i64 1 :: .int .i64 1 :: .int .i64 1 :: .int .i64 0 :: .int .u32 t14.1 :: .int .i64 1 :: .string (⟨#[97]⟩ : ByteArray) :: .slice none 0 0 :: []), 32⟩) 2 (by kernel_rfl) ⟨_, _, rfl, (t32_mk _ _ hl8 (Rd.ext (Imm.le_trans hi25 hi26) hr9)), ⟨_, _, rfl, (t32_mk _ _ hl9 (Rd.ext hi26 hr10)), ⟨_, _, rfl, (t32_mk _ _ hl10 hr11), ⟨_, _, rfl, (t32_mk _ _ (Nat.le_refl _) (Rd.nil _ _ _)), rfl⟩⟩⟩⟩ (Nat.le_of_ble_eq_true rfl) (fun _ hs => (hs.own _ (List.mem_of_getElem? (i := 2) rfl)).resolve_right (fun h => h)) (fun I27 hi27 hr12 => ?_)
 obtain ⟨t19, hA19, H⟩ := Option.bind_eq_some_iff.mp H
 refine RL.callP 18 [.slice (some ⟨nx14, 0, none⟩) 4 4, .int .i64 4, .agg #[.int .i64 t18.f0, .int .i64 t18.f1]] (some 66) (fun w => quorum_HighestPrepared.Post I27 w t19) (by kernel_rfl) (by kernel_rfl) (fun w hs => quorum_HighestPrepared.calls k I27 [t15, t16, t17, (⟨1, 1, 1, 0, t14.1, (⟨1, (⟨#[97]⟩ : ByteArray), []⟩ : S30)⟩ : S32)] (some ⟨nx14, 0, none⟩) 4 4 t18 w hs.im (Nat.le_of_ble_eq_true rfl) hr12 t19 hA19) ?_
 rintro w v w' hs ⟨I28, A11, c11, rfl, hg, hl11, hr13⟩
 have hi28 := hg.le
 refine RL.resume (X' := []) rfl (hs.call hg) ?_
 clear hs hg
 generalize w'.heap.size = nx16
 clear w w'
 refine RL.simP (K' := [(14, .bool t19.2), (13, .pointer (some ⟨nx16, 0, none⟩)), (12, .slice (some ⟨nx14, 0, none⟩) 4 4), (11, .pointer (some ⟨nx13, 0, none⟩)), (9, .int .u32 t14.1), (8, .pointer (some ⟨nx12, 0, none⟩)), (7, .bool t13.2), (5, .bool t11.2), (3, .bool t9.2), (2, .int .u32 t9.1)]) (nx' := nx16 + 1) (L' := [⟨nx12, [.int .i64 1, .string (⟨#[97]⟩ : ByteArray), .slice none 0 0], 30⟩, ⟨nx13, [.int .i64 1, .int .i64 1, .int .i64 1, .int .i64 0, .int .u32 t14.1, .int .i64 1, .string (⟨#[97]⟩ : ByteArray), .slice none 0 0], 32⟩, ⟨nx16, [.int .i64 t19.1.f0, .string t19.1.f1, .slice A11 t19.1.f2.length c11], 30⟩]) [] (RFacts.nil _ _ _) 6 [.no, .no, .no, .no, .l 2, .no] (by kernel_rfl) (by kernel_rfl) ?_
 refine RL.nil (by kernel_rfl) ?_
 refine QN.then_ ?_
 refine OK.seq K10_31 K10_33 (by kernel_rfl) ?_
 refine OK.region 10 O10_31 (by kernel_rfl) ?_
 refine RL.simK (K' := [(70, .slice (some ⟨nx14, 0, none⟩) 4 4), (14, .bool t19.2), (13, .pointer (some ⟨nx16, 0, none⟩)), (11, .pointer (some ⟨nx13, 0, none⟩)), (9, .int .u32 t14.1), (8, .pointer (some ⟨nx12, 0, none⟩)), (7, .bool t13.2), (5, .bool t11.2), (3, .bool t9.2), (2, .int .u32 t9.1)]) [] (RFacts.nil _ _ _) 1 [.no] (by kernel_rfl) (by kernel_rfl) ?_
 obtain ⟨t20, hA20, H⟩ := Option.bind_eq_some_iff.mp H
 refine RL.callP 30 [.int .i64 1] (some 71) (fun w => armillarylaw29_slot.Post I28 w t20) (by kernel_rfl) (by kernel_rfl) (fun w hs => armillarylaw29_slot.calls I28 1 w hs.im  t20 hA20) ?_
 rintro w v w' hs ⟨I29, rfl, hg⟩
 have hi29 := hg.le
 refine RL.resume (X' := []) rfl (hs.call hg) ?_
 clear hs hg
 generalize w'.heap.size = nx17
 clear w w'
 obtain ⟨t21, hA21, H⟩ := Option.bind_eq_some_iff.mp H
 refine RL.callP 18 [.slice (some ⟨nx14, 0, none⟩) 4 4, .int .i64 4, .agg #[.int .i64 t20.f0, .int .i64 t20.f1]] (some 72) (fun w => quorum_HighestPrepared.Post I29 w t21) (by kernel_rfl) (by kernel_rfl) (fun w hs => quorum_HighestPrepared.calls k I29 [t15, t16, t17, (⟨1, 1, 1, 0, t14.1, (⟨1, (⟨#[97]⟩ : ByteArray), []⟩ : S30)⟩ : S32)] (some ⟨nx14, 0, none⟩) 4 4 t20 w hs.im (Nat.le_of_ble_eq_true rfl) (Rd.ext (Imm.le_trans hi28 hi29) hr12) t21 hA21) ?_
 rintro w v w' hs ⟨I30, A12, c12, rfl, hg, hl12, hr14⟩
 have hi30 := hg.le
 refine RL.resume (X' := []) rfl (hs.call hg) ?_
 clear hs hg
 generalize w'.heap.size = nx18
 clear w w'
 refine RL.simP (K' := [(16, .bool t21.2), (14, .bool t19.2), (13, .pointer (some ⟨nx16, 0, none⟩)), (11, .pointer (some ⟨nx13, 0, none⟩)), (9, .int .u32 t14.1), (8, .pointer (some ⟨nx12, 0, none⟩)), (7, .bool t13.2), (5, .bool t11.2), (3, .bool t9.2), (2, .int .u32 t9.1)]) (nx' := nx18 + 1) (L' := [⟨nx12, [.int .i64 1, .string (⟨#[97]⟩ : ByteArray), .slice none 0 0], 30⟩, ⟨nx13, [.int .i64 1, .int .i64 1, .int .i64 1, .int .i64 0, .int .u32 t14.1, .int .i64 1, .string (⟨#[97]⟩ : ByteArray), .slice none 0 0], 32⟩, ⟨nx16, [.int .i64 t19.1.f0, .string t19.1.f1, .slice A11 t19.1.f2.length c11], 30⟩, ⟨nx18, [.int .i64 t21.1.f0, .string t21.1.f1, .slice A12 t21.1.f2.length c12], 30⟩]) [] (RFacts.nil _ _ _) 6 [.no, .no, .no, .no, .l 3, .no] (by kernel_rfl) (by kernel_rfl) ?_
 refine RL.nil (by kernel_rfl) ?_
 refine QN.then_ ?_
 refine OK.seq K10_34 K10_36 (by kernel_rfl) ?_
 refine OK.region 11 O10_34 (by kernel_rfl) ?_
 refine RL.simP (K' := [(17, .pointer (some ⟨nx18 + 1, 0, none⟩)), (16, .bool t21.2), (14, .bool t19.2), (13, .pointer (some ⟨nx16, 0, none⟩)), (11, .pointer (some ⟨nx13, 0, none⟩)), (9, .int .u32 t14.1), (8, .pointer (some ⟨nx12, 0, none⟩)), (7, .bool t13.2), (5, .bool t11.2), (3, .bool t9.2), (2, .int .u32 t9.1)]) (nx' := nx18 + 2) (L' := [⟨nx12, [.int .i64 1, .string (⟨#[97]⟩ : ByteArray), .slice none 0 0], 30⟩, ⟨nx13, [.int .i64 1, .int .i64 1, .int .i64 1, .int .i64 0, .int .u32 t14.1, .int .i64 1, .string (⟨#[97]⟩ : ByteArray), .slice none 0 0], 32⟩, ⟨nx16, [.int .i64 t19.1.f0, .string t19.1.f1, .slice A11 t19.1.f2.length c11], 30⟩, ⟨nx18, [.int .i64 t21.1.f0, .string t21.1.f1, .slice A12 t21.1.f2.length c12], 30⟩, ⟨nx18 + 1, [.int .i64 1, .int .i64 1, .int .i64 1, .int .i64 0, .int .u32 t14.1, .int .i64 1, .string (⟨#[97]⟩ : ByteArray), .slice none 0 0], 32⟩]) [] (RFacts.nil _ _ _) 3 [.l 1, .no, .l 4] (by kernel_rfl) (by kernel_rfl) ?_
 refine RL.nil (by kernel_rfl) ?_
 refine QN.then_ ?_
 refine OK.seq K10_37 K10_39 (by kernel_rfl) ?_
 refine OK.region 12 O10_37 (by kernel_rfl) ?_
 refine RL.simP (K' := [(17, .pointer (some ⟨nx18 + 1, 0, none⟩)), (16, .bool t21.2), (14, .bool t19.2), (13, .pointer (some ⟨nx16, 0, none⟩)), (11, .pointer (some ⟨nx13, 0, none⟩)), (8, .pointer (some ⟨nx12, 0, none⟩)), (7, .bool t13.2), (5, .bool t11.2), (3, .bool t9.2), (2, .int .u32 t9.1)]) (nx' := nx18 + 2) (L' := [⟨nx12, [.int .i64 1, .string (⟨#[97]⟩ : ByteArray), .slice none 0 0], 30⟩, ⟨nx13, [.int .i64 1, .int .i64 1, .int .i64 1, .int .i64 0, .int .u32 t14.1, .int .i64 1, .string (⟨#[97]⟩ : ByteArray), .slice none 0 0], 32⟩, ⟨nx16, [.int .i64 t19.1.f0, .string t19.1.f1, .slice A11 t19.1.f2.length c11], 30⟩, ⟨nx18, [.int .i64 t21.1.f0, .string t21.1.f1, .slice A12 t21.1.f2.length c12], 30⟩, ⟨nx18 + 1, [.int .i64 1, .int .i64 1, .int .i64 1, .int .i64 0, .int .u32 (W .u32 (t14.1 + 1)), .int .i64 1, .string (⟨#[97]⟩ : ByteArray), .slice none 0 0], 32⟩]) [] (RFacts.nil _ _ _) 4 [.no, .no, .no, .l 4] (by kernel_rfl) (by kernel_rfl) ?_
 refine RL.nil (by kernel_rfl) ?_
 refine QN.then_ ?_
 refine OK.seq K10_40 K10_42 (by kernel_rfl) ?_
 refine OK.region 13 O10_40 (by kernel_rfl) ?_
 refine RL.simP (K' := [(18, .pointer (some ⟨nx18 + 2, 0, none⟩)), (17, .pointer (some ⟨nx18 + 1, 0, none⟩)), (16, .bool t21.2), (14, .bool t19.2), (13, .pointer (some ⟨nx16, 0, none⟩)), (11, .pointer (some ⟨nx13, 0, none⟩)), (8, .pointer (some ⟨nx12, 0, none⟩)), (7, .bool t13.2), (5, .bool t11.2), (3, .bool t9.2), (2, .int .u32 t9.1)]) (nx' := nx18 + 3) (L' := [⟨nx12, [.int .i64 1, .string (⟨#[97]⟩ : ByteArray), .slice none 0 0], 30⟩, ⟨nx13, [.int .i64 1, .int .i64 1, .int .i64 1, .int .i64 0, .int .u32 t14.1, .int .i64 1, .string (⟨#[97]⟩ : ByteArray), .slice none 0 0], 32⟩, ⟨nx16, [.int .i64 t19.1.f0, .string t19.1.f1, .slice A11 t19.1.f2.length c11], 30⟩, ⟨nx18, [.int .i64 t21.1.f0, .string t21.1.f1, .slice A12 t21.1.f2.length c12], 30⟩, ⟨nx18 + 1, [.int .i64 1, .int .i64 1, .int .i64 1, .int .i64 0, .int .u32 (W .u32 (t14.1 + 1)), .int .i64 1, .string (⟨#[97]⟩ : ByteArray), .slice none 0 0], 32⟩, ⟨nx18 + 2, [.int .i64 1, .int .i64 1, .int .i64 1, .int .i64 0, .int .u32 t14.1, .int .i64 1, .string (⟨#[97]⟩ : ByteArray), .slice none 0 0], 32⟩]) [] (RFacts.nil _ _ _) 3 [.l 1, .no, .l 5] (by kernel_rfl) (by kernel_rfl) ?_
 refine RL.nil (by kernel_rfl) ?_
 refine QN.then_ ?_
 refine OK.seq K10_43 K10_45 (by kernel_rfl) ?_
 refine OK.region 14 O10_43 (by kernel_rfl) ?_
 refine RL.simP (K' := [(18, .pointer (some ⟨nx18 + 2, 0, none⟩)), (17, .pointer (some ⟨nx18 + 1, 0, none⟩)), (16, .bool t21.2), (14, .bool t19.2), (13, .pointer (some ⟨nx16, 0, none⟩)), (11, .pointer (some ⟨nx13, 0, none⟩)), (8, .pointer (some ⟨nx12, 0, none⟩)), (7, .bool t13.2), (5, .bool t11.2), (3, .bool t9.2), (2, .int .u32 t9.1)]) (nx' := nx18 + 3) (L' := [⟨nx12, [.int .i64 1, .string (⟨#[97]⟩ : ByteArray), .slice none 0 0], 30⟩, ⟨nx13, [.int .i64 1, .int .i64 1, .int .i64 1, .int .i64 0, .int .u32 t14.1, .int .i64 1, .string (⟨#[97]⟩ : ByteArray), .slice none 0 0], 32⟩, ⟨nx16, [.int .i64 t19.1.f0, .string t19.1.f1, .slice A11 t19.1.f2.length c11], 30⟩, ⟨nx18, [.int .i64 t21.1.f0, .string t21.1.f1, .slice A12 t21.1.f2.length c12], 30⟩, ⟨nx18 + 1, [.int .i64 1, .int .i64 1, .int .i64 1, .int .i64 0, .int .u32 (W .u32 (t14.1 + 1)), .int .i64 1, .string (⟨#[97]⟩ : ByteArray), .slice none 0 0], 32⟩, ⟨nx18 + 2, [.int .i64 1, .int .i64 2, .int .i64 1, .int .i64 0, .int .u32 t14.1, .int .i64 1, .string (⟨#[97]⟩ : ByteArray), .slice none 0 0], 32⟩]) [] (RFacts.nil _ _ _) 2 [.no, .l 5] (by kernel_rfl) (by kernel_rfl) ?_
 refine RL.nil (by kernel_rfl) ?_
 refine QN.then_ ?_
 refine OK.seq K10_46 K10_48 (by kernel_rfl) ?_
 refine OK.join (fun K' I' _ L' X' => ∃ (x1 : Bool), K' = [(0, .bool x1)] ∧ L' = [⟨nx12, [.int .i64 1, .string (⟨#[97]⟩ : ByteArray), .slice none 0 0], 30⟩, ⟨nx13, [.int .i64 1, .int .i64 1, .int .i64 1, .int .i64 0, .int .u32 t14.1, .int .i64 1, .string (⟨#[97]⟩ : ByteArray), .slice none 0 0], 32⟩, ⟨nx16, [.int .i64 t19.1.f0, .string t19.1.f1, .slice A11 t19.1.f2.length c11], 30⟩, ⟨nx18, [.int .i64 t21.1.f0, .string t21.1.f1, .slice A12 t21.1.f2.length c12], 30⟩, ⟨nx18 + 1, [.int .i64 1, .int .i64 1, .int .i64 1, .int .i64 0, .int .u32 (W .u32 (t14.1 + 1)), .int .i64 1, .string (⟨#[97]⟩ : ByteArray), .slice none 0 0], 32⟩, ⟨nx18 + 2, [.int .i64 1, .int .i64 2, .int .i64 1, .int .i64 0, .int .u32 t14.1, .int .i64 1, .string (⟨#[97]⟩ : ByteArray), .slice none 0 0], 32⟩] ∧ X' = [] ∧ Imm.le I30 I' ∧ armillarylaw29_sanity.k1 x1 = some r) ?_ ?_
 ·rintro _ I31 nx19 _ _ ⟨x1, rfl, rfl, rfl, hi31, H⟩
  replace H : (some x1) = some r := H
  refine QN.then_ ?_
  refine OK.ret (by kernel_rfl) ?_
  obtain rfl := Option.some.inj H
  refine QN.body rfl [] (RFacts.nil _ _ _) (.no) (.bool x1) (by kernel_rfl) (by kernel_rfl) (by kernel_rfl) ?_ _ (.inr rfl)
  exact fun w' hs' => ⟨_, rfl, I31, rfl, hs'.got _ .slnil⟩
 ·intro Q_1 hJ1 hQ1
  obtain ⟨y1, H, HK1⟩ := Option.bind_eq_some_iff.mp H
  refine OK.region 15 O10_46 (by kernel_rfl) ?_
  obtain ⟨t22, hA22, H⟩ := Option.bind_eq_some_iff.mp H
  refine RL.callP 20 [.int .i64 4] (some 81) (fun w => quorum_MaxFaulty.Post I30 w t22) (by kernel_rfl) (by kernel_rfl) (fun w hs => quorum_MaxFaulty.calls I30 4 w hs.im  t22 hA22) ?_
  rintro w v w' hs ⟨I32, rfl, hg⟩
  have hi32 := hg.le
  refine RL.resume (X' := []) rfl (hs.call hg) ?_
  clear hs hg
  generalize w'.heap.size = nx20
  clear w w'
  refine RL.simK (K' := [(83, .bool (t22 == 1)), (18, .pointer (some ⟨nx18 + 2, 0, none⟩)), (17, .pointer (some ⟨nx18 + 1, 0, none⟩)), (16, .bool t21.2), (14, .bool t19.2), (13, .pointer (some ⟨nx16, 0, none⟩)), (11, .pointer (some ⟨nx13, 0, none⟩)), (8, .pointer (some ⟨nx12, 0, none⟩)), (7, .bool t13.2), (5, .bool t11.2), (3, .bool t9.2), (2, .int .u32 t9.1)]) [] (RFacts.nil _ _ _) 2 [.no, .no] (by kernel_rfl) (by kernel_rfl) ?_
  refine RL.cases (t22 == 1) (fun hb => ?_) (fun hb => ?_)
  ·have hc := (beq_iff_eq.1 hb)
   rw [hb]
   rw [if_pos hc] at H; clear hb
   obtain ⟨t23, hA23, H⟩ := Option.bind_eq_some_iff.mp H
   refine RL.callP 22 [.int .i64 4] (some 84) (fun w => quorum_Size.Post I32 w t23) (by kernel_rfl) (by kernel_rfl) (fun w hs => quorum_Size.calls I32 4 w hs.im  t23 hA23) ?_
   rintro w v w' hs ⟨I33, rfl, hg⟩
   have hi33 := hg.le
   refine RL.resume (X' := []) rfl (hs.call hg) ?_
   clear hs hg
   generalize w'.heap.size = nx21
   clear w w'
   refine RL.simK (K' := [(87, .bool (t23 == 3)), (18, .pointer (some ⟨nx18 + 2, 0, none⟩)), (17, .pointer (some ⟨nx18 + 1, 0, none⟩)), (16, .bool t21.2), (14, .bool t19.2), (13, .pointer (some ⟨nx16, 0, none⟩)), (11, .pointer (some ⟨nx13, 0, none⟩)), (8, .pointer (some ⟨nx12, 0, none⟩)), (7, .bool t13.2), (5, .bool t11.2), (3, .bool t9.2), (2, .int .u32 t9.1)]) [] (RFacts.nil _ _ _) 3 [.no, .no, .no] (by kernel_rfl) (by kernel_rfl) ?_
   refine RL.cases (t23 == 3) (fun hb => ?_) (fun hb => ?_)
   ·have hc := (beq_iff_eq.1 hb)
    rw [hb]
    rw [if_pos hc] at H; clear hb
    obtain ⟨t24, hA24, H⟩ := Option.bind_eq_some_iff.mp H
    refine RL.callP 22 [.int .i64 13] (some 88) (fun w => quorum_Size.Post I33 w t24) (by kernel_rfl) (by kernel_rfl) (fun w hs => quorum_Size.calls I33 13 w hs.im  t24 hA24) ?_
    rintro w v w' hs ⟨I34, rfl, hg⟩
    have hi34 := hg.le
    refine RL.resume (X' := []) rfl (hs.call hg) ?_
    clear hs hg
    generalize w'.heap.size = nx22
    clear w w'
    refine RL.simK (K' := [(91, .bool (t24 == 9)), (18, .pointer (some ⟨nx18 + 2, 0, none⟩)), (17, .pointer (some ⟨nx18 + 1, 0, none⟩)), (16, .bool t21.2), (14, .bool t19.2), (13, .pointer (some ⟨nx16, 0, none⟩)), (11, .pointer (some ⟨nx13, 0, none⟩)), (8, .pointer (some ⟨nx12, 0, none⟩)), (7, .bool t13.2), (5, .bool t11.2), (3, .bool t9.2), (2, .int .u32 t9.1)]) [] (RFacts.nil _ _ _) 3 [.no, .no, .no] (by kernel_rfl) (by kernel_rfl) ?_
    refine RL.cases (t24 == 9) (fun hb => ?_) (fun hb => ?_)
    ·have hc := (beq_iff_eq.1 hb)
     rw [hb]
     rw [if_pos hc] at H; clear hb
     obtain ⟨t25, hA25, H⟩ := Option.bind_eq_some_iff.mp H
     refine RL.callP 22 [.int .i64 14] (some 92) (fun w => quorum_Size.Post I34 w t25) (by kernel_rfl) (by kernel_rfl) (fun w hs => quorum_Size.calls I34 14 w hs.im  t25 hA25) ?_
     rintro w v w' hs ⟨I35, rfl, hg⟩
     have hi35 := hg.le
     refine RL.resume (X' := []) rfl (hs.call hg) ?_
     clear hs hg
     generalize w'.heap.size = nx23
     clear w w'
     refine RL.simK (K' := [(95, .bool (t25 == 0)), (18, .pointer (some ⟨nx18 + 2, 0, none⟩)), (17, .pointer (some ⟨nx18 + 1, 0, none⟩)), (16, .bool t21.2), (14, .bool t19.2), (13, .pointer (some ⟨nx16, 0, none⟩)), (11, .pointer (some ⟨nx13, 0, none⟩)), (8, .pointer (some ⟨nx12, 0, none⟩)), (7, .bool t13.2), (5, .bool t11.2), (3, .bool t9.2), (2, .int .u32 t9.1)]) [] (RFacts.nil _ _ _) 3 [.no, .no, .no] (by kernel_rfl) (by kernel_rfl) ?_
     refine RL.cases (t25 == 0) (fun hb => ?_) (fun hb => ?_)
     ·have hc := (beq_iff_eq.1 hb)
      rw [hb]
      rw [if_pos hc] at H; clear hb
      obtain ⟨t26, hA26, H⟩ := Option.bind_eq_some_iff.mp H
      refine RL.callP 24 [.int .i64 4, .int .i64 6] (some 96) (fun w => quorum_Leader.Post I35 w t26) (by kernel_rfl) (by kernel_rfl) (fun w hs => quorum_Leader.calls I35 4 6 w hs.im  t26 hA26) ?_
      rintro w v w' hs ⟨I36, rfl, hg⟩
      have hi36 := hg.le
      refine RL.resume (X' := []) rfl (hs.call hg) ?_
      clear hs hg
      generalize w'.heap.size = nx24
      clear w w'
      refine RL.simK (K' := [(99, .bool (t26 == 2)), (18, .pointer (some ⟨nx18 + 2, 0, none⟩)), (17, .pointer (some ⟨nx18 + 1, 0, none⟩)), (16, .bool t21.2), (14, .bool t19.2), (13, .pointer (some ⟨nx16, 0, none⟩)), (11, .pointer (some ⟨nx13, 0, none⟩)), (8, .pointer (some ⟨nx12, 0, none⟩)), (7, .bool t13.2), (5, .bool t11.2), (3, .bool t9.2), (2, .int .u32 t9.1)]) [] (RFacts.nil _ _ _) 3 [.no, .no, .no] (by kernel_rfl) (by kernel_rfl) ?_
      refine RL.cases (t26 == 2) (fun hb => ?_) (fun hb => ?_)
      ·have hc := (beq_iff_eq.1 hb)
       rw [hb]
       rw [if_pos hc] at H; clear hb
       obtain ⟨t27, hA27, H⟩ := Option.bind_eq_some_iff.mp H
       refine RL.callP 24 [.int .i64 0, .int .i64 1] (some 100) (fun w => quorum_Leader.Post I36 w t27) (by kernel_rfl) (by kernel_rfl) (fun w hs => quorum_Leader.calls I36 0 1 w hs.im  t27 hA27) ?_
       rintro w v w' hs ⟨I37, rfl, hg⟩
       have hi37 := hg.le
       refine RL.resume (X' := []) rfl (hs.call hg) ?_
       clear hs hg
       generalize w'.heap.size = nx25
       clear w w'
       refine RL.simK (K' := [(103, .bool (t27 == (-1))), (18, .pointer (some ⟨nx18 + 2, 0, none⟩)), (17, .pointer (some ⟨nx18 + 1, 0, none⟩)), (16, .bool t21.2), (14, .bool t19.2), (13, .pointer (some ⟨nx16, 0, none⟩)), (11, .pointer (some ⟨nx13, 0, none⟩)), (8, .pointer (some ⟨nx12, 0, none⟩)), (7, .bool t13.2), (5, .bool t11.2), (3, .bool t9.2), (2, .int .u32 t9.1)]) [] (RFacts.nil _ _ _) 3 [.no, .no, .no] (by kernel_rfl) (by kernel_rfl) ?_
       refine RL.cases (t27 == (-1)) (fun hb => ?_) (fun hb => ?_)
       ·have hc := (beq_iff_eq.1 hb)
        rw [hb]
        rw [if_pos hc] at H; clear hb
        refine RL.simK (K' := [(106, .bool t9.2), (18, .pointer (some ⟨nx18 + 2, 0, none⟩)), (17, .pointer (some ⟨nx18 + 1, 0, none⟩)), (16, .bool t21.2), (14, .bool t19.2), (13, .pointer (some ⟨nx16, 0, none⟩)), (11, .pointer (some ⟨nx13, 0, none⟩)), (8, .pointer (some ⟨nx12, 0, none⟩)), (7, .bool t13.2), (5, .bool t11.2), (2, .int .u32 t9.1)]) [] (RFacts.nil _ _ _) 3 [.no, .no, .no] (by kernel_rfl) (by kernel_rfl) ?_
        refine RL.cases t9.2 (fun hb => ?_) (fun hb => ?_)
        ·have hc := hb
         rw [hb]
         rw [if_pos hc] at H; clear hb
         refine RL.simK (K' := [(110, .bool (t9.1 == 7)), (18, .pointer (some ⟨nx18 + 2, 0, none⟩)), (17, .pointer (some ⟨nx18 + 1, 0, none⟩)), (16, .bool t21.2), (14, .bool t19.2), (13, .pointer (some ⟨nx16, 0, none⟩)), (11, .pointer (some ⟨nx13, 0, none⟩)), (8, .pointer (some ⟨nx12, 0, none⟩)), (7, .bool t13.2), (5, .bool t11.2)]) [] (RFacts.nil _ _ _) 4 [.no, .no, .no, .no] (by kernel_rfl) (by kernel_rfl) ?_
         refine RL.cases (t9.1 == 7) (fun hb => ?_) (fun hb => ?_)
         ·have hc := (beq_iff_eq.1 hb)
          rw [hb]
          rw [if_pos hc] at H; clear hb
          refine RL.simK (K' := [(114, .bool (!t11.2)), (18, .pointer (some ⟨nx18 + 2, 0, none⟩)), (17, .pointer (some ⟨nx18 + 1, 0, none⟩)), (16, .bool t21.2), (14, .bool t19.2), (13, .pointer (some ⟨nx16, 0, none⟩)), (11, .pointer (some ⟨nx13, 0, none⟩)), (8, .pointer (some ⟨nx12, 0, none⟩)), (7, .bool t13.2)]) [] (RFacts.nil _ _ _) 4 [.no, .no, .no, .no] (by kernel_rfl) (by kernel_rfl) ?_
          refine RL.cases t11.2 (fun hb => ?_) (fun hb => ?_)
          ·have hc := hb
           rw [hb]
           rw [if_pos hc] at H; clear hb
           refine RL.simK (K' := [(0, .bool false)]) [] (RFacts.nil _ _ _) 49 (.no :: .no :: .no :: .no :: .no :: .no :: .no :: .no :: .no :: .no :: .no :: .no :: .no :: .no :: .no :: .no :: .no :: .no :: .no :: .no :: .no :: .no :: .no :: .no :: .no :: .no :: .no :: .no :: .no :: .no :: .no :: .no :: .no :: .no :: .no :: .no :: .no :: .no :: .no :: .no :: .no :: .no :: .no :: .no :: .no :: .no :: .no :: .no :: .no :: []) (by kernel_rfl) (by kernel_rfl) ?_
           refine RL.nil (by kernel_rfl) ?_
           obtain rfl := Option.some.inj H
           refine QN.sub (K' := [(0, .bool false)]) (L' := [⟨nx12, [.int .i64 1, .string (⟨#[97]⟩ : ByteArray), .slice none 0 0], 30⟩, ⟨nx13, [.int .i64 1, .int .i64 1, .int .i64 1, .int .i64 0, .int .u32 t14.1, .int .i64 1, .string (⟨#[97]⟩ : ByteArray), .slice none 0 0], 32⟩, ⟨nx16, [.int .i64 t19.1.f0, .string t19.1.f1, .slice A11 t19.1.f2.length c11], 30⟩, ⟨nx18, [.int .i64 t21.1.f0, .string t21.1.f1, .slice A12 t21.1.f2.length c12], 30⟩, ⟨nx18 + 1, [.int .i64 1, .int .i64 1, .int .i64 1, .int .i64 0, .int .u32 (W .u32 (t14.1 + 1)), .int .i64 1, .string (⟨#[97]⟩ : ByteArray), .slice none 0 0], 32⟩, ⟨nx18 + 2, [.int .i64 1, .int .i64 2, .int .i64 1, .int .i64 0, .int .u32 t14.1, .int .i64 1, .string (⟨#[97]⟩ : ByteArray), .slice none 0 0], 32⟩]) (by kernel_rfl) (.cons_cons _ (.cons_cons _ (.cons_cons _ (.cons_cons _ (.cons_cons _ (.cons_cons _ .slnil)))))) (.refl _) ?_
           exact hJ1 _ _ _ _ _ ⟨false, rfl, rfl, rfl, (Imm.le_trans (Imm.le_trans (Imm.le_trans (Imm.le_trans (Imm.le_trans hi32 hi33) hi34) hi35) hi36) hi37), HK1⟩
          ·have hc := (Bool.eq_false_iff.1 hb)
           rw [hb]
           rw [if_neg hc] at H; clear hb
           refine RL.simK (K' := [(118, .bool (!t13.2)), (18, .pointer (some ⟨nx18 + 2, 0, none⟩)), (17, .pointer (some ⟨nx18 + 1, 0, none⟩)), (16, .bool t21.2), (14, .bool t19.2), (13, .pointer (some ⟨nx16, 0, none⟩)), (11, .pointer (some ⟨nx13, 0, none⟩)), (8, .pointer (some ⟨nx12, 0, none⟩))]) [] (RFacts.nil _ _ _) 4 [.no, .no, .no, .no] (by kernel_rfl) (by kernel_rfl) ?_
           refine RL.cases t13.2 (fun hb => ?_) (fun hb => ?_)
           ·have hc := hb
            rw [hb]
            rw [if_pos hc] at H; clear hb
            refine RL.simK (K' := [(0, .bool false)]) [] (RFacts.nil _ _ _) 45 (.no :: .no :: .no :: .no :: .no :: .no :: .no :: .no :: .no :: .no :: .no :: .no :: .no :: .no :: .no :: .no :: .no :: .no :: .no :: .no :: .no :: .no :: .no :: .no :: .no :: .no :: .no :: .no :: .no :: .no :: .no :: .no :: .no :: .no :: .no :: .no :: .no :: .no :: .no :: .no :: .no :: .no :: .no :: .no :: .no :: []) (by kernel_rfl) (by kernel_rfl) ?_
            refine RL.nil (by kernel_rfl) ?_
            obtain rfl := Option.some.inj H
            refine QN.sub (K' := [(0, .bool false)]) (L' := [⟨nx12, [.int .i64 1, .string (⟨#[97]⟩ : ByteArray), .slice none 0 0], 30⟩, ⟨nx13, [.int .i64 1, .int .i64 1, .int .i64 1, .int .i64 0, .int .u32 t14.1, .int .i64 1, .string (⟨#[97]⟩ : ByteArray), .slice none 0 0], 32⟩, ⟨nx16, [.int .i64 t19.1.f0, .string t19.1.f1, .slice A11 t19.1.f2.length c11], 30⟩, ⟨nx18, [.int .i64 t21.1.f0, .string t21.1.f1, .slice A12 t21.1.f2.length c12], 30⟩, ⟨nx18 + 1, [.int .i64 1, .int .i64 1, .int .i64 1, .int .i64 0, .int .u32 (W .u32 (t14.1 + 1)), .int .i64 1, .string (⟨#[97]⟩ : ByteArray), .slice none 0 0], 32⟩, ⟨nx18 + 2, [.int .i64 1, .int .i64 2, .int .i64 1, .int .i64 0, .int .u32 t14.1, .int .i64 1, .string (⟨#[97]⟩ : ByteArray), .slice none 0 0], 32⟩]) (by kernel_rfl) (.cons_cons _ (.cons_cons _ (.cons_cons _ (.cons_cons _ (.cons_cons _ (.cons_cons _ .slnil)))))) (.refl _) ?_
            exact hJ1 _ _ _ _ _ ⟨false, rfl, rfl, rfl, (Imm.le_trans (Imm.le_trans (Imm.le_trans (Imm.le_trans (Imm.le_trans hi32 hi33) hi34) hi35) hi36) hi37), HK1⟩
           ·have hc := (Bool.eq_false_iff.1 hb)
            rw [hb]
            rw [if_neg hc] at H; clear hb
            refine RL.simK (K' := [(121, .bool t19.2), (18, .pointer (some ⟨nx18 + 2, 0, none⟩)), (17, .pointer (some ⟨nx18 + 1, 0, none⟩)), (16, .bool t21.2), (13, .pointer (some ⟨nx16, 0, none⟩)), (11, .pointer (some ⟨nx13, 0, none⟩)), (8, .pointer (some ⟨nx12, 0, none⟩))]) [] (RFacts.nil _ _ _) 3 [.no, .no, .no] (by kernel_rfl) (by kernel_rfl) ?_
            refine RL.cases t19.2 (fun hb => ?_) (fun hb => ?_)
            ·have hc := hb
             rw [hb]
             rw [if_pos hc] at H; clear hb
             refine RL.simK (K' := [(123, .agg #[.int .i64 t19.1.f0, .string t19.1.f1, .slice A11 t19.1.f2.length c11]), (122, .agg #[.int .i64 1, .string (⟨#[97]⟩ : ByteArray), .slice none 0 0]), (121, .bool true), (18, .pointer (some ⟨nx18 + 2, 0, none⟩)), (17, .pointer (some ⟨nx18 + 1, 0, none⟩)), (16, .bool t21.2), (11, .pointer (some ⟨nx13, 0, none⟩))]) [] (RFacts.nil _ _ _) 2 [.l 0, .l 2] (by kernel_rfl) (by kernel_rfl) ?_
             obtain ⟨t28, hA28, H⟩ := Option.bind_eq_some_iff.mp H
             refine RL.callP 26 [.agg #[.int .i64 1, .string (⟨#[97]⟩ : ByteArray), .slice none 0 0], .agg #[.int .i64 t19.1.f0, .string t19.1.f1, .slice A11 t19.1.f2.length c11]] (some 124) (fun w => armillaryref29_Same.Post I37 w t28) (by kernel_rfl) (by kernel_rfl) (fun w hs => armillaryref29_Same.calls I37 (⟨1, (⟨#[97]⟩ : ByteArray), []⟩ : S30) none 0 t19.1 A11 c11 w hs.im (Nat.le_refl _) (Rd.nil _ _ _) hl11 (Rd.ext (Imm.le_trans (Imm.le_trans (Imm.le_trans (Imm.le_trans (Imm.le_trans (Imm.le_trans (Imm.le_trans hi29 hi30) hi32) hi33) hi34) hi35) hi36) hi37) hr13) t28 hA28) ?_
             rintro w v w' hs ⟨I38, rfl, hg⟩
             have hi38 := hg.le
             refine RL.resume (X' := []) rfl (hs.call hg) ?_
             clear hs hg
             generalize w'.heap.size = nx26
             clear w w'
             refine RL.simK (K' := [(126, .bool t28), (18, .pointer (some ⟨nx18 + 2, 0, none⟩)), (17, .pointer (some ⟨nx18 + 1, 0, none⟩)), (16, .bool t21.2), (11, .pointer (some ⟨nx13, 0, none⟩))]) [] (RFacts.nil _ _ _) 2 [.no, .no] (by kernel_rfl) (by kernel_rfl) ?_
             refine RL.cases t28 (fun hb => ?_) (fun hb => ?_)
             ·have hc := hb
              rw [hb]
              rw [if_pos hc] at H; clear hb
              refine RL.simK (K' := [(130, .bool (!t21.2)), (18, .pointer (some ⟨nx18 + 2, 0, none⟩)), (17, .pointer (some ⟨nx18 + 1, 0, none⟩)), (11, .pointer (some ⟨nx13, 0, none⟩))]) [] (RFacts.nil _ _ _) 4 [.no, .no, .no, .no] (by kernel_rfl) (by kernel_rfl) ?_
              refine RL.cases t21.2 (fun hb => ?_) (fun hb => ?_)
              ·have hc := hb
               rw [hb]
               rw [if_pos hc] at H; clear hb
               refine RL.simK (K' := [(0, .bool false)]) [] (RFacts.nil _ _ _) 33 (.no :: .no :: .no :: .no :: .no :: .no :: .no :: .no :: .no :: .no :: .no :: .no :: .no :: .no :: .no :: .no :: .no :: .no :: .no :: .no :: .no :: .no :: .no :: .no :: .no :: .no :: .no :: .no :: .no :: .no :: .no :: .no :: .no :: []) (by kernel_rfl) (by kernel_rfl) ?_
               refine RL.nil (by kernel_rfl) ?_
               obtain rfl := Option.some.inj H
               refine QN.sub (K' := [(0, .bool false)]) (L' := [⟨nx12, [.int .i64 1, .string (⟨#[97]⟩ : ByteArray), .slice none 0 0], 30⟩, ⟨nx13, [.int .i64 1, .int .i64 1, .int .i64 1, .int .i64 0, .int .u32 t14.1, .int .i64 1, .string (⟨#[97]⟩ : ByteArray), .slice none 0 0], 32⟩, ⟨nx16, [.int .i64 t19.1.f0, .string t19.1.f1, .slice A11 t19.1.f2.length c11], 30⟩, ⟨nx18, [.int .i64 t21.1.f0, .string t21.1.f1, .slice A12 t21.1.f2.length c12], 30⟩, ⟨nx18 + 1, [.int .i64 1, .int .i64 1, .int .i64 1, .int .i64 0, .int .u32 (W .u32 (t14.1 + 1)), .int .i64 1, .string (⟨#[97]⟩ : ByteArray), .slice none 0 0], 32⟩, ⟨nx18 + 2, [.int .i64 1, .int .i64 2, .int .i64 1, .int .i64 0, .int .u32 t14.1, .int .i64 1, .string (⟨#[97]⟩ : ByteArray), .slice none 0 0], 32⟩]) (by kernel_rfl) (.cons_cons _ (.cons_cons _ (.cons_cons _ (.cons_cons _ (.cons_cons _ (.cons_cons _ .slnil)))))) (.refl _) ?_
               exact hJ1 _ _ _ _ _ ⟨false, rfl, rfl, rfl, (Imm.le_trans (Imm.le_trans (Imm.le_trans (Imm.le_trans (Imm.le_trans (Imm.le_trans hi32 hi33) hi34) hi35) hi36) hi37) hi38), HK1⟩
              ·have hc := (Bool.eq_false_iff.1 hb)
               rw [hb]
               rw [if_neg hc] at H; clear hb
               refine RL.simK (K' := [(131, .agg #[.int .i64 1, .int .i64 1, .int .i64 1, .int .i64 0, .int .u32 t14.1, .int .i64 1, .string (⟨#[97]⟩ : ByteArray), .slice none 0 0]), (130, .bool true), (18, .pointer (some ⟨nx18 + 2, 0, none⟩)), (17, .pointer (some ⟨nx18 + 1, 0, none⟩))]) [] (RFacts.nil _ _ _) 1 [.l 1] (by kernel_rfl) (by kernel_rfl) ?_
               obtain ⟨t29, hA29, H⟩ := Option.bind_eq_some_iff.mp H
               refine RL.callP 12 [.agg #[.int .i64 1, .int .i64 1, .int .i64 1, .int .i64 0, .int .u32 t14.1, .int .i64 1, .string (⟨#[97]⟩ : ByteArray), .slice none 0 0], .int .i64 4] (some 132) (fun w => quorum_Valid.Post I38 w t29) (by kernel_rfl) (by kernel_rfl) (fun w hs => quorum_Valid.calls k I38 (⟨1, 1, 1, 0, t14.1, (⟨1, (⟨#[97]⟩ : ByteArray), []⟩ : S30)⟩ : S32) none 0 4 w hs.im (Nat.le_refl _) (Rd.nil _ _ _) t29 hA29) ?_
               rintro w v w' hs ⟨I39, rfl, hg⟩
               have hi39 := hg.le
               refine RL.resume (X' := []) rfl (hs.call hg) ?_
               clear hs hg
               generalize w'.heap.size = nx27
               clear w w'
               refine RL.simK (K' := [(134, .bool t29), (18, .pointer (some ⟨nx18 + 2, 0, none⟩)), (17, .pointer (some ⟨nx18 + 1, 0, none⟩))]) [] (RFacts.nil _ _ _) 2 [.no, .no] (by kernel_rfl) (by kernel_rfl) ?_
               refine RL.cases t29 (fun hb => ?_) (fun hb => ?_)
               ·have hc := hb
                rw [hb]
                rw [if_pos hc] at H; clear hb
                refine RL.simK (K' := [(135, .agg #[.int .i64 1, .int .i64 1, .int .i64 1, .int .i64 0, .int .u32 (W .u32 (t14.1 + 1)), .int .i64 1, .string (⟨#[97]⟩ : ByteArray), .slice none 0 0]), (134, .bool true), (18, .pointer (some ⟨nx18 + 2, 0, none⟩))]) [] (RFacts.nil _ _ _) 1 [.l 4] (by kernel_rfl) (by kernel_rfl) ?_
                obtain ⟨t30, hA30, H⟩ := Option.bind_eq_some_iff.mp H
                refine RL.callP 12 [.agg #[.int .i64 1, .int .i64 1, .int .i64 1, .int .i64 0, .int .u32 (W .u32 (t14.1 + 1)), .int .i64 1, .string (⟨#[97]⟩ : ByteArray), .slice none 0 0], .int .i64 4] (some 136) (fun w => quorum_Valid.Post I39 w t30) (by kernel_rfl) (by kernel_rfl) (fun w hs => quorum_Valid.calls k I39 (⟨1, 1, 1, 0, W .u32 (t14.1 + 1), (⟨1, (⟨#[97]⟩ : ByteArray), []⟩ : S30)⟩ : S32) none 0 4 w hs.im (Nat.le_refl _) (Rd.nil _ _ _) t30 hA30) ?_
                rintro w v w' hs ⟨I40, rfl, hg⟩
                have hi40 := hg.le
                refine RL.resume (X' := []) rfl (hs.call hg) ?_
                clear hs hg
                generalize w'.heap.size = nx28
                clear w w'
                refine RL.simK (K' := [(139, .bool (!t30)), (18, .pointer (some ⟨nx18 + 2, 0, none⟩))]) [] (RFacts.nil _ _ _) 3 [.no, .no, .no] (by kernel_rfl) (by kernel_rfl) ?_
                refine RL.cases t30 (fun hb => ?_) (fun hb => ?_)
                ·have hc := hb
                 rw [hb]
                 rw [if_pos hc] at H; clear hb
                 refine RL.simK (K' := [(0, .bool false)]) [] (RFacts.nil _ _ _) 24 [.no, .no, .no, .no, .no, .no, .no, .no, .no, .no, .no, .no, .no, .no, .no, .no, .no, .no, .no, .no, .no, .no, .no, .no] (by kernel_rfl) (by kernel_rfl) ?_
                 refine RL.nil (by kernel_rfl) ?_
                 obtain rfl := Option.some.inj H
                 refine QN.sub (K' := [(0, .bool false)]) (L' := [⟨nx12, [.int .i64 1, .string (⟨#[97]⟩ : ByteArray), .slice none 0 0], 30⟩, ⟨nx13, [.int .i64 1, .int .i64 1, .int .i64 1, .int .i64 0, .int .u32 t14.1, .int .i64 1, .string (⟨#[97]⟩ : ByteArray), .slice none 0 0], 32⟩, ⟨nx16, [.int .i64 t19.1.f0, .string t19.1.f1, .slice A11 t19.1.f2.length c11], 30⟩, ⟨nx18, [.int .i64 t21.1.f0, .string t21.1.f1, .slice A12 t21.1.f2.length c12], 30⟩, ⟨nx18 + 1, [.int .i64 1, .int .i64 1, .int .i64 1, .int .i64 0, .int .u32 (W .u32 (t14.1 + 1)), .int .i64 1, .string (⟨#[97]⟩ : ByteArray), .slice none 0 0], 32⟩, ⟨nx18 + 2, [.int .i64 1, .int .i64 2, .int .i64 1, .int .i64 0, .int .u32 t14.1, .int .i64 1, .string (⟨#[97]⟩ : ByteArray), .slice none 0 0], 32⟩]) (by kernel_rfl) (.cons_cons _ (.cons_cons _ (.cons_cons _ (.cons_cons _ (.cons_cons _ (.cons_cons _ .slnil)))))) (.refl _) ?_
                 exact hJ1 _ _ _ _ _ ⟨false, rfl, rfl, rfl, (Imm.le_trans (Imm.le_trans (Imm.le_trans (Imm.le_trans (Imm.le_trans (Imm.le_trans (Imm.le_trans (Imm.le_trans hi32 hi33) hi34) hi35) hi36) hi37) hi38) hi39) hi40), HK1⟩
                ·have hc := (Bool.eq_false_iff.1 hb)
                 rw [hb]
                 rw [if_neg hc] at H; clear hb
                 refine RL.simK (K' := [(140, .agg #[.int .i64 1, .int .i64 2, .int .i64 1, .int .i64 0, .int .u32 t14.1, .int .i64 1, .string (⟨#[97]⟩ : ByteArray), .slice none 0 0]), (139, .bool true)]) [] (RFacts.nil _ _ _) 1 [.l 5] (by kernel_rfl) (by kernel_rfl) ?_
                 obtain ⟨t31, hA31, H⟩ := Option.bind_eq_some_iff.mp H
                 refine RL.callP 12 [.agg #[.int .i64 1, .int .i64 2, .int .i64 1, .int .i64 0, .int .u32 t14.1, .int .i64 1, .string (⟨#[97]⟩ : ByteArray), .slice none 0 0], .int .i64 4] (some 141) (fun w => quorum_Valid.Post I40 w t31) (by kernel_rfl) (by kernel_rfl) (fun w hs => quorum_Valid.calls k I40 (⟨1, 2, 1, 0, t14.1, (⟨1, (⟨#[97]⟩ : ByteArray), []⟩ : S30)⟩ : S32) none 0 4 w hs.im (Nat.le_refl _) (Rd.nil _ _ _) t31 hA31) ?_
                 rintro w v w' hs ⟨I41, rfl, hg⟩
                 have hi41 := hg.le
                 refine RL.resume (X' := []) rfl (hs.call hg) ?_
                 clear hs hg
                 generalize w'.heap.size = nx29
                 clear w w'
                 refine RL.simK (K' := [(144, .bool (!t31))]) [] (RFacts.nil _ _ _) 3 [.no, .no, .no] (by kernel_rfl) (by kernel_rfl) ?_
                 refine RL.cases t31 (fun hb => ?_) (fun hb => ?_)
                 ·have hc := hb
                  rw [hb]
                  rw [if_pos hc] at H; clear hb
                  refine RL.simK (K' := [(0, .bool false)]) [] (RFacts.nil _ _ _) 19 [.no, .no, .no, .no, .no, .no, .no, .no, .no, .no, .no, .no, .no, .no, .no, .no, .no, .no, .no] (by kernel_rfl) (by kernel_rfl) ?_
                  refine RL.nil (by kernel_rfl) ?_
                  obtain rfl := Option.some.inj H
                  refine QN.sub (K' := [(0, .bool false)]) (L' := [⟨nx12, [.int .i64 1, .string (⟨#[97]⟩ : ByteArray), .slice none 0 0], 30⟩, ⟨nx13, [.int .i64 1, .int .i64 1, .int .i64 1, .int .i64 0, .int .u32 t14.1, .int .i64 1, .string (⟨#[97]⟩ : ByteArray), .slice none 0 0], 32⟩, ⟨nx16, [.int .i64 t19.1.f0, .string t19.1.f1, .slice A11 t19.1.f2.length c11], 30⟩, ⟨nx18, [.int .i64 t21.1.f0, .string t21.1.f1, .slice A12 t21.1.f2.length c12], 30⟩, ⟨nx18 + 1, [.int .i64 1, .int .i64 1, .int .i64 1, .int .i64 0, .int .u32 (W .u32 (t14.1 + 1)), .int .i64 1, .string (⟨#[97]⟩ : ByteArray), .slice none 0 0], 32⟩, ⟨nx18 + 2, [.int .i64 1, .int .i64 2, .int .i64 1, .int .i64 0, .int .u32 t14.1, .int .i64 1, .string (⟨#[97]⟩ : ByteArray), .slice none 0 0], 32⟩]) (by kernel_rfl) (.cons_cons _ (.cons_cons _ (.cons_cons _ (.cons_cons _ (.cons_cons _ (.cons_cons _ .slnil)))))) (.refl _) ?_
                  exact hJ1 _ _ _ _ _ ⟨false, rfl, rfl, rfl, (Imm.le_trans (Imm.le_trans (Imm.le_trans (Imm.le_trans (Imm.le_trans (Imm.le_trans (Imm.le_trans (Imm.le_trans (Imm.le_trans hi32 hi33) hi34) hi35) hi36) hi37) hi38) hi39) hi40) hi41), HK1⟩
                 ·have hc := (Bool.eq_false_iff.1 hb)
                  rw [hb]
                  rw [if_neg hc] at H; clear hb
                  obtain ⟨t32, hA32, H⟩ := Option.bind_eq_some_iff.mp H
                  refine RL.callP 29 [.int .i64 4, .int .i64 0, .int .i64 5, .int .u32 0] (some 145) (fun w => armillarylaw29_vote.Post I41 w t32) (by kernel_rfl) (by kernel_rfl) (fun w hs => armillarylaw29_vote.calls I41 4 0 5 0 w hs.im  t32 hA32) ?_
                  rintro w v w' hs ⟨I42, A13, c13, cs11, rfl, hg, hp8⟩
                  have hi42 := hg.le
                  refine RL.resume (X' := [orow 5 1 A13 t32.f5.f2.length c13 cs11]) rfl (hs.call hg) ?_
                  clear hs hg
                  generalize w'.heap.size = nx30
                  clear w w'
                  refine RL.freeze (e := 5) (sz := 1) (S := A13) (n := t32.f5.f2.length) (cap := c13) 0 (by kernel_rfl) hp8 rfl (fun _ h => h.elim) (fun I43 hi43 hl13 hr15 => ?_)
                  skip
                  obtain ⟨t33, hA33, H⟩ := Option.bind_eq_some_iff.mp H
                  refine RL.callP 12 [.agg #[.int .i64 t32.f0, .int .i64 t32.f1, .int .i64 t32.f2, .int .i64 t32.f3, .int .u32 t32.f4, .int .i64 t32.f5.f0, .string t32.f5.f1, .slice A13 t32.f5.f2.length c13], .int .i64 1] (some 146) (fun w => quorum_Valid.Post I43 w t33) (by kernel_rfl) (by kernel_rfl) (fun w hs => quorum_Valid.calls k I43 t32 A13 c13 1 w hs.im hl13 hr15 t33 hA33) ?_
                  rintro w v w' hs ⟨I44, rfl, hg⟩
                  have hi44 := hg.le
                  refine RL.resume (X' := []) rfl (hs.call hg) ?_
                  clear hs hg
                  generalize w'.heap.size = nx31
                  clear w w'
                  refine RL.simK (K' := [(148, .bool t33)]) [] (RFacts.nil _ _ _) 2 [.no, .no] (by kernel_rfl) (by kernel_rfl) ?_
                  refine RL.cases t33 (fun hb => ?_) (fun hb => ?_)
                  ·have hc := hb
                   rw [hb]
                   rw [if_pos hc] at H; clear hb
                   obtain ⟨t34, hA34, H⟩ := Option.bind_eq_some_iff.mp H
                   refine RL.callP 29 [.int .i64 4, .int .i64 0, .int .i64 5, .int .u32 1] (some 149) (fun w => armillarylaw29_vote.Post I44 w t34) (by kernel_rfl) (by kernel_rfl) (fun w hs => armillarylaw29_vote.calls I44 4 0 5 1 w hs.im  t34 hA34) ?_
                   rintro w v w' hs ⟨I45, A14, c14, cs12, rfl, hg, hp9⟩
                   have hi45 := hg.le
                   refine RL.resume (X' := [orow 5 1 A14 t34.f5.f2.length c14 cs12]) rfl (hs.call hg) ?_
                   clear hs hg
                   generalize w'.heap.size = nx32
                   clear w w'
                   refine RL.freeze (e := 5) (sz := 1) (S := A14) (n := t34.f5.f2.length) (cap := c14) 0 (by kernel_rfl) hp9 rfl (fun _ h => h.elim) (fun I46 hi46 hl14 hr16 => ?_)
                   skip
                   obtain ⟨t35, hA35, H⟩ := Option.bind_eq_some_iff.mp H
                   refine RL.callP 12 [.agg #[.int .i64 t34.f0, .int .i64 t34.f1, .int .i64 t34.f2, .int .i64 t34.f3, .int .u32 t34.f4, .int .i64 t34.f5.f0, .string t34.f5.f1, .slice A14 t34.f5.f2.length c14], .int .i64 1] (some 150) (fun w => quorum_Valid.Post I46 w t35) (by kernel_rfl) (by kernel_rfl) (fun w hs => quorum_Valid.calls k I46 t34 A14 c14 1 w hs.im hl14 hr16 t35 hA35) ?_
                   rintro w v w' hs ⟨I47, rfl, hg⟩
                   have hi47 := hg.le
                   refine RL.resume (X' := []) rfl (hs.call hg) ?_
                   clear hs hg
                   generalize w'.heap.size = nx33
                   clear w w'
                   refine RL.simK (K' := [(153, .bool (!t35))]) [] (RFacts.nil _ _ _) 3 [.no, .no, .no] (by kernel_rfl) (by kernel_rfl) ?_
                   refine RL.cases t35 (fun hb => ?_) (fun hb => ?_)
                   ·have hc := hb
                    rw [hb]
                    rw [if_pos hc] at H; clear hb
                    refine RL.simK (K' := [(0, .bool false)]) [] (RFacts.nil _ _ _) 10 [.no, .no, .no, .no, .no, .no, .no, .no, .no, .no] (by kernel_rfl) (by kernel_rfl) ?_
                    refine RL.nil (by kernel_rfl) ?_
                    obtain rfl := Option.some.inj H
                    refine QN.sub (K' := [(0, .bool false)]) (L' := [⟨nx12, [.int .i64 1, .string (⟨#[97]⟩ : ByteArray), .slice none 0 0], 30⟩, ⟨nx13, [.int .i64 1, .int .i64 1, .int .i64 1, .int .i64 0, .int .u32 t14.1, .int .i64 1, .string (⟨#[97]⟩ : ByteArray), .slice none 0 0], 32⟩, ⟨nx16, [.int .i64 t19.1.f0, .string t19.1.f1, .slice A11 t19.1.f2.length c11], 30⟩, ⟨nx18, [.int .i64 t21.1.f0, .string t21.1.f1, .slice A12 t21.1.f2.length c12], 30⟩, ⟨nx18 + 1, [.int .i64 1, .int .i64 1, .int .i64 1, .int .i64 0, .int .u32 (W .u32 (t14.1 + 1)), .int .i64 1, .string (⟨#[97]⟩ : ByteArray), .slice none 0 0], 32⟩, ⟨nx18 + 2, [.int .i64 1, .int .i64 2, .int .i64 1, .int .i64 0, .int .u32 t14.1, .int .i64 1, .string (⟨#[97]⟩ : ByteArray), .slice none 0 0], 32⟩]) (by kernel_rfl) (.cons_cons _ (.cons_cons _ (.cons_cons _ (.cons_cons _ (.cons_cons _ (.cons_cons _ .slnil)))))) (.refl _) ?_
                    exact hJ1 _ _ _ _ _ ⟨false, rfl, rfl, rfl, (Imm.le_trans (Imm.le_trans (Imm.le_trans (Imm.le_trans (Imm.le_trans (Imm.le_trans (Imm.le_trans (Imm.le_trans (Imm.le_trans (Imm.le_trans (Imm.le_trans (Imm.le_trans (Imm.le_trans (Imm.le_trans (Imm.le_trans hi32 hi33) hi34) hi35) hi36) hi37) hi38) hi39) hi40) hi41) hi42) hi43) hi44) hi45) hi46) hi47), HK1⟩
                   ·have hc := (Bool.eq_false_iff.1 hb)
                    rw [hb]
                    rw [if_neg hc] at H; clear hb
                    obtain ⟨t36, hA36, H⟩ := Option.bind_eq_some_iff.mp H
                    refine RL.callP 29 [.int .i64 2, .int .i64 4, .int .i64 0, .int .u32 0] (some 154) (fun w => armillarylaw29_vote.Post I47 w t36) (by kernel_rfl) (by kernel_rfl) (fun w hs => armillarylaw29_vote.calls I47 2 4 0 0 w hs.im  t36 hA36) ?_
                    rintro w v w' hs ⟨I48, A15, c15, cs13, rfl, hg, hp10⟩
                    have hi48 := hg.le
                    refine RL.resume (X' := [orow 5 1 A15 t36.f5.f2.length c15 cs13]) rfl (hs.call hg) ?_
                    clear hs hg
                    generalize w'.heap.size = nx34
                    clear w w'
                    refine RL.freeze (e := 5) (sz := 1) (S := A15) (n := t36.f5.f2.length) (cap := c15) 0 (by kernel_rfl) hp10 rfl (fun _ h => h.elim) (fun I49 hi49 hl15 hr17 => ?_)
                    skip
                    obtain ⟨t37, hA37, H⟩ := Option.bind_eq_some_iff.mp H
                    refine RL.callP 12 [.agg #[.int .i64 t36.f0, .int .i64 t36.f1, .int .i64 t36.f2, .int .i64 t36.f3, .int .u32 t36.f4, .int .i64 t36.f5.f0, .string t36.f5.f1, .slice A15 t36.f5.f2.length c15], .int .i64 4] (some 155) (fun w => quorum_Valid.Post I49 w t37) (by kernel_rfl) (by kernel_rfl) (fun w hs => quorum_Valid.calls k I49 t36 A15 c15 4 w hs.im hl15 hr17 t37 hA37) ?_
                    rintro w v w' hs ⟨I50, rfl, hg⟩
                    have hi50 := hg.le
                    refine RL.resume (X' := []) rfl (hs.call hg) ?_
                    clear hs hg
                    generalize w'.heap.size = nx35
                    clear w w'
                    refine RL.simK (K' := [(158, .bool (!t37))]) [] (RFacts.nil _ _ _) 3 [.no, .no, .no] (by kernel_rfl) (by kernel_rfl) ?_
                    refine RL.cases t37 (fun hb => ?_) (fun hb => ?_)
                    ·have hc := hb
                     rw [hb]
                     rw [if_pos hc] at H; clear hb
                     refine RL.simK (K' := [(0, .bool false)]) [] (RFacts.nil _ _ _) 5 [.no, .no, .no, .no, .no] (by kernel_rfl) (by kernel_rfl) ?_
                     refine RL.nil (by kernel_rfl) ?_
                     obtain rfl := Option.some.inj H
                     refine QN.sub (K' := [(0, .bool false)]) (L' := [⟨nx12, [.int .i64 1, .string (⟨#[97]⟩ : ByteArray), .slice none 0 0], 30⟩, ⟨nx13, [.int .i64 1, .int .i64 1, .int .i64 1, .int .i64 0, .int .u32 t14.1, .int .i64 1, .string (⟨#[97]⟩ : ByteArray), .slice none 0 0], 32⟩, ⟨nx16, [.int .i64 t19.1.f0, .string t19.1.f1, .slice A11 t19.1.f2.length c11], 30⟩, ⟨nx18, [.int .i64 t21.1.f0, .string t21.1.f1, .slice A12 t21.1.f2.length c12], 30⟩, ⟨nx18 + 1, [.int .i64 1, .int .i64 1, .int .i64 1, .int .i64 0, .int .u32 (W .u32 (t14.1 + 1)), .int .i64 1, .string (⟨#[97]⟩ : ByteArray), .slice none 0 0], 32⟩, ⟨nx18 + 2, [.int .i64 1, .int .i64 2, .int .i64 1, .int .i64 0, .int .u32 t14.1, .int .i64 1, .string (⟨#[97]⟩ : ByteArray), .slice none 0 0], 32⟩]) (by kernel_rfl) (.cons_cons _ (.cons_cons _ (.cons_cons _ (.cons_cons _ (.cons_cons _ (.cons_cons _ .slnil)))))) (.refl _) ?_
                     exact hJ1 _ _ _ _ _ ⟨false, rfl, rfl, rfl, (Imm.le_trans (Imm.le_trans (Imm.le_trans (Imm.le_trans (Imm.le_trans (Imm.le_trans (Imm.le_trans (Imm.le_trans (Imm.le_trans (Imm.le_trans (Imm.le_trans (Imm.le_trans (Imm.le_trans (Imm.le_trans (Imm.le_trans (Imm.le_trans (Imm.le_trans (Imm.le_trans hi32 hi33) hi34) hi35) hi36) hi37) hi38) hi39) hi40) hi41) hi42) hi43) hi44) hi45) hi46) hi47) hi48) hi49) hi50), HK1⟩
                    ·have hc := (Bool.eq_false_iff.1 hb)
                     rw [hb]
                     rw [if_neg hc] at H; clear hb
                     obtain ⟨t38, hA38, H⟩ := Option.bind_eq_some_iff.mp H
                     refine RL.callP 29 [.int .i64 5, .int .i64 0, .int .i64 0, .int .u32 0] (some 159) (fun w => armillarylaw29_vote.Post I50 w t38) (by kernel_rfl) (by kernel_rfl) (fun w hs => armillarylaw29_vote.calls I50 5 0 0 0 w hs.im  t38 hA38) ?_
                     rintro w v w' hs ⟨I51, A16, c16, cs14, rfl, hg, hp11⟩
                     have hi51 := hg.le
                     refine RL.resume (X' := [orow 5 1 A16 t38.f5.f2.length c16 cs14]) rfl (hs.call hg) ?_
                     clear hs hg
                     generalize w'.heap.size = nx36
                     clear w w'
                     refine RL.freeze (e := 5) (sz := 1) (S := A16) (n := t38.f5.f2.length) (cap := c16) 0 (by kernel_rfl) hp11 rfl (fun _ h => h.elim) (fun I52 hi52 hl16 hr18 => ?_)
                     skip
                     obtain ⟨t39, hA39, H⟩ := Option.bind_eq_some_iff.mp H
                     refine RL.callP 12 [.agg #[.int .i64 t38.f0, .int .i64 t38.f1, .int .i64 t38.f2, .int .i64 t38.f3, .int .u32 t38.f4, .int .i64 t38.f5.f0, .string t38.f5.f1, .slice A16 t38.f5.f2.length c16], .int .i64 4] (some 160) (fun w => quorum_Valid.Post I52 w t39) (by kernel_rfl) (by kernel_rfl) (fun w hs => quorum_Valid.calls k I52 t38 A16 c16 4 w hs.im hl16 hr18 t39 hA39) ?_
                     rintro w v w' hs ⟨I53, rfl, hg⟩
                     have hi53 := hg.le
                     refine RL.resume (X' := []) rfl (hs.call hg) ?_
                     clear hs hg
                     generalize w'.heap.size = nx37
                     clear w w'
                     refine RL.simK (K' := [(0, .bool (!t39))]) [] (RFacts.nil _ _ _) 3 [.no, .no, .no] (by kernel_rfl) (by kernel_rfl) ?_
                     refine RL.nil (by kernel_rfl) ?_
                     obtain rfl := Option.some.inj H
                     refine QN.sub (K' := [(0, .bool (!t39))]) (L' := [⟨nx12, [.int .i64 1, .string (⟨#[97]⟩ : ByteArray), .slice none 0 0], 30⟩, ⟨nx13, [.int .i64 1, .int .i64 1, .int .i64 1, .int .i64 0, .int .u32 t14.1, .int .i64 1, .string (⟨#[97]⟩ : ByteArray), .slice none 0 0], 32⟩, ⟨nx16, [.int .i64 t19.1.f0, .string t19.1.f1, .slice A11 t19.1.f2.length c11], 30⟩, ⟨nx18, [.int .i64 t21.1.f0, .string t21.1.f1, .slice A12 t21.1.f2.length c12], 30⟩, ⟨nx18 + 1, [.int .i64 1, .int .i64 1, .int .i64 1, .int .i64 0, .int .u32 (W .u32 (t14.1 + 1)), .int .i64 1, .string (⟨#[97]⟩ : ByteArray), .slice none 0 0], 32⟩, ⟨nx18 + 2, [.int .i64 1, .int .i64 2, .int .i64 1, .int .i64 0, .int .u32 t14.1, .int .i64 1, .string (⟨#[97]⟩ : ByteArray), .slice none 0 0], 32⟩]) (by kernel_rfl) (.cons_cons _ (.cons_cons _ (.cons_cons _ (.cons_cons _ (.cons_cons _ (.cons_cons _ .slnil)))))) (.refl _) ?_
                     exact hJ1 _ _ _ _ _ ⟨(!t39), rfl, rfl, rfl, (Imm.le_trans (Imm.le_trans (Imm.le_trans (Imm.le_trans (Imm.le_trans (Imm.le_trans (Imm.le_trans (Imm.le_trans (Imm.le_trans (Imm.le_trans (Imm.le_trans (Imm.le_trans (Imm.le_trans (Imm.le_trans (Imm.le_trans (Imm.le_trans (Imm.le_trans (Imm.le_trans (Imm.le_trans (Imm.le_trans (Imm.le_trans hi32 hi33) hi34) hi35) hi36) hi37) hi38) hi39) hi40) hi41) hi42) hi43) hi44) hi45) hi46) hi47) hi48) hi49) hi50) hi51) hi52) hi53), HK1⟩
                  ·have hc := (Bool.eq_false_iff.1 hb)
                   rw [hb]
                   rw [if_neg hc] at H; clear hb
                   refine RL.simK (K' := [(0, .bool false)]) [] (RFacts.nil _ _ _) 15 [.no, .no, .no, .no, .no, .no, .no, .no, .no, .no, .no, .no, .no, .no, .no] (by kernel_rfl) (by kernel_rfl) ?_
                   refine RL.nil (by kernel_rfl) ?_
                   obtain rfl := Option.some.inj H
                   refine QN.sub (K' := [(0, .bool false)]) (L' := [⟨nx12, [.int .i64 1, .string (⟨#[97]⟩ : ByteArray), .slice none 0 0], 30⟩, ⟨nx13, [.int .i64 1, .int .i64 1, .int .i64 1, .int .i64 0, .int .u32 t14.1, .int .i64 1, .string (⟨#[97]⟩ : ByteArray), .slice none 0 0], 32⟩, ⟨nx16, [.int .i64 t19.1.f0, .string t19.1.f1, .slice A11 t19.1.f2.length c11], 30⟩, ⟨nx18, [.int .i64 t21.1.f0, .string t21.1.f1, .slice A12 t21.1.f2.length c12], 30⟩, ⟨nx18 + 1, [.int .i64 1, .int .i64 1, .int .i64 1, .int .i64 0, .int .u32 (W .u32 (t14.1 + 1)), .int .i64 1, .string (⟨#[97]⟩ : ByteArray), .slice none 0 0], 32⟩, ⟨nx18 + 2, [.int .i64 1, .int .i64 2, .int .i64 1, .int .i64 0, .int .u32 t14.1, .int .i64 1, .string (⟨#[97]⟩ : ByteArray), .slice none 0 0], 32⟩]) (by kernel_rfl) (.cons_cons _ (.cons_cons _ (.cons_cons _ (.cons_cons _ (.cons_cons _ (.cons_cons _ .slnil)))))) (.refl _) ?_
                   exact hJ1 _ _ _ _ _ ⟨false, rfl, rfl, rfl, (Imm.le_trans (Imm.le_trans (Imm.le_trans (Imm.le_trans (Imm.le_trans (Imm.le_trans (Imm.le_trans (Imm.le_trans (Imm.le_trans (Imm.le_trans (Imm.le_trans (Imm.le_trans hi32 hi33) hi34) hi35) hi36) hi37) hi38) hi39) hi40) hi41) hi42) hi43) hi44), HK1⟩
               ·have hc := (Bool.eq_false_iff.1 hb)
                rw [hb]
                rw [if_neg hc] at H; clear hb
                refine RL.simK (K' := [(0, .bool false)]) [] (RFacts.nil _ _ _) 29 (.no :: .no :: .no :: .no :: .no :: .no :: .no :: .no :: .no :: .no :: .no :: .no :: .no :: .no :: .no :: .no :: .no :: .no :: .no :: .no :: .no :: .no :: .no :: .no :: .no :: .no :: .no :: .no :: .no :: []) (by kernel_rfl) (by kernel_rfl) ?_
                refine RL.nil (by kernel_rfl) ?_
                obtain rfl := Option.some.inj H
                refine QN.sub (K' := [(0, .bool false)]) (L' := [⟨nx12, [.int .i64 1, .string (⟨#[97]⟩ : ByteArray), .slice none 0 0], 30⟩, ⟨nx13, [.int .i64 1, .int .i64 1, .int .i64 1, .int .i64 0, .int .u32 t14.1, .int .i64 1, .string (⟨#[97]⟩ : ByteArray), .slice none 0 0], 32⟩, ⟨nx16, [.int .i64 t19.1.f0, .string t19.1.f1, .slice A11 t19.1.f2.length c11], 30⟩, ⟨nx18, [.int .i64 t21.1.f0, .string t21.1.f1, .slice A12 t21.1.f2.length c12], 30⟩, ⟨nx18 + 1, [.int .i64 1, .int .i64 1, .int .i64 1, .int .i64 0, .int .u32 (W .u32 (t14.1 + 1)), .int .i64 1, .string (⟨#[97]⟩ : ByteArray), .slice none 0 0], 32⟩, ⟨nx18 + 2, [.int .i64 1, .int .i64 2, .int .i64 1, .int .i64 0, .int .u32 t14.1, .int .i64 1, .string (⟨#[97]⟩ : ByteArray), .slice none 0 0], 32⟩]) (by kernel_rfl) (.cons_cons _ (.cons_cons _ (.cons_cons _ (.cons_cons _ (.cons_cons _ (.cons_cons _ .slnil)))))) (.refl _) ?_
                exact hJ1 _ _ _ _ _ ⟨false, rfl, rfl, rfl, (Imm.le_trans (Imm.le_trans (Imm.le_trans (Imm.le_trans (Imm.le_trans (Imm.le_trans (Imm.le_trans hi32 hi33) hi34) hi35) hi36) hi37) hi38) hi39), HK1⟩
             ·have hc := (Bool.eq_false_iff.1 hb)
              rw [hb]
              rw [if_neg hc] at H; clear hb
              refine RL.simK (K' := [(0, .bool false)]) [] (RFacts.nil _ _ _) 37 (.no :: .no :: .no :: .no :: .no :: .no :: .no :: .no :: .no :: .no :: .no :: .no :: .no :: .no :: .no :: .no :: .no :: .no :: .no :: .no :: .no :: .no :: .no :: .no :: .no :: .no :: .no :: .no :: .no :: .no :: .no :: .no :: .no :: .no :: .no :: .no :: .no :: []) (by kernel_rfl) (by kernel_rfl) ?_
              refine RL.nil (by kernel_rfl) ?_
              obtain rfl := Option.some.inj H
              refine QN.sub (K' := [(0, .bool false)]) (L' := [⟨nx12, [.int .i64 1, .string (⟨#[97]⟩ : ByteArray), .slice none 0 0], 30⟩, ⟨nx13, [.int .i64 1, .int .i64 1, .int .i64 1, .int .i64 0, .int .u32 t14.1, .int .i64 1, .string (⟨#[97]⟩ : ByteArray), .slice none 0 0], 32⟩, ⟨nx16, [.int .i64 t19.1.f0, .string t19.1.f1, .slice A11 t19.1.f2.length c11], 30⟩, ⟨nx18, [.int .i64 t21.1.f0, .string t21.1.f1, .slice A12 t21.1.f2.length c12], 30⟩, ⟨nx18 + 1, [.int .i64 1, .int .i64 1, .int .i64 1, .int .i64 0, .int .u32 (W .u32 (t14.1 + 1)), .int .i64 1, .string (⟨#[97]⟩ : ByteArray), .slice none 0 0], 32⟩, ⟨nx18 + 2, [.int .i64 1, .int .i64 2, .int .i64 1, .int .i64 0, .int .u32 t14.1, .int .i64 1, .string (⟨#[97]⟩ : ByteArray), .slice none 0 0], 32⟩]) (by kernel_rfl) (.cons_cons _ (.cons_cons _ (.cons_cons _ (.cons_cons _ (.cons_cons _ (.cons_cons _ .slnil)))))) (.refl _) ?_
              exact hJ1 _ _ _ _ _ ⟨false, rfl, rfl, rfl, (Imm.le_trans (Imm.le_trans (Imm.le_trans (Imm.le_trans (Imm.le_trans (Imm.le_trans hi32 hi33) hi34) hi35) hi36) hi37) hi38), HK1⟩
            ·have hc := (Bool.eq_false_iff.1 hb)
             rw [hb]
             rw [if_neg hc] at H; clear hb
             refine RL.simK (K' := [(0, .bool false)]) [] (RFacts.nil _ _ _) 42 (.no :: .no :: .no :: .no :: .no :: .no :: .no :: .no :: .no :: .no :: .no :: .no :: .no :: .no :: .no :: .no :: .no :: .no :: .no :: .no :: .no :: .no :: .no :: .no :: .no :: .no :: .no :: .no :: .no :: .no :: .no :: .no :: .no :: .no :: .no :: .no :: .no :: .no :: .no :: .no :: .no :: .no :: []) (by kernel_rfl) (by kernel_rfl) ?_
             refine RL.nil (by kernel_rfl) ?_
             obtain rfl := Option.some.inj H
             refine QN.sub (K' := [(0, .bool false)]) (L' := [⟨nx12, [.int .i64 1, .string (⟨#[97]⟩ : ByteArray), .slice none 0 0], 30⟩, ⟨nx13, [.int .i64 1, .int .i64 1, .int .i64 1, .int .i64 0, .int .u32 t14.1, .int .i64 1, .string (⟨#[97]⟩ : ByteArray), .slice none 0 0], 32⟩, ⟨nx16, [.int .i64 t19.1.f0, .string t19.1.f1, .slice A11 t19.1.f2.length c11], 30⟩, ⟨nx18, [.int .i64 t21.1.f0, .string t21.1.f1, .slice A12 t21.1.f2.length c12], 30⟩, ⟨nx18 + 1, [.int .i64 1, .int .i64 1, .int .i64 1, .int .i64 0, .int .u32 (W .u32 (t14.1 + 1)), .int .i64 1, .string (⟨#[97]⟩ : ByteArray), .slice none 0 0], 32⟩, ⟨nx18 + 2, [.int .i64 1, .int .i64 2, .int .i64 1, .int .i64 0, .int .u32 t14.1, .int .i64 1, .string (⟨#[97]⟩ : ByteArray), .slice none 0 0], 32⟩]) (by kernel_rfl) (.cons_cons _ (.cons_cons _ (.cons_cons _ (.cons_cons _ (.cons_cons _ (.cons_cons _ .slnil)))))) (.refl _) ?_
             exact hJ1 _ _ _ _ _ ⟨false, rfl, rfl, rfl, (Imm.le_trans (Imm.le_trans (Imm.le_trans (Imm.le_trans (Imm.le_trans hi32 hi33) hi34) hi35) hi36) hi37), HK1⟩
         ·have hc := (beq_eq_false_iff_ne.1 hb)
          rw [hb]
          rw [if_neg hc] at H; clear hb
          refine RL.simK (K' := [(0, .bool false)]) [] (RFacts.nil _ _ _) 53 (.no :: .no :: .no :: .no :: .no :: .no :: .no :: .no :: .no :: .no :: .no :: .no :: .no :: .no :: .no :: .no :: .no :: .no :: .no :: .no :: .no :: .no :: .no :: .no :: .no :: .no :: .no :: .no :: .no :: .no :: .no :: .no :: .no :: .no :: .no :: .no :: .no :: .no :: .no :: .no :: .no :: .no :: .no :: .no :: .no :: .no :: .no :: .no :: .no :: .no :: .no :: .no :: .no :: []) (by kernel_rfl) (by kernel_rfl) ?_
          refine RL.nil (by kernel_rfl) ?_
          obtain rfl := Option.some.inj H
          refine QN.sub (K' := [(0, .bool false)]) (L' := [⟨nx12, [.int .i64 1, .string (⟨#[97]⟩ : ByteArray), .slice none 0 0], 30⟩, ⟨nx13, [.int .i64 1, .int .i64 1, .int .i64 1, .int .i64 0, .int .u32 t14.1, .int .i64 1, .string (⟨#[97]⟩ : ByteArray), .slice none 0 0], 32⟩, ⟨nx16, [.int .i64 t19.1.f0, .string t19.1.f1, .slice A11 t19.1.f2.length c11], 30⟩, ⟨nx18, [.int .i64 t21.1.f0, .string t21.1.f1, .slice A12 t21.1.f2.length c12], 30⟩, ⟨nx18 + 1, [.int .i64 1, .int .i64 1, .int .i64 1, .int .i64 0, .int .u32 (W .u32 (t14.1 + 1)), .int .i64 1, .string (⟨#[97]⟩ : ByteArray), .slice none 0 0], 32⟩, ⟨nx18 + 2, [.int .i64 1, .int .i64 2, .int .i64 1, .int .i64 0, .int .u32 t14.1, .int .i64 1, .string (⟨#[97]⟩ : ByteArray), .slice none 0 0], 32⟩]) (by kernel_rfl) (.cons_cons _ (.cons_cons _ (.cons_cons _ (.cons_cons _ (.cons_cons _ (.cons_cons _ .slnil)))))) (.refl _) ?_
          exact hJ1 _ _ _ _ _ ⟨false, rfl, rfl, rfl, (Imm.le_trans (Imm.le_trans (Imm.le_trans (Imm.le_trans (Imm.le_trans hi32 hi33) hi34) hi35) hi36) hi37), HK1⟩
        ·have hc := (Bool.eq_false_iff.1 hb)
         rw [hb]
         rw [if_neg hc] at H; clear hb
         refine RL.simK (K' := [(0, .bool false)]) [] (RFacts.nil _ _ _) 57 (.no :: .no :: .no :: .no :: .no :: .no :: .no :: .no :: .no :: .no :: .no :: .no :: .no :: .no :: .no :: .no :: .no :: .no :: .no :: .no :: .no :: .no :: .no :: .no :: .no :: .no :: .no :: .no :: .no :: .no :: .no :: .no :: .no :: .no :: .no :: .no :: .no :: .no :: .no :: .no :: .no :: .no :: .no :: .no :: .no :: .no :: .no :: .no :: .no :: .no :: .no :: .no :: .no :: .no :: .no :: .no :: .no :: []) (by kernel_rfl) (by kernel_rfl) ?_
         refine RL.nil (by kernel_rfl) ?_
         obtain rfl := Option.some.inj H
         refine QN.sub (K' := [(0, .bool false)]) (L' := [⟨nx12, [.int .i64 1, .string (⟨#[97]⟩ : ByteArray), .slice none 0 0], 30⟩, ⟨nx13, [.int .i64 1, .int .i64 1, .int .i64 1, .int .i64 0, .int .u32 t14.1, .int .i64 1, .string (⟨#[97]⟩ : ByteArray), .slice none 0 0], 32⟩, ⟨nx16, [.int .i64 t19.1.f0, .string t19.1.f1, .slice A11 t19.1.f2.length c11], 30⟩, ⟨nx18, [.int .i64 t21.1.f0, .string t21.1.f1, .slice A12 t21.1.f2.length c12], 30⟩, ⟨nx18 + 1, [.int .i64 1, .int .i64 1, .int .i64 1, .int .i64 0, .int .u32 (W .u32 (t14.1 + 1)), .int .i64 1, .string (⟨#[97]⟩ : ByteArray), .slice none 0 0], 32⟩, ⟨nx18 + 2, [.int .i64 1, .int .i64 2, .int .i64 1, .int .i64 0, .int .u32 t14.1, .int .i64 1, .string (⟨#[97]⟩ : ByteArray), .slice none 0 0], 32⟩]) (by kernel_rfl) (.cons_cons _ (.cons_cons _ (.cons_cons _ (.cons_cons _ (.cons_cons _ (.cons_cons _ .slnil)))))) (.refl _) ?_
         exact hJ1 _ _ _ _ _ ⟨false, rfl, rfl, rfl, (Imm.le_trans (Imm.le_trans (Imm.le_trans (Imm.le_trans (Imm.le_trans hi32 hi33) hi34) hi35) hi36) hi37), HK1⟩
       ·have hc := (beq_eq_false_iff_ne.1 hb)
        rw [hb]
        rw [if_neg hc] at H; clear hb
        refine RL.simK (K' := [(0, .bool false)]) [] (RFacts.nil _ _ _) 60 (.no :: .no :: .no :: .no :: .no :: .no :: .no :: .no :: .no :: .no :: .no :: .no :: .no :: .no :: .no :: .no :: .no :: .no :: .no :: .no :: .no :: .no :: .no :: .no :: .no :: .no :: .no :: .no :: .no :: .no :: .no :: .no :: .no :: .no :: .no :: .no :: .no :: .no :: .no :: .no :: .no :: .no :: .no :: .no :: .no :: .no :: .no :: .no :: .no :: .no :: .no :: .no :: .no :: .no :: .no :: .no :: .no :: .no :: .no :: .no :: []) (by kernel_rfl) (by kernel_rfl) ?_
        refine RL.nil (by kernel_rfl) ?_
        obtain rfl := Option.some.inj H
        refine QN.sub (K' := [(0, .bool false)]) (L' := [⟨nx12, [.int .i64 1, .string (⟨#[97]⟩ : ByteArray), .slice none 0 0], 30⟩, ⟨nx13, [.int .i64 1, .int .i64 1, .int .i64 1, .int .i64 0, .int .u32 t14.1, .int .i64 1, .string (⟨#[97]⟩ : ByteArray), .slice none 0 0], 32⟩, ⟨nx16, [.int .i64 t19.1.f0, .string t19.1.f1, .slice A11 t19.1.f2.length c11], 30⟩, ⟨nx18, [.int .i64 t21.1.f0, .string t21.1.f1, .slice A12 t21.1.f2.length c12], 30⟩, ⟨nx18 + 1, [.int .i64 1, .int .i64 1, .int .i64 1, .int .i64 0, .int .u32 (W .u32 (t14.1 + 1)), .int .i64 1, .string (⟨#[97]⟩ : ByteArray), .slice none 0 0], 32⟩, ⟨nx18 + 2, [.int .i64 1, .int .i64 2, .int .i64 1, .int .i64 0, .int .u32 t14.1, .int .i64 1, .string (⟨#[97]⟩ : ByteArray), .slice none 0 0], 32⟩]) (by kernel_rfl) (.cons_cons _ (.cons_cons _ (.cons_cons _ (.cons_cons _ (.cons_cons _ (.cons_cons _ .slnil)))))) (.refl _) ?_
        exact hJ1 _ _ _ _ _ ⟨false, rfl, rfl, rfl, (Imm.le_trans (Imm.le_trans (Imm.le_trans (Imm.le_trans (Imm.le_trans hi32 hi33) hi34) hi35) hi36) hi37), HK1⟩
      ·have hc := (beq_eq_false_iff_ne.1 hb)
       rw [hb]
       rw [if_neg hc] at H; clear hb
       refine RL.simK (K' := [(0, .bool false)]) [] (RFacts.nil _ _ _) 64 (.no :: .no :: .no :: .no :: .no :: .no :: .no :: .no :: .no :: .no :: .no :: .no :: .no :: .no :: .no :: .no :: .no :: .no :: .no :: .no :: .no :: .no :: .no :: .no :: .no :: .no :: .no :: .no :: .no :: .no :: .no :: .no :: .no :: .no :: .no :: .no :: .no :: .no :: .no :: .no :: .no :: .no :: .no :: .no :: .no :: .no :: .no :: .no :: .no :: .no :: .no :: .no :: .no :: .no :: .no :: .no :: .no :: .no :: .no :: .no :: .no :: .no :: .no :: .no :: []) (by kernel_rfl) (by kernel_rfl) ?_
       refine RL.nil (by kernel_rfl) ?_
       obtain rfl := Option.some.inj H
       refine QN.sub (K' := [(0, .bool false)]) (L' := [⟨nx12, [.int .i64 1, .string (⟨#[97]⟩ : ByteArray), .slice none 0 0], 30⟩, ⟨nx13, [.int .i64 1, .int .i64 1, .int .i64 1, .int .i64 0, .int .u32 t14.1, .int .i64 1, .string (⟨#[97]⟩ : ByteArray), .slice none 0 0], 32⟩, ⟨nx16, [.int .i64 t19.1.f0, .string t19.1.f1, .slice A11 t19.1.f2.length c11], 30⟩, ⟨nx18, [.int .i64 t21.1.f0, .string t21.1.f1, .slice A12 t21.1.f2.length c12], 30⟩, ⟨nx18 + 1, [.int .i64 1, .int .i64 1, .int .i64 1, .int .i64 0, .int .u32 (W .u32 (t14.1 + 1)), .int .i64 1, .string (⟨#[97]⟩ : ByteArray), .slice none 0 0], 32⟩, ⟨nx18 + 2, [.int .i64 1, .int .i64 2, .int .i64 1, .int .i64 0, .int .u32 t14.1, .int .i64 1, .string (⟨#[97]⟩ : ByteArray), .slice none 0 0], 32⟩]) (by kernel_rfl) (.cons_cons _ (.cons_cons _ (.cons_cons _ (.cons_cons _ (.cons_cons _ (.cons_cons _ .slnil)))))) (.refl _) ?_
       exact hJ1 _ _ _ _ _ ⟨false, rfl, rfl, rfl, (Imm.le_trans (Imm.le_trans (Imm.le_trans (Imm.le_trans hi32 hi33) hi34) hi35) hi36), HK1⟩
     ·have hc := (beq_eq_false_iff_ne.1 hb)
      rw [hb]
      rw [if_neg hc] at H; clear hb
      refine RL.simK (K' := [(0, .bool false)]) [] (RFacts.nil _ _ _) 68 (.no :: .no :: .no :: .no :: .no :: .no :: .no :: .no :: .no :: .no :: .no :: .no :: .no :: .no :: .no :: .no :: .no :: .no :: .no :: .no :: .no :: .no :: .no :: .no :: .no :: .no :: .no :: .no :: .no :: .no :: .no :: .no :: .no :: .no :: .no :: .no :: .no :: .no :: .no :: .no :: .no :: .no :: .no :: .no :: .no :: .no :: .no :: .no :: .no :: .no :: .no :: .no :: .no :: .no :: .no :: .no :: .no :: .no :: .no :: .no :: .no :: .no :: .no :: .no :: .no :: .no :: .no :: .no :: []) (by kernel_rfl) (by kernel_rfl) ?_
      refine RL.nil (by kernel_rfl) ?_
      obtain rfl := Option.some.inj H
      refine QN.sub (K' := [(0, .bool false)]) (L' := [⟨nx12, [.int .i64 1, .string (⟨#[97]⟩ : ByteArray), .slice none 0 0], 30⟩, ⟨nx13, [.int .i64 1, .int .i64 1, .int .i64 1, .int .i64 0, .int .u32 t14.1, .int .i64 1, .string (⟨#[97]⟩ : ByteArray), .slice none 0 0], 32⟩, ⟨nx16, [.int .i64 t19.1.f0, .string t19.1.f1, .slice A11 t19.1.f2.length c11], 30⟩, ⟨nx18, [.int .i64 t21.1.f0, .string t21.1.f1, .slice A12 t21.1.f2.length c12], 30⟩, ⟨nx18 + 1, [.int .i64 1, .int .i64 1, .int .i64 1, .int .i64 0, .int .u32 (W .u32 (t14.1 + 1)), .int .i64 1, .string (⟨#[97]⟩ : ByteArray), .slice none 0 0], 32⟩, ⟨nx18 + 2, [.int .i64 1, .int .i64 2, .int .i64 1, .int .i64 0, .int .u32 t14.1, .int .i64 1, .string (⟨#[97]⟩ : ByteArray), .slice none 0 0], 32⟩]) (by kernel_rfl) (.cons_cons _ (.cons_cons _ (.cons_cons _ (.cons_cons _ (.cons_cons _ (.cons_cons _ .slnil)))))) (.refl _) ?_
      exact hJ1 _ _ _ _ _ ⟨false, rfl, rfl, rfl, (Imm.le_trans (Imm.le_trans (Imm.le_trans hi32 hi33) hi34) hi35), HK1⟩
    ·have hc := (beq_eq_false_iff_ne.1 hb)
     rw [hb]
     rw [if_neg hc] at H; clear hb
     refine RL.simK (K' := [(0, .bool false)]) [] (RFacts.nil _ _ _) 72 (.no :: .no :: .no :: .no :: .no :: .no :: .no :: .no :: .no :: .no :: .no :: .no :: .no :: .no :: .no :: .no :: .no :: .no :: .no :: .no :: .no :: .no :: .no :: .no :: .no :: .no :: .no :: .no :: .no :: .no :: .no :: .no :: .no :: .no :: .no :: .no :: .no :: .no :: .no :: .no :: .no :: .no :: .no :: .no :: .no :: .no :: .no :: .no :: .no :: .no :: .no :: .no :: .no :: .no :: .no :: .no :: .no :: .no :: .no :: .no :: .no :: .no :: .no :: .no :: .no :: .no :: .no :: .no :: .no :: .no :: .no :: .no :: []) (by kernel_rfl) (by kernel_rfl) ?_
     refine RL.nil (by kernel_rfl) ?_
     obtain rfl := Option.some.inj H
     refine QN.sub (K' := [(0, .bool false)]) (L' := [⟨nx12, [.int .i64 1, .string (⟨#[97]⟩ : ByteArray), .slice none 0 0], 30⟩, ⟨nx13, [.int .i64 1, .int .i64 1, .int .i64 1, .int .i64 0, .int .u32 t14.1, .int .i64 1, .string (⟨#[97]⟩ : ByteArray), .slice none 0 0], 32⟩, ⟨nx16, [.int .i64 t19.1.f0, .string t19.1.f1, .slice A11 t19.1.f2.length c11], 30⟩, ⟨nx18, [.int .i64 t21.1.f0, .string t21.1.f1, .slice A12 t21.1.f2.length c12], 30⟩, ⟨nx18 + 1, [.int .i64 1, .int .i64 1, .int .i64 1, .int .i64 0, .int .u32 (W .u32 (t14.1 + 1)), .int .i64 1, .string (⟨#[97]⟩ : ByteArray), .slice none 0 0], 32⟩, ⟨nx18 + 2, [.int .i64 1, .int .i64 2, .int .i64 1, .int .i64 0, .int .u32 t14.1, .int .i64 1, .string (⟨#[97]⟩ : ByteArray), .slice none 0 0], 32⟩]) (by kernel_rfl) (.cons_cons _ (.cons_cons _ (.cons_cons _ (.cons_cons _ (.cons_cons _ (.cons_cons _ .slnil)))))) (.refl _) ?_
     exact hJ1 _ _ _ _ _ ⟨false, rfl, rfl, rfl, (Imm.le_trans (Imm.le_trans hi32 hi33) hi34), HK1⟩
   ·have hc := (beq_eq_false_iff_ne.1 hb)
    rw [hb]
    rw [if_neg hc] at H; clear hb
    refine RL.simK (K' := [(0, .bool false)]) [] (RFacts.nil _ _ _) 76 (.no :: .no :: .no :: .no :: .no :: .no :: .no :: .no :: .no :: .no :: .no :: .no :: .no :: .no :: .no :: .no :: .no :: .no :: .no :: .no :: .no :: .no :: .no :: .no :: .no :: .no :: .no :: .no :: .no :: .no :: .no :: .no :: .no :: .no :: .no :: .no :: .no :: .no :: .no :: .no :: .no :: .no :: .no :: .no :: .no :: .no :: .no :: .no :: .no :: .no :: .no :: .no :: .no :: .no :: .no :: .no :: .no :: .no :: .no :: .no :: .no :: .no :: .no :: .no :: .no :: .no :: .no :: .no :: .no :: .no :: .no :: .no :: .no :: .no :: .no :: .no :: []) (by kernel_rfl) (by kernel_rfl) ?_
    refine RL.nil (by kernel_rfl) ?_
    obtain rfl := Option.some.inj H
    refine QN.sub (K' := [(0, .bool false)]) (L' := [⟨nx12, [.int .i64 1, .string (⟨#[97]⟩ : ByteArray), .slice none 0 0], 30⟩, ⟨nx13, [.int .i64 1, .int .i64 1, .int .i64 1, .int .i64 0, .int .u32 t14.1, .int .i64 1, .string (⟨#[97]⟩ : ByteArray), .slice none 0 0], 32⟩, ⟨nx16, [.int .i64 t19.1.f0, .string t19.1.f1, .slice A11 t19.1.f2.length c11], 30⟩, ⟨nx18, [.int .i64 t21.1.f0, .string t21.1.f1, .slice A12 t21.1.f2.length c12], 30⟩, ⟨nx18 + 1, [.int .i64 1, .int .i64 1, .int .i64 1, .int .i64 0, .int .u32 (W .u32 (t14.1 + 1)), .int .i64 1, .string (⟨#[97]⟩ : ByteArray), .slice none 0 0], 32⟩, ⟨nx18 + 2, [.int .i64 1, .int .i64 2, .int .i64 1, .int .i64 0, .int .u32 t14.1, .int .i64 1, .string (⟨#[97]⟩ : ByteArray), .slice none 0 0], 32⟩]) (by kernel_rfl) (.cons_cons _ (.cons_cons _ (.cons_cons _ (.cons_cons _ (.cons_cons _ (.cons_cons _ .slnil)))))) (.refl _) ?_
    exact hJ1 _ _ _ _ _ ⟨false, rfl, rfl, rfl, (Imm.le_trans hi32 hi33), HK1⟩
  ·have hc := (beq_eq_false_iff_ne.1 hb)
   rw [hb]
   rw [if_neg hc] at H; clear hb
   refine RL.simK (K' := [(0, .bool false)]) [] (RFacts.nil _ _ _) 80 (.no :: .no :: .no :: .no :: .no :: .no :: .no :: .no :: .no :: .no :: .no :: .no :: .no :: .no :: .no :: .no :: .no :: .no :: .no :: .no :: .no :: .no :: .no :: .no :: .no :: .no :: .no :: .no :: .no :: .no :: .no :: .no :: .no :: .no :: .no :: .no :: .no :: .no :: .no :: .no :: .no :: .no :: .no :: .no :: .no :: .no :: .no :: .no :: .no :: .no :: .no :: .no :: .no :: .no :: .no :: .no :: .no :: .no :: .no :: .no :: .no :: .no :: .no :: .no :: .no :: .no :: .no :: .no :: .no :: .no :: .no :: .no :: .no :: .no :: .no :: .no :: .no :: .no :: .no :: .no :: []) (by kernel_rfl) (by kernel_rfl) ?_
   refine RL.nil (by kernel_rfl) ?_
   obtain rfl := Option.some.inj H
   refine QN.sub (K' := [(0, .bool false)]) (L' := [⟨nx12, [.int .i64 1, .string (⟨#[97]⟩ : ByteArray), .slice none 0 0], 30⟩, ⟨nx13, [.int .i64 1, .int .i64 1, .int .i64 1, .int .i64 0, .int .u32 t14.1, .int .i64 1, .string (⟨#[97]⟩ : ByteArray), .slice none 0 0], 32⟩, ⟨nx16, [.int .i64 t19.1.f0, .string t19.1.f1, .slice A11 t19.1.f2.length c11], 30⟩, ⟨nx18, [.int .i64 t21.1.f0, .string t21.1.f1, .slice A12 t21.1.f2.length c12], 30⟩, ⟨nx18 + 1, [.int .i64 1, .int .i64 1, .int .i64 1, .int .i64 0, .int .u32 (W .u32 (t14.1 + 1)), .int .i64 1, .string (⟨#[97]⟩ : ByteArray), .slice none 0 0], 32⟩, ⟨nx18 + 2, [.int .i64 1, .int .i64 2, .int .i64 1, .int .i64 0, .int .u32 t14.1, .int .i64 1, .string (⟨#[97]⟩ : ByteArray), .slice none 0 0], 32⟩]) (by kernel_rfl) (.cons_cons _ (.cons_cons _ (.cons_cons _ (.cons_cons _ (.cons_cons _ (.cons_cons _ .slnil)))))) (.refl _) ?_
   exact hJ1 _ _ _ _ _ ⟨false, rfl, rfl, rfl, hi32, HK1⟩

end Go.Proofs.Ytieakigoinebdaa
namespace Go.Proofs.Ytieakigoinebdaa
open Go Go.Proofs.Ytieakigoinebdaa.RW
set_option linter.unusedVariables false
set_option maxRecDepth 100000
set_option maxHeartbeats 8000000

/-! ### armillaryref29_zero: function 34, armillary/armillaryref29.zero -/
noncomputable def K34_0 : Code := cBody Try.f34
noncomputable def K34_1 : Code := cL K34_0
noncomputable def O34_1 : List Oper := cOps K34_1
noncomputable def K34_3 : Code := cR K34_0
noncomputable def K34_4 : Code := cL K34_3
noncomputable def O34_4 : List Oper := cOps K34_4
noncomputable def K34_6 : Code := cR K34_3
def armillaryref29_zero.k1  (x1 : Bool) : Option (Bool) := (some x1)
def armillaryref29_zero.f (a0 : S30) : Option (Bool) := ((if a0.f0 = 0 then (if (a0.f1.size : Int) = 0 then (some ((a0.f2.length : Int) == 0)) else (some false)) else (some false)).bind (armillaryref29_zero.k1))
def armillaryref29_zero.Post (I : Imm) (w : World) (r : Bool) (v : Value) (w' : World) : Prop :=
 ∃ (J : Imm), v = .bool r ∧ Got w w' I J []
theorem armillaryref29_zero.calls (I0 : Imm) (a0 : S30) (Ap0_2 : Option Addr) (cp0_2 : Nat) (w : World) (hI : I0.at_ w) (hlp0_2 : a0.f2.length ≤ cp0_2) (hrp0_2 : Rd (Ty.int .u8) I0 Ap0_2 a0.f2) (r : Bool) (h : armillaryref29_zero.f a0 = some r) :
  Calls Try.prog 34 [.agg #[.int .i64 a0.f0, .string a0.f1, .slice Ap0_2 a0.f2.length cp0_2]].toArray w fun e w' => ∃ v, e = .returned v ∧ armillaryref29_zero.Post I0 w r v w' := by
 have H : ((if a0.f0 = 0 then (if (a0.f1.size : Int) = 0 then (some ((a0.f2.length : Int) == 0)) else (some false)) else (some false)).bind (armillaryref29_zero.k1)) = some r := h
 clear h
 refine calls_body Try.func34 (by kernel_rfl) 18 (by kernel_rfl) (by kernel_rfl) ⟨w, fun _ => False, I0⟩ I0 [] [(0, .agg #[.int .i64 a0.f0, .string a0.f1, .slice Ap0_2 a0.f2.length cp0_2])] (by kernel_rfl) (Sat.start w _ I0 hI) ?_
 generalize w.heap.size = nx0
 show OK _ K34_0 _ _ _ _ _ _ _ _
 refine OK.seq K34_1 K34_3 (by kernel_rfl) ?_
 refine OK.region 0 O34_1 (by kernel_rfl) ?_
 refine RL.simP (K' := [(1, .pointer (some ⟨nx0, 0, none⟩))]) (nx' := nx0 + 1) (L' := [⟨nx0, [.int .i64 a0.f0, .string a0.f1, .slice Ap0_2 a0.f2.length cp0_2], 30⟩]) [] (RFacts.nil _ _ _) 2 [.no, .no] (by kernel_rfl) (by kernel_rfl) ?_
 refine RL.nil (by kernel_rfl) ?_
 refine QN.then_ ?_
 refine OK.seq K34_4 K34_6 (by kernel_rfl) ?_
 refine OK.join (fun K' I' _ L' X' => ∃ (x1 : Bool), K' = [(2, .bool x1)] ∧ L' = [⟨nx0, [.int .i64 a0.f0, .string a0.f1, .slice Ap0_2 a0.f2.length cp0_2], 30⟩] ∧ X' = [] ∧ Imm.le I0 I' ∧ armillaryref29_zero.k1 x1 = some r) ?_ ?_
 ·rintro _ I1 nx1 _ _ ⟨x1, rfl, rfl, rfl, hi1, H⟩
  replace H : (some x1) = some r := H
  refine QN.then_ ?_
  refine OK.ret (by kernel_rfl) ?_
  obtain rfl := Option.some.inj H
  refine QN.body rfl [] (RFacts.nil _ _ _) (.no) (.bool x1) (by kernel_rfl) (by kernel_rfl) (by kernel_rfl) ?_ _ (.inr rfl)
  exact fun w' hs' => ⟨_, rfl, I1, rfl, hs'.got _ .slnil⟩
 ·intro Q_1 hJ1 hQ1
  obtain ⟨y1, H, HK1⟩ := Option.bind_eq_some_iff.mp H
  refine OK.region 1 O34_4 (by kernel_rfl) ?_
  refine RL.simK (K' := [(6, .bool (a0.f0 == 0)), (1, .pointer (some ⟨nx0, 0, none⟩))]) [] (RFacts.nil _ _ _) 4 [.no, .l 0, .no, .no] (by kernel_rfl) (by kernel_rfl) ?_
  refine RL.cases (a0.f0 == 0) (fun hb => ?_) (fun hb => ?_)
  ·have hc := (beq_iff_eq.1 hb)
   rw [hb]
   rw [if_pos hc] at H; clear hb
   refine RL.simK (K' := [(12, .bool ((a0.f1.size : Int) == 0)), (1, .pointer (some ⟨nx0, 0, none⟩))]) [] (RFacts.nil _ _ _) 6 [.no, .l 0, .no, .no, .no, .no] (by kernel_rfl) (by kernel_rfl) ?_
   refine RL.cases ((a0.f1.size : Int) == 0) (fun hb => ?_) (fun hb => ?_)
   ·have hc := (beq_iff_eq.1 hb)
    rw [hb]
    rw [if_pos hc] at H; clear hb
    refine RL.simK (K' := [(2, .bool ((a0.f2.length : Int) == 0))]) [] (RFacts.nil _ _ _) 6 [.no, .l 0, .no, .no, .no, .no] (by kernel_rfl) (by kernel_rfl) ?_
    refine RL.nil (by kernel_rfl) ?_
    obtain rfl := Option.some.inj H
    refine QN.sub (K' := [(2, .bool ((a0.f2.length : Int) == 0))]) (L' := [⟨nx0, [.int .i64 a0.f0, .string a0.f1, .slice Ap0_2 a0.f2.length cp0_2], 30⟩]) (by kernel_rfl) (.cons_cons _ .slnil) (.refl _) ?_
    exact hJ1 _ _ _ _ _ ⟨((a0.f2.length : Int) == 0), rfl, rfl, rfl, (Imm.le_refl _), HK1⟩
   ·have hc := (beq_eq_false_iff_ne.1 hb)
    rw [hb]
    rw [if_neg hc] at H; clear hb
    refine RL.simK (K' := [(2, .bool false)]) [] (RFacts.nil _ _ _) 6 [.no, .no, .no, .no, .no, .no] (by kernel_rfl) (by kernel_rfl) ?_
    refine RL.nil (by kernel_rfl) ?_
    obtain rfl := Option.some.inj H
    refine QN.sub (K' := [(2, .bool false)]) (L' := [⟨nx0, [.int .i64 a0.f0, .string a0.f1, .slice Ap0_2 a0.f2.length cp0_2], 30⟩]) (by kernel_rfl) (.cons_cons _ .slnil) (.refl _) ?_
    exact hJ1 _ _ _ _ _ ⟨false, rfl, rfl, rfl, (Imm.le_refl _), HK1⟩
  ·have hc := (beq_eq_false_iff_ne.1 hb)
   rw [hb]
   rw [if_neg hc] at H; clear hb
   refine RL.simK (K' := [(2, .bool false)]) [] (RFacts.nil _ _ _) 12 [.no, .no, .no, .no, .no, .no, .no, .no, .no, .no, .no, .no] (by kernel_rfl) (by kernel_rfl) ?_
   refine RL.nil (by kernel_rfl) ?_
   obtain rfl := Option.some.inj H
   refine QN.sub (K' := [(2, .bool false)]) (L' := [⟨nx0, [.int .i64 a0.f0, .string a0.f1, .slice Ap0_2 a0.f2.length cp0_2], 30⟩]) (by kernel_rfl) (.cons_cons _ .slnil) (.refl _) ?_
   exact hJ1 _ _ _ _ _ ⟨false, rfl, rfl, rfl, (Imm.le_refl _), HK1⟩

end Go.Proofs.Ytieakigoinebdaa
