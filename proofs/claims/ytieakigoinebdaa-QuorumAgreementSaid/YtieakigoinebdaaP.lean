/- The tally of votes, in plain words: a sum is decided just where a quorum of votes is for it. -/
import Derived.Test.YtieakigoinebdaaT
import Derived.Test.YtieakigoinebdaaG14
import Derived.Test.YtieakigoinebdaaG16
import Derived.Test.YtieakigoinebdaaG20
import Derived.Test.YtieakigoinebdaaG11
import Derived.Test.YtieakigoinebdaaG18
import Derived.Test.YtieakigoinebdaaG26
namespace Go.Proofs.Ytieakigoinebdaa
open Go Go.RowKit Go.Proofs.Ytieakigoinebdaa.RW
set_option linter.unusedVariables false
set_option maxRecDepth 1000000

/-! ### numbers of messages -/
def slotOf (x : S32) : Int × Int × Int := (x.f0, x.f2, x.f3)
def cntB (b : VK) (c : List S32) : Nat := (c.filter fun x => decide (bkey x = b)).length
theorem cntB_snoc (b : VK) (c : List S32) (x : S32) : cntB b (c ++ [x]) = cntB b c + if bkey x = b then 1 else 0 := by
  unfold cntB
  rw [List.filter_append, List.length_append]
  by_cases h : bkey x = b <;> simp [h]
/-- No two votes of one kind, slot and sender; senders are 0 to n - 1. -/
structure Good (n : Int) (c : List S32) : Prop where
  nd : c.Pairwise (fun x y => vkey x ≠ vkey y)
  rg : ∀ x ∈ c, 0 ≤ x.f1 ∧ x.f1 < n
theorem Good.prefix {n : Int} {c d : List S32} (h : Good n (c ++ d)) : Good n c :=
  ⟨(List.pairwise_append.1 h.nd).1, fun x hx => h.rg x (List.mem_append_left _ hx)⟩
theorem nodup_bound : ∀ (n : Nat) (l : List Int), l.Nodup → (∀ x ∈ l, 0 ≤ x ∧ x < (n : Int)) → l.length ≤ n
  | 0, l, _, h => by
    cases l with
    | nil => exact Nat.le_refl _
    | cons x l => have := h x List.mem_cons_self; omega
  | n + 1, l, hn, h => by
    have h1 := nodup_bound n (l.filter fun x => decide (x ≠ (n : Int))) (hn.filter _) (fun x hx => by
      obtain ⟨h2, h3⟩ := List.mem_filter.1 hx
      have := h x h2
      simp at h3
      omega)
    have h2 : l.length ≤ (l.filter fun x => decide (x ≠ (n : Int))).length + 1 := by
      clear h1 h
      induction l with
      | nil => simp
      | cons y l ih =>
        obtain ⟨hy, hl⟩ := List.nodup_cons.1 hn
        by_cases e : y = (n : Int)
        · have : l.filter (fun x => decide (x ≠ (n : Int))) = l := by
            rw [List.filter_eq_self]
            intro a ha
            simp only [decide_eq_true_eq]
            rintro rfl
            exact hy (by rw [e]; exact ha)
          rw [List.filter_cons_of_neg (by simp [e]), this, List.length_cons]
          exact Nat.le_refl _
        · rw [List.filter_cons_of_pos (by simp [e])]
          have := ih hl
          simp only [List.length_cons]
          omega
    omega
theorem slot_bound {n : Nat} {c : List S32} (h : Good (n : Int) c) (q : Int × Int × Int) : (c.filter fun x => decide (slotOf x = q)).length ≤ n := by
  have hnd : ((c.filter fun x => decide (slotOf x = q)).map (·.f1)).Nodup := by
    rw [List.Nodup, List.pairwise_map]
    refine (h.nd.filter _).imp_of_mem ?_
    intro x y hx hy hxy e
    have h1 : slotOf x = q := by simpa using (List.mem_filter.1 hx).2
    have h2 : slotOf y = q := by simpa using (List.mem_filter.1 hy).2
    apply hxy
    have h3 := h1.trans h2.symm
    unfold slotOf at h3
    injection h3 with h4 h5
    injection h5 with h5 h6
    unfold vkey
    rw [h4, e, h5, h6]
  have := nodup_bound n _ hnd (fun x hx => by
    obtain ⟨y, hy, rfl⟩ := List.mem_map.1 hx
    exact h.rg y (List.mem_filter.1 hy).1)
  rwa [List.length_map] at this
theorem two_sums {n : Nat} {c : List S32} (h : Good (n : Int) c) (a v q s s' : Int) (hs : s ≠ s') : cntB (a, v, q, s) c + cntB (a, v, q, s') c ≤ n := by
  refine Nat.le_trans ?_ (slot_bound h (a, v, q))
  unfold cntB
  clear h
  induction c with
  | nil => simp
  | cons x c ih =>
    by_cases h1 : bkey x = (a, v, q, s)
    · have h2 : bkey x ≠ (a, v, q, s') := fun e => hs (by rw [h1] at e; injection e with _ e; injection e with _ e; injection e with _ e)
      have h3 : slotOf x = (a, v, q) := by unfold bkey at h1; unfold slotOf; injection h1 with e1 e2; injection e2 with e2 e3; injection e3 with e3 e4; rw [e1, e2, e3]
      simp only [List.filter_cons, h1, h2, h3, decide_true, decide_false, if_true, Bool.false_eq_true, if_false, List.length_cons]
      have hne : ¬ ((a, v, q, s) = (a, v, q, s')) := fun e => h2 (h1.trans e)
      simp only [hne, decide_false, Bool.false_eq_true, if_false]
      omega
    · by_cases h2 : bkey x = (a, v, q, s')
      · have h3 : slotOf x = (a, v, q) := by unfold bkey at h2; unfold slotOf; injection h2 with e1 e2; injection e2 with e2 e3; injection e3 with e3 e4; rw [e1, e2, e3]
        have hne : ¬ ((a, v, q, s') = (a, v, q, s)) := fun e => h1 (h2.trans e)
        simp only [List.filter_cons, h2, h3, hne, decide_true, decide_false, if_true, Bool.false_eq_true, if_false, List.length_cons]
        omega
      · simp only [List.filter_cons, h1, h2, decide_false, Bool.false_eq_true, if_false]
        split
        · simp only [List.length_cons]; omega
        · exact ih
theorem cntB_le {n : Nat} {c : List S32} (h : Good (n : Int) c) (b : VK) : cntB b c ≤ n := by
  obtain ⟨a, v, q, s⟩ := b
  have := two_sums h a v q s (s + 1) (by omega)
  omega

/-! ### the tally, as numbers -/
theorem snoc_ind {α : Type} {p : List α → Prop} (nil : p []) (snoc : ∀ l x, p l → p (l ++ [x])) (l : List α) : p l := by
  have h : ∀ l : List α, p l.reverse := by
    intro l
    induction l with
    | nil => exact nil
    | cons x l ih => rw [List.reverse_cons]; exact snoc _ x ih
  have := h l.reverse
  rwa [List.reverse_reverse] at this
theorem tst_votes {n : Nat} (hn : n ≤ 13) (sz : Int) : ∀ (c : List S32), Good (n : Int) c → ∀ b, (mget (tst sz c).1 b).getD 0 = (cntB b c : Int) := by
  intro c
  induction c using snoc_ind with
  | nil => intro _ b; rfl
  | snoc c x ih =>
    intro h b
    have hc := h.prefix
    rw [tst_snoc, cntB_snoc]
    unfold bump
    simp only
    rw [ih hc (bkey x)]
    have hle := cntB_le hc (bkey x)
    rw [W64 (by omega) (by omega)]
    by_cases e : bkey x = b
    · subst e
      rw [mput_get, if_pos rfl]
      simp
    · rw [mput_other _ _ _ _ (fun e2 => e e2.symm), ih hc b, if_neg e]
      simp
theorem dkey_eq {x : S32} {a v q : Int} : dkey x = (a, 0, v, q) ↔ slotOf x = (a, v, q) := by
  unfold dkey slotOf
  constructor
  · intro h; injection h with e1 e2; injection e2 with _ e2; injection e2 with e2 e3; rw [e1, e2, e3]
  · intro h; injection h with e1 e2; injection e2 with e2 e3; rw [e1, e2, e3]
theorem bkey_eq {x : S32} {a v q s : Int} : bkey x = (a, v, q, s) ↔ slotOf x = (a, v, q) ∧ x.f4 = s := by
  unfold bkey slotOf
  constructor
  · intro h; injection h with e1 e2; injection e2 with e2 e3; injection e3 with e3 e4; exact ⟨by rw [e1, e2, e3], e4⟩
  · rintro ⟨h, e4⟩; injection h with e1 e2; injection e2 with e2 e3; rw [e1, e2, e3, e4]
/-- A sum is decided just where as many as sz votes are for it. -/
theorem tst_dec {n sz : Nat} (hn : n ≤ 13) (h1 : 1 ≤ sz) (h2 : n < 2 * sz) : ∀ (c : List S32), Good (n : Int) c → ∀ (a v q s : Int), mget (tst (sz : Int) c).2 (a, 0, v, q) = some s ↔ sz ≤ cntB (a, v, q, s) c := by
  intro c
  induction c using snoc_ind with
  | nil =>
    intro _ a v q s
    simp only [tst, List.foldl_nil, mget, cntB, List.filter_nil, List.length_nil]
    constructor
    · intro h; cases h
    · intro h; omega
  | snoc c x ih =>
    intro h a v q s
    have hc := h.prefix
    rw [tst_snoc, cntB_snoc]
    unfold bump
    simp only
    rw [tst_votes hn (sz : Int) c hc (bkey x)]
    have hle := cntB_le hc (bkey x)
    rw [W64 (by omega) (by omega)]
    by_cases hx : dkey x = (a, 0, v, q)
    · have hsl := dkey_eq.1 hx
      have hbx : bkey x = (a, v, q, x.f4) := bkey_eq.2 ⟨hsl, rfl⟩
      by_cases hsz : ((cntB (bkey x) c : Int) + 1) = (sz : Int)
      · rw [if_pos hsz, hx, mput_get]
        by_cases hs : x.f4 = s
        · subst hs
          rw [if_pos hbx]
          rw [hbx] at hsz
          constructor
          · intro _; omega
          · intro _; rfl
        · rw [if_neg (fun e => hs (bkey_eq.1 e).2)]
          have h3 := two_sums h a v q x.f4 s hs
          rw [cntB_snoc, cntB_snoc, if_pos hbx, if_neg (fun e => hs (bkey_eq.1 e).2)] at h3
          rw [hbx] at hsz
          constructor
          · intro e; exact absurd (Option.some.inj e) hs
          · intro e; omega
      · rw [if_neg hsz, ih hc a v q s]
        by_cases hs : x.f4 = s
        · subst hs
          rw [if_pos hbx]
          rw [hbx] at hsz
          omega
        · rw [if_neg (fun e => hs (bkey_eq.1 e).2)]
          omega
    · have hb : bkey x ≠ (a, v, q, s) := fun e => hx (dkey_eq.2 (bkey_eq.1 e).1)
      rw [if_neg hb]
      split
      · rw [mput_other _ _ _ _ (fun e => hx e.symm), ih hc a v q s]; omega
      · rw [ih hc a v q s]; omega

/-! ### which messages count -/
def cntP (vb : S32 → Bool) : List S32 → List (VK × Bool) → List S32
  | [], _ => []
  | m :: r, seen => if (mget seen (vkey m)).getD false = true then cntP vb r seen else if vb m = true then m :: cntP vb r (mput seen (vkey m) true) else cntP vb r seen
theorem cnt_eq (k : Nat) (n : Int) (vb : S32 → Bool) : ∀ (l : List S32) (seen : List (VK × Bool)), (∀ m ∈ l, quorum_group_valid.f k n m = some (vb m)) → cnt k n l seen = some (cntP vb l seen)
  | [], _, _ => rfl
  | m :: r, seen, h => by
    have hr : ∀ m ∈ r, quorum_group_valid.f k n m = some (vb m) := fun x hx => h x (List.mem_cons_of_mem _ hx)
    simp only [cnt, cntP, h m List.mem_cons_self, Option.bind_some]
    split
    · exact cnt_eq k n vb r seen hr
    · split
      · rw [cnt_eq k n vb r _ hr]; rfl
      · exact cnt_eq k n vb r seen hr
theorem tally_eq {k : Nat} {n : Int} {vb : S32 → Bool} {l : List S32} {sz : Int} (h : ∀ m ∈ l, quorum_group_valid.f k n m = some (vb m)) (hs : quorum_Size.f n = some sz) : quorum_tally.f k l n = some (tst sz (cntP vb l [])).2 := by
  unfold quorum_tally.f
  rw [cnt_eq k n vb l [] h, Option.bind_some, hs]
  rfl
/-- The votes that were seen, behind a list. -/
def seenP (vb : S32 → Bool) : List S32 → List (VK × Bool) → List (VK × Bool)
  | [], seen => seen
  | m :: r, seen => if (mget seen (vkey m)).getD false = true then seenP vb r seen else if vb m = true then seenP vb r (mput seen (vkey m) true) else seenP vb r seen
theorem cntP_append (vb : S32 → Bool) (l2 : List S32) : ∀ (l : List S32) (seen : List (VK × Bool)), cntP vb (l ++ l2) seen = cntP vb l seen ++ cntP vb l2 (seenP vb l seen)
  | [], _ => rfl
  | m :: r, seen => by
    simp only [List.cons_append, cntP, seenP]
    split
    · exact cntP_append vb l2 r seen
    · split
      · rw [cntP_append vb l2 r]; rfl
      · exact cntP_append vb l2 r seen
theorem cntP_mem (vb : S32 → Bool) : ∀ (l : List S32) (seen : List (VK × Bool)), ∀ x ∈ cntP vb l seen, x ∈ l ∧ vb x = true ∧ (mget seen (vkey x)).getD false = false
  | [], _, x, h => by cases h
  | m :: r, seen, x, h => by
    simp only [cntP] at h
    split at h
    · have := cntP_mem vb r seen x h
      exact ⟨List.mem_cons_of_mem _ this.1, this.2⟩
    · rename_i hs
      split at h
      · rename_i hv
        rcases List.mem_cons.1 h with rfl | h
        · exact ⟨List.mem_cons_self, hv, by simpa using hs⟩
        · obtain ⟨h1, h2, h3⟩ := cntP_mem vb r _ x h
          refine ⟨List.mem_cons_of_mem _ h1, h2, ?_⟩
          by_cases e : vkey x = vkey m
          · rw [e, mput_get] at h3; simp at h3
          · rwa [mput_other _ _ _ _ e] at h3
      · have := cntP_mem vb r seen x h
        exact ⟨List.mem_cons_of_mem _ this.1, this.2⟩
theorem cntP_nd (vb : S32 → Bool) : ∀ (l : List S32) (seen : List (VK × Bool)), (cntP vb l seen).Pairwise (fun x y => vkey x ≠ vkey y)
  | [], _ => List.Pairwise.nil
  | m :: r, seen => by
    simp only [cntP]
    split
    · exact cntP_nd vb r seen
    · split
      · refine List.pairwise_cons.2 ⟨fun y hy e => ?_, cntP_nd vb r _⟩
        have := (cntP_mem vb r _ y hy).2.2
        rw [← e, mput_get] at this
        simp at this
      · exact cntP_nd vb r seen
theorem cntP_good {n : Int} {vb : S32 → Bool} (hv : ∀ x, vb x = true → 0 ≤ x.f1 ∧ x.f1 < n) (l : List S32) (seen : List (VK × Bool)) : Good n (cntP vb l seen) :=
  ⟨cntP_nd vb l seen, fun x hx => hv x (cntP_mem vb l seen x hx).2.1⟩
theorem cntB_append (b : VK) (c d : List S32) : cntB b (c ++ d) = cntB b c + cntB b d := by
  unfold cntB
  rw [List.filter_append, List.length_append]
/-- The size of a quorum. -/
def qsz (n : Int) : Int := n - (n - 1) / 3
theorem size_eq {n : Int} (h1 : 1 ≤ n) (h2 : n ≤ 13) : quorum_Size.f n = some (qsz n) ∧ quorum_MaxFaulty.f n = some ((n - 1) / 3) := by
  have h4 : quorum_group_possible.f n = some true := by
    unfold quorum_group_possible.f
    rw [if_pos (by omega)]
    simp [quorum_group_possible.k1, h2]
  have h5 : quorum_MaxFaulty.f n = some ((n - 1) / 3) := by
    unfold quorum_MaxFaulty.f
    rw [h4]
    simp only [Option.bind_some, if_true]
    rw [W64 (n := n - 1) (by omega) (by omega), Int.tdiv_eq_ediv_of_nonneg (by omega), W64 (by omega) (by omega)]
  refine ⟨?_, h5⟩
  unfold quorum_Size.f
  rw [h4, h5]
  simp only [Option.bind_some, if_true]
  rw [W64 (by omega) (by omega)]
  rfl

/-! ### messages that are made -/
theorem and255 (x : Int) : 0 ≤ bAnd .i64 x 255 ∧ bAnd .i64 x 255 ≤ 255 := by
  have h : (BitVec.ofInt 64 x &&& BitVec.ofInt 64 255).toNat ≤ 255 := by
    rw [BitVec.toNat_and]
    have : (BitVec.ofInt 64 255).toNat = 255 := by decide
    rw [this]
    exact Nat.and_le_right
  have e : bAnd .i64 x 255 = W .i64 ((BitVec.ofInt 64 x &&& BitVec.ofInt 64 255).toNat : Int) := rfl
  rw [e, W64 (by omega) (by omega)]
  omega
theorem possible_eq {n : Int} (h1 : 1 ≤ n) (h2 : n ≤ 13) : quorum_group_possible.f n = some true := by
  unfold quorum_group_possible.f
  rw [if_pos (by omega)]
  simp [quorum_group_possible.k1, h2]
theorem leader_of {n v : Int} (h1 : 1 ≤ n) (h2 : n ≤ 13) (h3 : 0 ≤ v) : quorum_Leader.f n v = some (v.tmod n) := by
  have h5 : decide (v < 0) = false := by simp; omega
  unfold quorum_Leader.f
  rw [possible_eq h1 h2]
  simp only [Option.bind_some, if_true, h5]
  unfold quorum_Leader.k1
  simp [show n ≠ 0 from by omega]
theorem leader29_of {n v : Int} (h1 : 1 ≤ n) (h2 : n ≤ 13) (h3 : 0 ≤ v) : armillaryref29_Leader.f n v = some (v.tmod n) := by
  have h4 : armillaryref29_replicas.f n = some true := by
    unfold armillaryref29_replicas.f
    rw [if_pos (by omega)]
    simp [armillaryref29_replicas.k1, h2]
  have h5 : decide (v < 0) = false := by simp; omega
  unfold armillaryref29_Leader.f
  rw [h4]
  simp only [Option.bind_some, if_true, h5]
  unfold armillaryref29_Leader.k1
  simp [show n ≠ 0 from by omega]
theorem enc1 (k : Nat) : codec_EncodeEntry.f (k + 60) (⟨1, (⟨#[107]⟩ : ByteArray), []⟩ : S30) = some ([2, 2, 107, 0], 0) := by kernel_rfl
theorem enc2 (k : Nat) : codec_EncodeEntry.f (k + 60) (⟨2, (⟨#[107]⟩ : ByteArray), []⟩ : S30) = some ([4, 2, 107, 0], 0) := by kernel_rfl
theorem sum1 (k : Nat) : armillaryref29_Sum.f (k + 60) (⟨1, (⟨#[107]⟩ : ByteArray), []⟩ : S30) = some (247493013, true) := by kernel_rfl
theorem sum2 (k : Nat) : armillaryref29_Sum.f (k + 60) (⟨2, (⟨#[107]⟩ : ByteArray), []⟩ : S30) = some (732638793, true) := by kernel_rfl
theorem ck1 : codec_Checksum.f [2, 2, 107, 0] = some 247493013 := by kernel_rfl
theorem ck2 : codec_Checksum.f [4, 2, 107, 0] = some 732638793 := by kernel_rfl
theorem bare_z (x : S32) (h : x.f5 = ⟨0, ⟨#[]⟩, []⟩) : quorum_bare.f x = some true := by
  unfold quorum_bare.f
  rw [h]
  simp [quorum_bare.k1]
theorem valid_rg {k : Nat} {n : Int} {x : S32} (h : quorum_group_valid.f k n x = some true) : 0 ≤ x.f1 ∧ x.f1 < n := by
  unfold quorum_group_valid.f at h
  cases hp : quorum_group_possible.f n with
  | none => rw [hp] at h; cases h
  | some b =>
    rw [hp] at h
    simp only [Option.bind_some] at h
    by_cases hb : b = true
    · rw [if_pos hb] at h
      by_cases h1 : x.f1 < 0
      · rw [if_pos h1] at h
        simp [quorum_group_valid.k4] at h
      · rw [if_neg h1] at h
        by_cases h2 : x.f1 ≥ n
        · rw [if_pos h2] at h
          simp [quorum_group_valid.k4] at h
        · exact ⟨by omega, by omega⟩
    · rw [if_neg hb] at h
      simp [quorum_group_valid.k4] at h
theorem valid_in {k : Nat} {n : Int} {x : S32} (h1 : 1 ≤ n) (h2 : n ≤ 13) (a1 : 0 ≤ x.f1) (a2 : x.f1 < n) (b1 : 0 ≤ x.f2) (b2 : x.f2 ≤ 2) (c1 : 0 ≤ x.f3) (c2 : x.f3 ≤ 2) : quorum_group_valid.f k n x = quorum_group_valid.k4 k n x false := by
  unfold quorum_group_valid.f
  rw [possible_eq h1 h2]
  simp only [Option.bind_some, if_true]
  rw [if_neg (by omega), if_neg (by omega), if_neg (by omega), if_neg (by omega), if_neg (by omega), show decide (x.f3 ≥ 1000) = false from by simp; omega, Option.bind_some]
theorem made_ok (m : S32) (hm : 0 ≤ m.f4) {n : Int} (h1 : 1 ≤ n) (h2 : n ≤ 13) : ∃ x, (∀ k, armillaryref29_Made.f (k + 60) m n = some x) ∧ ∀ k, quorum_group_valid.f (k + 60) n x = some true := by
  obtain ⟨z0, z1⟩ := and255 m.f0
  obtain ⟨y0, y1⟩ := and255 m.f1
  obtain ⟨v0, v1⟩ := and255 m.f2
  obtain ⟨q0, q1⟩ := and255 m.f3
  obtain ⟨kd, hkd⟩ : ∃ kd, W .i64 (1 + (bAnd .i64 m.f0 255).tmod 4) = kd := ⟨_, rfl⟩
  obtain ⟨fr, hfr⟩ : ∃ fr, (bAnd .i64 m.f1 255).tmod n = fr := ⟨_, rfl⟩
  obtain ⟨vw, hvw⟩ : ∃ vw, (bAnd .i64 m.f2 255).tmod 3 = vw := ⟨_, rfl⟩
  obtain ⟨sq, hsq⟩ : ∃ sq, (bAnd .i64 m.f3 255).tmod 3 = sq := ⟨_, rfl⟩
  have kd1 : 1 ≤ kd ∧ kd ≤ 4 := by
    rw [Int.tmod_eq_emod_of_nonneg z0, W64 (by omega) (by omega)] at hkd
    omega
  have fr1 : 0 ≤ fr ∧ fr < n := by
    rw [Int.tmod_eq_emod_of_nonneg y0] at hfr
    rw [← hfr]
    exact ⟨Int.emod_nonneg _ (by omega), Int.emod_lt_of_pos _ (by omega)⟩
  have vw1 : 0 ≤ vw ∧ vw ≤ 2 := by
    rw [Int.tmod_eq_emod_of_nonneg v0] at hvw
    omega
  have sq1 : 0 ≤ sq ∧ sq ≤ 2 := by
    rw [Int.tmod_eq_emod_of_nonneg q0] at hsq
    omega
  have lr1 : 0 ≤ vw.tmod n ∧ vw.tmod n < n := by
    rw [Int.tmod_eq_emod_of_nonneg vw1.1]
    exact ⟨Int.emod_nonneg _ (by omega), Int.emod_lt_of_pos _ (by omega)⟩
  -- the entry
  obtain ⟨eb, hek, bs, sm, hs, he, hck⟩ : ∃ eb, W .i64 (1 + W .i64 (m.f4.tmod 2)) = eb ∧ ∃ bs sm, (∀ k, armillaryref29_Sum.f (k + 60) (⟨eb, (⟨#[107]⟩ : ByteArray), []⟩ : S30) = some (sm, true)) ∧ (∀ k, codec_EncodeEntry.f (k + 60) (⟨eb, (⟨#[107]⟩ : ByteArray), []⟩ : S30) = some (bs, 0)) ∧ codec_Checksum.f bs = some sm := by
    rw [Int.tmod_eq_emod_of_nonneg hm, W64 (n := m.f4 % 2) (by omega) (by omega), W64 (by omega) (by omega)]
    rcases Int.emod_two_eq m.f4 with h | h
    · rw [h]; exact ⟨1, rfl, _, _, sum1, enc1, ck1⟩
    · rw [h]; exact ⟨2, rfl, _, _, sum2, enc2, ck2⟩
  by_cases k1 : kd = 1
  · refine ⟨⟨kd, vw.tmod n, vw, sq, sm, ⟨eb, ⟨#[107]⟩, []⟩⟩, fun k => ?_, fun k => ?_⟩
    · unfold armillaryref29_Made.f
      rw [if_neg (by omega), hek, hs k, Option.bind_some, hkd, if_pos k1, hvw, leader29_of h1 h2 vw1.1, hsq]
      simp only [Option.bind_some, armillaryref29_Made.k1, hkd, hvw]
    · rw [valid_in h1 h2 lr1.1 lr1.2 vw1.1 vw1.2 sq1.1 sq1.2]
      unfold quorum_group_valid.k4
      simp only [Bool.false_eq_true, if_false]
      rw [if_pos k1, he k, Option.bind_some, if_pos rfl, leader_of h1 h2 vw1.1]
      simp only [Option.bind_some, if_true, hck, quorum_group_valid.k1, beq_self_eq_true]
  · by_cases k4 : kd = 4
    · refine ⟨⟨kd, fr, vw, 0, 0, ⟨0, ⟨#[]⟩, []⟩⟩, fun k => ?_, fun k => ?_⟩
      · unfold armillaryref29_Made.f
        rw [if_neg (by omega), hek, hs k, Option.bind_some, hkd, if_neg k1, if_pos k4]
        simp only [Option.bind_some, armillaryref29_Made.k1, armillaryref29_Made.k2, hkd, hvw, hfr]
      · rw [valid_in h1 h2 fr1.1 fr1.2 vw1.1 vw1.2 (Int.le_refl 0) (show (0 : Int) ≤ 2 by decide)]
        unfold quorum_group_valid.k4
        simp only [Bool.false_eq_true, if_false]
        rw [if_neg k1, if_neg (by omega), show (kd == 3) = false from by simp; omega, Option.bind_some]
        unfold quorum_group_valid.k3
        simp only [Bool.false_eq_true, if_false]
        rw [if_pos k4, bare_z _ rfl]
        rfl
    · refine ⟨⟨kd, fr, vw, sq, sm, ⟨0, ⟨#[]⟩, []⟩⟩, fun k => ?_, fun k => ?_⟩
      · unfold armillaryref29_Made.f
        rw [if_neg (by omega), hek, hs k, Option.bind_some, hkd, if_neg k1, if_neg k4]
        simp only [Option.bind_some, armillaryref29_Made.k1, armillaryref29_Made.k2, hkd, hvw, hfr, hsq]
      · rw [valid_in h1 h2 fr1.1 fr1.2 vw1.1 vw1.2 sq1.1 sq1.2]
        unfold quorum_group_valid.k4
        simp only [Bool.false_eq_true, if_false]
        rw [if_neg k1]
        have h23 : (if kd = 2 then some (kd == 2) else some (kd == 3)) = some true := by
          by_cases e : kd = 2
          · rw [if_pos e, e]; rfl
          · have e3 : kd = 3 := by omega
            rw [if_neg e, e3]; rfl
        rw [h23, Option.bind_some]
        unfold quorum_group_valid.k3
        simp only [if_true]
        rw [bare_z _ rfl]
        rfl
/-- Lists that are made: at most 40 messages, each valid. -/
theorem madeAll_ok (l : List S32) (hl : ∀ m ∈ l, 0 ≤ m.f4) {n : Int} (h1 : 1 ≤ n) (h2 : n ≤ 13) : ∃ L, (∀ k, armillaryref29_MadeAll.f (k + 101) l n 40 = some L) ∧ L.length ≤ 40 ∧ ∀ x ∈ L, ∀ k, quorum_group_valid.f (k + 60) n x = some true := by
  have key : ∀ (r i : Nat) (acc : List S32), i + r = 40 → acc.length = i → (i : Int) ≤ (l.length : Int) → ∃ L, (∀ k, armillaryref29_MadeAll.l1 l n 40 (k + 61 + r) acc (i : Int) = some (acc ++ L)) ∧ L.length ≤ r ∧ ∀ x ∈ L, ∀ k, quorum_group_valid.f (k + 60) n x = some true := by
    intro r
    induction r with
    | zero =>
      intro i acc hi ha hil
      refine ⟨[], fun k => ?_, Nat.le_refl _, fun x hx => by cases hx⟩
      rw [show k + 61 + 0 = (k + 60) + 1 from by omega]
      generalize k + 60 = K
      simp only [armillaryref29_MadeAll.l1]
      have : decide ((i : Int) < 40) = false := by simp; omega
      rw [this]
      split <;> simp
    | succ r ih =>
      intro i acc hi ha hil
      by_cases hlt : (i : Int) < (l.length : Int)
      · have hil2 : i < l.length := by omega
        obtain ⟨x, hx1, hx2⟩ := made_ok (l.getD (i : Int).toNat z32) (by
          rw [Int.toNat_natCast, List.getD_eq_getElem?_getD, List.getElem?_eq_getElem hil2]
          exact hl _ (List.getElem_mem hil2)) h1 h2
        obtain ⟨L, hL1, hL2, hL3⟩ := ih (i + 1) (acc ++ [x]) (by omega) (by simp [ha]) (by omega)
        refine ⟨x :: L, fun k => ?_, by simp; omega, fun y hy => ?_⟩
        · have e1 := hL1 k
          have e2 := hx1 (k + 1 + r)
          rw [show (k + 1 + r) + 60 = k + 61 + r from by omega] at e2
          rw [show k + 61 + (r + 1) = (k + 61 + r) + 1 from by omega]
          generalize k + 61 + r = K at e1 e2
          simp only [armillaryref29_MadeAll.l1]
          have : decide ((i : Int) < 40) = true := by simp; omega
          rw [if_pos hlt, this, Option.bind_some, if_pos rfl, if_pos (by omega), if_pos hlt, e2, Option.bind_some, if_pos (by simp [ha]; omega), W64 (by omega) (by omega), show ((i : Int) + 1) = ((i + 1 : Nat) : Int) from by omega, e1]
          simp
        · rcases List.mem_cons.1 hy with rfl | hy
          · exact hx2
          · exact hL3 y hy
      · refine ⟨[], fun k => ?_, Nat.zero_le _, fun x hx => by cases hx⟩
        rw [show k + 61 + (r + 1) = (k + 61 + r) + 1 from by omega]
        generalize k + 61 + r = K
        simp only [armillaryref29_MadeAll.l1]
        rw [if_neg hlt]
        simp
  obtain ⟨L, h3, h4, h5⟩ := key 40 0 [] rfl rfl (by omega)
  refine ⟨L, fun k => ?_, h4, h5⟩
  unfold armillaryref29_MadeAll.f
  have := h3 k
  rw [show k + 61 + 40 = k + 101 from by omega] at this
  rw [show ((0 : Nat) : Int) = 0 from rfl] at this
  rw [this, Option.bind_some, List.nil_append]
  rfl

/-! ### what laws say of the tally -/
/-- The size of a quorum, as a natural number. -/
theorem qsz_nat {n : Int} (h1 : 1 ≤ n) (h2 : n ≤ 13) : ∃ N s : Nat, (N : Int) = n ∧ N ≤ 13 ∧ (s : Int) = qsz n ∧ 1 ≤ s ∧ N < 2 * s := by
  refine ⟨n.toNat, (qsz n).toNat, ?_, ?_, ?_, ?_, ?_⟩ <;> (try unfold qsz) <;> omega
/-- The valid messages of a group. -/
def vbN (k : Nat) (n : Int) (x : S32) : Bool := decide (quorum_group_valid.f k n x = some true)
theorem vbN_rg {k : Nat} {n : Int} (x : S32) (h : vbN k n x = true) : 0 ≤ x.f1 ∧ x.f1 < n := valid_rg (of_decide_eq_true h)
theorem vbN_of {k : Nat} {n : Int} {x : S32} {b : Bool} (h : quorum_group_valid.f k n x = some b) : quorum_group_valid.f k n x = some (vbN k n x) := by
  unfold vbN
  rw [h]
  cases b <;> simp
/-- What is decided for a kind and a slot. -/
def decN (k : Nat) (n : Int) (l : List S32) (a v q : Int) : Option Int := mget (tst (qsz n) (cntP (vbN k n) l [])).2 (a, 0, v, q)
theorem tally_dec {k : Nat} {n : Int} (h1 : 1 ≤ n) (h2 : n ≤ 13) {l : List S32} (h : ∀ m ∈ l, ∃ b, quorum_group_valid.f k n m = some b) : quorum_tally.f k l n = some (tst (qsz n) (cntP (vbN k n) l [])).2 :=
  tally_eq (fun m hm => by obtain ⟨b, hb⟩ := h m hm; exact vbN_of hb) (size_eq h1 h2).1
theorem prepared_dec {k : Nat} {n : Int} (h1 : 1 ≤ n) (h2 : n ≤ 13) {l : List S32} (h : ∀ m ∈ l, ∃ b, quorum_group_valid.f k n m = some b) (at_ : S24) : quorum_Prepared.f k l n at_ = some ((decN k n l 2 at_.f0 at_.f1).getD 0, (decN k n l 2 at_.f0 at_.f1).isSome) := by
  unfold quorum_Prepared.f
  rw [tally_dec h1 h2 h]
  rfl
theorem committed_dec {k : Nat} {n : Int} (h1 : 1 ≤ n) (h2 : n ≤ 13) {l : List S32} (h : ∀ m ∈ l, ∃ b, quorum_group_valid.f k n m = some b) (at_ : S24) : quorum_Committed.f k l n at_ = some ((decN k n l 3 at_.f0 at_.f1).getD 0, (decN k n l 3 at_.f0 at_.f1).isSome) := by
  unfold quorum_Committed.f
  rw [tally_dec h1 h2 h]
  rfl
/-- A sum is decided just where a quorum of the messages that count is for it. -/
theorem decN_iff {k : Nat} {n : Int} (h1 : 1 ≤ n) (h2 : n ≤ 13) (l : List S32) (a v q s : Int) : decN k n l a v q = some s ↔ (qsz n) ≤ (cntB (a, v, q, s) (cntP (vbN k n) l []) : Int) := by
  obtain ⟨N, z, hN, hN2, hz, hz1, hz2⟩ := qsz_nat h1 h2
  have := tst_dec hN2 hz1 hz2 (cntP (vbN k n) l []) (by rw [hN]; exact cntP_good (fun x hx => vbN_rg x hx) l []) a v q s
  unfold decN
  rw [← hz, this]
  omega
theorem decN_append {k : Nat} {n : Int} (h1 : 1 ≤ n) (h2 : n ≤ 13) (l m : List S32) {a v q s : Int} (h : decN k n l a v q = some s) : decN k n (l ++ m) a v q = some s := by
  rw [decN_iff h1 h2] at h ⊢
  rw [cntP_append, cntB_append]
  omega

/-! ### the highest prepared entry -/
/-- Could this message's entry be the answer? -/
def HC (V : S32 → Bool) (D : Int → Int → Option Int) (at_ : S24) (m : S32) : Prop := m.f0 = 1 ∧ m.f3 = at_.f1 ∧ m.f2 < at_.f0 ∧ V m = true ∧ D m.f2 m.f3 = some m.f4
instance (V : S32 → Bool) (D : Int → Int → Option Int) (at_ : S24) (m : S32) : Decidable (HC V D at_ m) := by unfold HC; infer_instance
def hstep (V : S32 → Bool) (D : Int → Int → Option Int) (at_ : S24) (st : S30 × Int) (m : S32) : S30 × Int := if HC V D at_ m ∧ st.2 < m.f2 then (m.f5, m.f2) else st
theorem hp_iter {k : Nat} {n : Int} {at_ : S24} {t1 : List (VK × Int)} {l : List S32} {V : S32 → Bool} {D : Int → Int → Option Int} {st : S30 × Int} {i : Int} {m : S32} (hget : l.getD i.toNat z32 = m) (hV : quorum_group_valid.f k n m = some (V m)) (hD : ∀ v q, mget t1 (2, 0, v, q) = D v q) :
    ((if m.f0 ≠ 1 then (some true) else (if m.f3 ≠ at_.f1 then (some true) else (if m.f2 ≥ at_.f0 then (some true) else (if m.f2 ≤ st.2 then (some true) else ((quorum_Valid.f k m n).bind fun t2 => (some (!t2))))))).bind (quorum_HighestPrepared.k5 l t1 st.1.f0 st.1.f1 st.1.f2 st.2 i)) =
      some ((hstep V D at_ st m).1.f0, (hstep V D at_ st m).1.f1, (hstep V D at_ st m).1.f2, (hstep V D at_ st m).2) := by
  have hv : quorum_Valid.f k m n = some (V m) := by unfold quorum_Valid.f; rw [hV]; rfl
  have skip : ∀ b, b = true → (hstep V D at_ st m = st) → quorum_HighestPrepared.k5 l t1 st.1.f0 st.1.f1 st.1.f2 st.2 i b = some ((hstep V D at_ st m).1.f0, (hstep V D at_ st m).1.f1, (hstep V D at_ st m).1.f2, (hstep V D at_ st m).2) := by
    intro b hb hs
    unfold quorum_HighestPrepared.k5
    rw [if_pos hb, hs]
  have noHC : ¬ (HC V D at_ m ∧ st.2 < m.f2) → hstep V D at_ st m = st := fun h => by unfold hstep; rw [if_neg h]
  by_cases h1 : m.f0 = 1
  · rw [if_neg (by simpa using h1)]
    by_cases h2 : m.f3 = at_.f1
    · rw [if_neg (by simpa using h2)]
      by_cases h3 : m.f2 ≥ at_.f0
      · rw [if_pos h3, Option.bind_some]
        exact skip _ rfl (noHC (fun h => by have := h.1.2.2.1; omega))
      · rw [if_neg h3]
        by_cases h4 : m.f2 ≤ st.2
        · rw [if_pos h4, Option.bind_some]
          exact skip _ rfl (noHC (fun h => by have := h.2; omega))
        · rw [if_neg h4, hv, Option.bind_some, Option.bind_some]
          cases h5 : V m with
          | false => exact skip _ rfl (noHC (fun h => by have := h.1.2.2.2.1; rw [h5] at this; cases this))
          | true =>
            unfold quorum_HighestPrepared.k5
            rw [if_neg (by decide), hget, hD]
            cases h6 : D m.f2 m.f3 with
            | none =>
              have hs := noHC (fun h => by have := h.1.2.2.2.2; rw [h6] at this; cases this)
              simp only [Option.isSome_none, Bool.false_eq_true, if_false, Option.bind_some, quorum_HighestPrepared.k4, quorum_HighestPrepared.k3, hs]
            | some s =>
              simp only [Option.isSome_some, if_true, Option.getD_some, Option.bind_some]
              by_cases h7 : s = m.f4
              · have hs : hstep V D at_ st m = (m.f5, m.f2) := by
                  unfold hstep
                  rw [if_pos ⟨⟨h1, h2, by omega, h5, by rw [h6, h7]⟩, by omega⟩]
                have e : (s == m.f4) = true := by simpa using h7
                simp only [e, quorum_HighestPrepared.k4, if_true, Option.bind_some, quorum_HighestPrepared.k3, hget, hs]
              · have hs := noHC (fun h => by have := h.1.2.2.2.2; rw [h6] at this; exact h7 (Option.some.inj this))
                have e : (s == m.f4) = false := by simpa using h7
                simp only [e, quorum_HighestPrepared.k4, Bool.false_eq_true, if_false, Option.bind_some, quorum_HighestPrepared.k3, hs]
    · rw [if_pos h2, Option.bind_some]
      exact skip _ rfl (noHC (fun h => h2 h.1.2.1))
  · rw [if_pos h1, Option.bind_some]
    exact skip _ rfl (noHC (fun h => h1 h.1.1))
theorem hp_loop {n : Int} {at_ : S24} {t1 : List (VK × Int)} {l : List S32} {V : S32 → Bool} {D : Int → Int → Option Int} (hlen : l.length ≤ 1000) (hV : ∀ m ∈ l, ∀ k, quorum_group_valid.f (k + 60) n m = some (V m)) (hD : ∀ v q, mget t1 (2, 0, v, q) = D v q) :
    ∀ (r i : Nat) (k : Nat) (st : S30 × Int), i + r = l.length → quorum_HighestPrepared.l1 l n at_ t1 (k + 61 + r) st.1.f0 st.1.f1 st.1.f2 st.2 (i : Int) =
      some (((l.drop i).foldl (hstep V D at_) st).1.f0, ((l.drop i).foldl (hstep V D at_) st).1.f1, ((l.drop i).foldl (hstep V D at_) st).1.f2, ((l.drop i).foldl (hstep V D at_) st).2) := by
  intro r
  induction r with
  | zero =>
    intro i k st hi
    rw [show k + 61 + 0 = (k + 60) + 1 from by omega]
    generalize k + 60 = K
    simp only [quorum_HighestPrepared.l1]
    rw [if_neg (by omega), List.drop_of_length_le (by omega)]
    rfl
  | succ r ih =>
    intro i k st hi
    have hil : i < l.length := by omega
    have hdrop : l.drop i = l[i] :: l.drop (i + 1) := List.drop_eq_getElem_cons hil
    have hget : l.getD (i : Int).toNat z32 = l[i] := by
      rw [Int.toNat_natCast, List.getD_eq_getElem?_getD, List.getElem?_eq_getElem hil]; rfl
    have hv := hV l[i] (List.getElem_mem hil) (k + 1 + r)
    rw [show (k + 1 + r) + 60 = k + 61 + r from by omega] at hv
    have hnext := ih (i + 1) k (hstep V D at_ st l[i]) (by omega)
    have hit := hp_iter (k := k + 61 + r) (at_ := at_) (st := st) (i := (i : Int)) hget hv hD
    rw [show k + 61 + (r + 1) = (k + 61 + r) + 1 from by omega]
    generalize k + 61 + r = K at hnext hit
    simp only [quorum_HighestPrepared.l1]
    rw [if_pos (by omega), if_pos (by omega), if_pos (by omega), hget, hit, Option.bind_some]
    simp only
    rw [W64 (by omega) (by omega), show ((i : Int) + 1) = ((i + 1 : Nat) : Int) from by omega, hnext, hdrop]
    rfl
theorem highest_eq {n : Int} (h1 : 1 ≤ n) (h2 : n ≤ 13) {l : List S32} (hlen : l.length ≤ 230) (hV : ∀ m ∈ l, ∀ k, quorum_group_valid.f (k + 60) n m = some (vbN 300 n m)) (at_ : S24) :
    quorum_HighestPrepared.f 300 l n at_ = some ((l.foldl (hstep (vbN 300 n) (decN 300 n l 2) at_) (⟨0, ⟨#[]⟩, []⟩, -1)).1, decide ((l.foldl (hstep (vbN 300 n) (decN 300 n l 2) at_) (⟨0, ⟨#[]⟩, []⟩, -1)).2 ≥ 0)) := by
  unfold quorum_HighestPrepared.f
  rw [tally_dec h1 h2 (fun m hm => ⟨_, hV m hm 240⟩), Option.bind_some]
  have := hp_loop (at_ := at_) (V := vbN 300 n) (D := decN 300 n l 2) (t1 := (tst (qsz n) (cntP (vbN 300 n) l [])).2) (by omega) hV (fun v q => rfl) l.length 0 (239 - l.length) ((⟨0, ⟨#[]⟩, []⟩ : S30), (-1 : Int)) (by omega)
  rw [show 239 - l.length + 61 + l.length = 300 from by omega, show ((0 : Nat) : Int) = 0 from rfl, List.drop_zero] at this
  simp only at this
  rw [this, Option.bind_some]
  unfold quorum_HighestPrepared.k1
  rfl
theorem valid_all {n : Int} {m : S32} (h : ∃ b, ∀ k, quorum_group_valid.f (k + 60) n m = some b) : ∀ k, quorum_group_valid.f (k + 60) n m = some (vbN 300 n m) := by
  obtain ⟨b, hb⟩ := h
  intro k
  rw [hb k]
  unfold vbN
  rw [hb 240]
  cases b <;> simp
theorem same_refl (e : S30) : armillaryref29_Same.f e e = some true := by
  unfold armillaryref29_Same.f armillaryref27_Same.f
  rw [if_pos rfl, if_pos rfl]
  simp [armillaryref27_Same.k1]

/-! ### what was seen -/
theorem seenP_append (vb : S32 → Bool) (l2 : List S32) : ∀ (l : List S32) (seen : List (VK × Bool)), seenP vb (l ++ l2) seen = seenP vb l2 (seenP vb l seen)
  | [], _ => rfl
  | m :: r, seen => by
    simp only [List.cons_append, seenP]
    split
    · exact seenP_append vb l2 r seen
    · split
      · exact seenP_append vb l2 r _
      · exact seenP_append vb l2 r seen
theorem seenP_mono (vb : S32 → Bool) (q : VK) : ∀ (l : List S32) (seen : List (VK × Bool)), (mget seen q).getD false = true → (mget (seenP vb l seen) q).getD false = true
  | [], _, h => h
  | m :: r, seen, h => by
    simp only [seenP]
    split
    · exact seenP_mono vb q r seen h
    · split
      · refine seenP_mono vb q r _ ?_
        by_cases e : q = vkey m
        · rw [e, mput_get]; rfl
        · rw [mput_other _ _ _ _ e]; exact h
      · exact seenP_mono vb q r seen h
theorem seenP_has (vb : S32 → Bool) : ∀ (l : List S32) (seen : List (VK × Bool)), ∀ x ∈ l, vb x = true → (mget (seenP vb l seen) (vkey x)).getD false = true
  | [], _, x, h, _ => by cases h
  | m :: r, seen, x, h, hv => by
    simp only [seenP]
    rcases List.mem_cons.1 h with rfl | h
    · split
      · rename_i hs
        exact seenP_mono vb _ r seen hs
      · exact seenP_mono vb _ r _ (by rw [mput_get]; rfl)
    · split
      · exact seenP_has vb r seen x h hv
      · split
        · exact seenP_has vb r _ x h hv
        · exact seenP_has vb r seen x h hv
theorem hstep_skip {V : S32 → Bool} {D : Int → Int → Option Int} {at_ : S24} {st : S30 × Int} {m : S32} (h : HC V D at_ m → m.f2 ≤ st.2) : hstep V D at_ st m = st := by
  unfold hstep
  rw [if_neg (fun hh => by have := h hh.1; omega)]
theorem hstep_after {V : S32 → Bool} {D : Int → Int → Option Int} {at_ : S24} {st : S30 × Int} {m : S32} (h : HC V D at_ m) : m.f2 ≤ (hstep V D at_ st m).2 := by
  unfold hstep
  by_cases h2 : st.2 < m.f2
  · rw [if_pos ⟨h, h2⟩]; exact Int.le_refl _
  · rw [if_neg (fun hh => h2 hh.2)]; omega
theorem hstep_mono {V : S32 → Bool} {D : Int → Int → Option Int} {at_ : S24} {st : S30 × Int} {m : S32} : st.2 ≤ (hstep V D at_ st m).2 := by
  unfold hstep
  split
  · rename_i h; exact Int.le_of_lt h.2
  · exact Int.le_refl _

end Go.Proofs.Ytieakigoinebdaa
