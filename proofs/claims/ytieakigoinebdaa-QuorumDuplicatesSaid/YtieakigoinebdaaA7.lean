/- The law QuorumDuplicates, in plain words: repeating all messages and inserting invalid ones has no effect; conditions: the fields of the arguments fit their kinds. -/
import Derived.Test.YtieakigoinebdaaO
import Derived.Test.YtieakigoinebdaaP
import Derived.Test.YtieakigoinebdaaG7
namespace Go.Proofs.Ytieakigoinebdaa.dup
open Go Go.Proofs.Ytieakigoinebdaa Go.Proofs.Ytieakigoinebdaa.RW
set_option linter.unusedVariables false
set_option maxRecDepth 1000000
theorem sane7 : armillarylaw29_sanity.f 300 = some true := by kernel_rfl
theorem wf_u8 {x : Int} (h : (Lit.int .u8 x).wf = true) : 0 ≤ x ∧ x ≤ 255 := by simpa [Lit.wf, IntKind.min, IntKind.max, IntKind.signed, IntKind.bits] using h
theorem wf_u32 {x : Int} (h : (Lit.int .u32 x).wf = true) : 0 ≤ x := by
  have : 0 ≤ x ∧ x ≤ 4294967295 := by simpa [Lit.wf, IntKind.min, IntKind.max, IntKind.signed, IntKind.bits] using h
  exact this.1
theorem num13 {x : Int} (h : (Lit.int .u8 x).wf = true) : 1 ≤ W .i64 (1 + W .i64 (x.tmod 13)) ∧ W .i64 (1 + W .i64 (x.tmod 13)) ≤ 13 := by
  have := wf_u8 h
  rw [Int.tmod_eq_emod_of_nonneg this.1, W64 (n := x % 13) (by omega) (by omega), W64 (by omega) (by omega)]
  omega
/-! ### what is inserted -/
def bad (x : S32) : S32 := ⟨x.f0, x.f1, -1, 0, 0, ⟨0, ⟨#[]⟩, []⟩⟩
def chunk (a : Int) (L : List S32) (i : Int) : List S32 := [L.getD i.toNat z32, L.getD i.toNat z32, L.getD (a.tmod (i + 1)).toNat z32, ⟨(L.getD i.toNat z32).f0, (L.getD i.toNat z32).f1, (-1), 0, 0, (⟨0, (⟨#[]⟩ : ByteArray), []⟩ : S30)⟩]
def tw (a : Int) (L hd : List S32) : Nat → List S32
  | 0 => hd
  | i + 1 => tw a L hd i ++ chunk a L (i : Int)
theorem tw_len (a : Int) (L hd : List S32) : ∀ i, (tw a L hd i).length = hd.length + 4 * i
  | 0 => rfl
  | i + 1 => by rw [tw, List.length_append, tw_len a L hd i]; simp [chunk]; omega
theorem loop_eq {L hd : List S32} {a : Int} (hL : L.length ≤ 40) (hh : hd.length ≤ 2) (ha : 0 ≤ a ∧ a ≤ 255) :
    ∀ (r i : Nat) (k : Nat), i + r = L.length → armillarylaw29_QuorumDuplicates.l1 a (k + 1 + r) L (tw a L hd i) (i : Int) = some (L, tw a L hd L.length) := by
  intro r
  induction r with
  | zero =>
    intro i k hi
    obtain rfl : i = L.length := by omega
    rw [show k + 1 + 0 = k + 1 from rfl]
    simp only [armillarylaw29_QuorumDuplicates.l1]
    rw [if_neg (by omega)]
  | succ r ih =>
    intro i k hi
    have hnext := ih (i + 1) k (by omega)
    rw [show k + 1 + (r + 1) = (k + 1 + r) + 1 from by omega]
    generalize k + 1 + r = K at hnext
    have hW1 : W .i64 a = a := W64 (by omega) (by omega)
    have hW2 : W .i64 ((i : Int) + 1) = (i : Int) + 1 := W64 (by omega) (by omega)
    have h1 : (i : Int) < (L.length : Int) := by omega
    have h2 : 0 ≤ (i : Int) := by omega
    have h5 : ¬ ((i : Int) + 1 = 0) := by omega
    have h6 : 0 ≤ a.tmod ((i : Int) + 1) := by rw [Int.tmod_eq_emod_of_nonneg ha.1]; exact Int.emod_nonneg _ h5
    have h7 : a.tmod ((i : Int) + 1) < (L.length : Int) := by
      rw [Int.tmod_eq_emod_of_nonneg ha.1]
      have := Int.emod_lt_of_pos a (b := (i : Int) + 1) (by omega)
      omega
    simp only [armillarylaw29_QuorumDuplicates.l1, hW1, hW2]
    rw [if_pos h1, if_pos h2, if_pos h1, if_pos h2, if_pos h1, if_neg h5, if_pos h6, if_pos h7, if_pos h2, if_pos h1, if_pos h2, if_pos h1, if_pos (by rw [tw_len]; simp; omega)]
    exact hnext
/-! ### what has no effect -/
theorem absorb (vb : S32 → Bool) : ∀ (c : List S32) (seen : List (VK × Bool)), (∀ x ∈ c, vb x = false ∨ (mget seen (vkey x)).getD false = true) → cntP vb c seen = [] ∧ seenP vb c seen = seen
  | [], _, _ => ⟨rfl, rfl⟩
  | m :: r, seen, h => by
    have hr := absorb vb r seen (fun x hx => h x (List.mem_cons_of_mem _ hx))
    simp only [cntP, seenP]
    by_cases h1 : (mget seen (vkey m)).getD false = true
    · rw [if_pos h1, if_pos h1]; exact hr
    · rw [if_neg h1, if_neg h1]
      rcases h m List.mem_cons_self with h2 | h2
      · rw [if_neg (by rw [h2]; decide), if_neg (by rw [h2]; decide)]; exact hr
      · exact absurd h2 h1
theorem absorb_fold (V : S32 → Bool) (D : Int → Int → Option Int) (at_ : S24) : ∀ (c : List S32) (st : S30 × Int), (∀ x ∈ c, HC V D at_ x → x.f2 ≤ st.2) → c.foldl (hstep V D at_) st = st
  | [], _, _ => rfl
  | m :: r, st, h => by
    rw [List.foldl_cons, hstep_skip (h m List.mem_cons_self)]
    exact absorb_fold V D at_ r st (fun x hx => h x (List.mem_cons_of_mem _ hx))
theorem fold_mono (V : S32 → Bool) (D : Int → Int → Option Int) (at_ : S24) : ∀ (c : List S32) (st : S30 × Int), st.2 ≤ (c.foldl (hstep V D at_) st).2
  | [], _ => Int.le_refl _
  | m :: r, st => Int.le_trans hstep_mono (fold_mono V D at_ r _)
theorem fold_has (V : S32 → Bool) (D : Int → Int → Option Int) (at_ : S24) : ∀ (c : List S32) (st : S30 × Int), ∀ x ∈ c, HC V D at_ x → x.f2 ≤ (c.foldl (hstep V D at_) st).2
  | [], _, x, h, _ => by cases h
  | m :: r, st, x, h, hc => by
    rcases List.mem_cons.1 h with rfl | h
    · exact Int.le_trans (hstep_after hc) (fold_mono V D at_ r _)
    · exact fold_has V D at_ r _ x h hc
theorem getD_mem {L : List S32} {j : Nat} (h : j < L.length) : L.getD j z32 = L[j] := by rw [List.getD_eq_getElem?_getD, List.getElem?_eq_getElem h]; rfl
/-- One round: the message itself, and then what has no effect. -/
theorem chunk_eq {L : List S32} {a : Int} (ha : 0 ≤ a) {i : Nat} (hi : i < L.length) : ∃ y ∈ L.take (i + 1), chunk a L (i : Int) = [L[i]] ++ [L[i], y, bad L[i]] := by
  have h5 : ¬ ((i : Int) + 1 = 0) := by omega
  obtain ⟨j, hj⟩ : ∃ j : Nat, a.tmod ((i : Int) + 1) = j := ⟨(a.tmod ((i : Int) + 1)).toNat, by
    have : 0 ≤ a.tmod ((i : Int) + 1) := by rw [Int.tmod_eq_emod_of_nonneg ha]; exact Int.emod_nonneg _ h5
    omega⟩
  have hj2 : j < i + 1 := by
    have := Int.emod_lt_of_pos a (b := (i : Int) + 1) (by omega)
    rw [← Int.tmod_eq_emod_of_nonneg ha, hj] at this
    omega
  refine ⟨L[j], ?_, ?_⟩
  · rw [List.mem_take_iff_getElem]
    exact ⟨j, by omega, rfl⟩
  · unfold chunk bad
    rw [hj, Int.toNat_natCast, Int.toNat_natCast, getD_mem hi, getD_mem (by omega : j < L.length)]
    rfl
theorem take_snoc {L : List S32} {i : Nat} (hi : i < L.length) : L.take (i + 1) = L.take i ++ [L[i]] := by rw [List.take_add_one, List.getElem?_eq_getElem hi]; rfl
theorem tw_cnt {V : S32 → Bool} {L hd : List S32} {a : Int} (ha : 0 ≤ a) (hV : ∀ x ∈ L, V x = true) (hb : ∀ x ∈ L, V (bad x) = false) (hh : ∀ x ∈ hd, V x = false) :
    ∀ i ≤ L.length, cntP V (tw a L hd i) [] = cntP V (L.take i) [] ∧ seenP V (tw a L hd i) [] = seenP V (L.take i) [] := by
  intro i
  induction i with
  | zero => intro _; exact absorb V hd [] (fun x hx => Or.inl (hh x hx))
  | succ i ih =>
    intro hi
    obtain ⟨c1, c2⟩ := ih (by omega)
    obtain ⟨y, hy, hc⟩ := chunk_eq ha (show i < L.length by omega)
    have hi' : i < L.length := by omega
    have hx : L[i] ∈ L.take (i + 1) := by rw [take_snoc hi']; exact List.mem_append_right _ (List.mem_singleton.2 rfl)
    have mem : ∀ x ∈ L.take (i + 1), x ∈ L := fun x hx => List.mem_of_mem_take hx
    have hs : seenP V (tw a L hd i ++ [L[i]]) [] = seenP V (L.take (i + 1)) [] := by rw [take_snoc hi', seenP_append, seenP_append, c2]
    have hab := absorb V [L[i], y, bad L[i]] (seenP V (L.take (i + 1)) []) (by
      intro x hm
      simp only [List.mem_cons, List.not_mem_nil, or_false] at hm
      rcases hm with rfl | rfl | rfl
      · exact Or.inr (seenP_has V _ [] _ hx (hV _ (mem _ hx)))
      · exact Or.inr (seenP_has V _ [] _ hy (hV _ (mem _ hy)))
      · exact Or.inl (hb _ (mem _ hx)))
    rw [tw, hc, ← List.append_assoc]
    constructor
    · rw [cntP_append, hs, hab.1, List.append_nil, cntP_append, c1, c2, take_snoc hi', cntP_append]
    · rw [seenP_append, hs, hab.2]
theorem tw_fold {V : S32 → Bool} {D : Int → Int → Option Int} {at_ : S24} {L hd : List S32} {a : Int} (ha : 0 ≤ a) (hb : ∀ x ∈ L, V (bad x) = false) (hh : ∀ x ∈ hd, V x = false) (st : S30 × Int) :
    ∀ i ≤ L.length, (tw a L hd i).foldl (hstep V D at_) st = (L.take i).foldl (hstep V D at_) st := by
  intro i
  have no : ∀ x, V x = false → HC V D at_ x → False := fun x h hc => by rw [hc.2.2.2.1] at h; cases h
  induction i with
  | zero => intro _; exact absorb_fold V D at_ hd st (fun x hx hc => (no x (hh x hx) hc).elim)
  | succ i ih =>
    intro hi
    obtain ⟨y, hy, hc⟩ := chunk_eq ha (show i < L.length by omega)
    have hi' : i < L.length := by omega
    have hx : L[i] ∈ L.take (i + 1) := by rw [take_snoc hi']; exact List.mem_append_right _ (List.mem_singleton.2 rfl)
    have hs : (tw a L hd i ++ [L[i]]).foldl (hstep V D at_) st = (L.take (i + 1)).foldl (hstep V D at_) st := by rw [take_snoc hi', List.foldl_append, List.foldl_append, ih (by omega)]
    rw [tw, hc, ← List.append_assoc, List.foldl_append, hs]
    refine absorb_fold V D at_ _ _ ?_
    intro x hm hcx
    simp only [List.mem_cons, List.not_mem_nil, or_false] at hm
    rcases hm with rfl | rfl | rfl
    · exact fold_has V D at_ _ _ _ hx hcx
    · exact fold_has V D at_ _ _ _ hy hcx
    · exact (no _ (hb _ (List.mem_of_mem_take hx)) hcx).elim
/-! ### what is invalid -/
theorem zero_bad {n : Int} (h1 : 1 ≤ n) (h2 : n ≤ 13) (k : Nat) : quorum_group_valid.f k n (⟨0, 0, 0, 0, 0, (⟨0, (⟨#[]⟩ : ByteArray), []⟩ : S30)⟩ : S32) = some false := by
  rw [valid_in h1 h2 (Int.le_refl 0) (show (0 : Int) < n by omega) (Int.le_refl 0) (show (0 : Int) ≤ 2 by decide) (Int.le_refl 0) (show (0 : Int) ≤ 2 by decide)]
  rfl
theorem from_bad {n : Int} (h1 : 1 ≤ n) (h2 : n ≤ 13) (k : Nat) (a b c d : Int) (e : S30) : quorum_group_valid.f k n (⟨a, n, b, c, d, e⟩ : S32) = some false := by
  unfold quorum_group_valid.f
  rw [possible_eq h1 h2]
  simp only [Option.bind_some, if_true]
  rw [if_neg (by omega), if_pos (by omega), Option.bind_some]
  rfl
theorem view_bad {n : Int} (h1 : 1 ≤ n) (h2 : n ≤ 13) (k : Nat) (x : S32) : quorum_group_valid.f k n (bad x) = some false := by
  unfold quorum_group_valid.f
  rw [possible_eq h1 h2]
  simp only [Option.bind_some, if_true]
  have e : (bad x).f2 < 0 := by show (-1 : Int) < 0; decide
  rw [if_pos e]
  split
  · rfl
  · split <;> rfl
end Go.Proofs.Ytieakigoinebdaa.dup
namespace Go.Proofs.Ytieakigoinebdaa
open Go Go.Proofs.Ytieakigoinebdaa.RW dup
set_option linter.unusedVariables false
theorem armillarylaw29_QuorumDuplicates_holds (a0 : S26) (a1 : Int) (h0 : p26 a0) (h1 : (Lit.int .u8 a1).wf = true) : ∃ k, armillarylaw29_QuorumDuplicates.f k a0 a1 = some true := by
  refine ⟨300, ?_⟩
  obtain ⟨n1, n2⟩ := dup.num13 h0.2.1
  have ha := dup.wf_u8 h1
  obtain ⟨n, hn⟩ : ∃ n, W .i64 (1 + W .i64 (a0.f1.tmod 13)) = n := ⟨_, rfl⟩
  rw [hn] at n1 n2
  obtain ⟨L, hL1, hL2, hL3⟩ := madeAll_ok a0.f0 (fun m hm => dup.wf_u32 (h0.1 m hm).2.2.2.2.1) n1 n2
  have e1 : armillarylaw29_made.f 300 a0 = some (L, n, (⟨(bAnd .i64 a0.f2.f0 255).tmod 4, (bAnd .i64 a0.f2.f1 255).tmod 3⟩ : S24)) := by
    unfold armillarylaw29_made.f
    rw [hn, hL1 199, Option.bind_some]
  obtain ⟨at_, hat⟩ : ∃ at_ : S24, (⟨(bAnd .i64 a0.f2.f0 255).tmod 4, (bAnd .i64 a0.f2.f1 255).tmod 3⟩ : S24) = at_ := ⟨_, rfl⟩
  rw [hat] at e1
  obtain ⟨hd, hhd⟩ : ∃ hd : List S32, [(⟨0, 0, 0, 0, 0, (⟨0, (⟨#[]⟩ : ByteArray), []⟩ : S30)⟩ : S32), (⟨2, n, at_.f0, at_.f1, 0, (⟨0, (⟨#[]⟩ : ByteArray), []⟩ : S30)⟩ : S32)] = hd := ⟨_, rfl⟩
  obtain ⟨T, hT⟩ : ∃ T, tw a1 L hd L.length = T := ⟨_, rfl⟩
  have hl := loop_eq (hd := hd) hL2 (by rw [← hhd]; simp) ha L.length 0 (299 - L.length) (by omega)
  rw [show 299 - L.length + 1 + L.length = 300 from by omega, show ((0 : Nat) : Int) = 0 from rfl, hT] at hl
  have hhv : ∀ x ∈ hd, ∀ k, quorum_group_valid.f k n x = some false := fun x hx k => by
    rw [← hhd] at hx
    simp only [List.mem_cons, List.not_mem_nil, or_false] at hx
    rcases hx with rfl | rfl
    · exact zero_bad n1 n2 k
    · exact from_bad n1 n2 k _ _ _ _ _
  have valL : ∀ m ∈ L, ∀ k, quorum_group_valid.f (k + 60) n m = some (vbN 300 n m) := fun m hm => valid_all ⟨_, hL3 m hm⟩
  have vtL : ∀ m ∈ L, vbN 300 n m = true := fun m hm => by unfold vbN; rw [hL3 m hm 240]; rfl
  have vfB : ∀ x, quorum_group_valid.f 300 n x = some false → vbN 300 n x = false := fun x h => by unfold vbN; rw [h]; rfl
  have memT : ∀ i ≤ L.length, ∀ m ∈ tw a1 L hd i, ∀ k, quorum_group_valid.f (k + 60) n m = some (vbN 300 n m) := by
    intro i
    induction i with
    | zero => intro _ m hm k; exact valid_all ⟨false, fun k => hhv m hm _⟩ k
    | succ i ih =>
      intro hi m hm k
      obtain ⟨y, hy, hc⟩ := chunk_eq ha.1 (show i < L.length by omega)
      rw [tw, hc] at hm
      simp only [List.mem_append, List.mem_cons, List.not_mem_nil, or_false] at hm
      rcases hm with hm | rfl | rfl | rfl | rfl
      · exact ih (by omega) m hm k
      · exact valL _ (List.getElem_mem _) k
      · exact valL _ (List.getElem_mem _) k
      · exact valL _ (List.mem_of_mem_take hy) k
      · exact valid_all ⟨false, fun k => view_bad n1 n2 _ _⟩ k
  have valT : ∀ m ∈ T, ∀ k, quorum_group_valid.f (k + 60) n m = some (vbN 300 n m) := by rw [← hT]; exact memT _ (Nat.le_refl _)
  have lenT : T.length ≤ 230 := by rw [← hT, tw_len, ← hhd]; simp; omega
  have vL : ∀ m ∈ L, ∃ b, quorum_group_valid.f 300 n m = some b := fun m hm => ⟨_, valL m hm 240⟩
  have vT : ∀ m ∈ T, ∃ b, quorum_group_valid.f 300 n m = some b := fun m hm => ⟨_, valT m hm 240⟩
  have hbv : ∀ x ∈ L, vbN 300 n (bad x) = false := fun x _ => vfB _ (view_bad n1 n2 300 x)
  have hhb : ∀ x ∈ hd, vbN 300 n x = false := fun x hx => vfB _ (hhv x hx 300)
  have hcnt : cntP (vbN 300 n) T [] = cntP (vbN 300 n) L [] := by
    have := (tw_cnt (V := vbN 300 n) (hd := hd) ha.1 vtL hbv hhb L.length (Nat.le_refl _)).1
    rwa [hT, List.take_length] at this
  have hdec : ∀ a v q, decN 300 n T a v q = decN 300 n L a v q := fun a v q => by unfold decN; rw [hcnt]
  have hD2 : decN 300 n T 2 = decN 300 n L 2 := funext fun v => funext fun q => hdec 2 v q
  have hfold : ∀ st, T.foldl (hstep (vbN 300 n) (decN 300 n T 2) at_) st = L.foldl (hstep (vbN 300 n) (decN 300 n L 2) at_) st := fun st => by
    have := tw_fold (V := vbN 300 n) (D := decN 300 n L 2) (at_ := at_) (hd := hd) ha.1 hbv hhb st L.length (Nat.le_refl _)
    rw [hT, List.take_length] at this
    rw [hD2]
    exact this
  unfold armillarylaw29_QuorumDuplicates.f
  rw [sane7, Option.bind_some, e1, Option.bind_some]
  simp only [hhd]
  rw [show tw a1 L hd 0 = hd from rfl] at hl
  rw [hl, Option.bind_some]
  unfold armillarylaw29_QuorumDuplicates.k2
  simp only
  rw [prepared_dec n1 n2 vL, Option.bind_some, prepared_dec n1 n2 vT, Option.bind_some, committed_dec n1 n2 vL, Option.bind_some, committed_dec n1 n2 vT, Option.bind_some, highest_eq n1 n2 (by omega) valL, Option.bind_some, highest_eq n1 n2 lenT valT, Option.bind_some, hdec, hdec, hfold]
  simp only [if_true, beq_self_eq_true, same_refl, Option.bind_some]
  rfl
end Go.Proofs.Ytieakigoinebdaa
