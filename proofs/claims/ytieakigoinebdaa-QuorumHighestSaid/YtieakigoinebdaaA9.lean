/- The law QuorumHighest, in plain words: the entry that HighestPrepared returns is the one of the latest earlier view that is prepared; conditions: the fields of the argument fit their kinds. -/
import Derived.Test.YtieakigoinebdaaO
import Derived.Test.YtieakigoinebdaaP
import Derived.Test.YtieakigoinebdaaG9
namespace Go.Proofs.Ytieakigoinebdaa.high
open Go Go.Proofs.Ytieakigoinebdaa Go.Proofs.Ytieakigoinebdaa.RW
set_option linter.unusedVariables false
set_option maxRecDepth 1000000
theorem sane9 : armillarylaw29_sanity.f 300 = some true := by kernel_rfl
theorem wf_u32 {x : Int} (h : (Lit.int .u32 x).wf = true) : 0 ≤ x := by
  have : 0 ≤ x ∧ x ≤ 4294967295 := by simpa [Lit.wf, IntKind.min, IntKind.max, IntKind.signed, IntKind.bits] using h
  exact this.1
theorem num13 {x : Int} (h : (Lit.int .u8 x).wf = true) : 1 ≤ W .i64 (1 + W .i64 (x.tmod 13)) ∧ W .i64 (1 + W .i64 (x.tmod 13)) ≤ 13 := by
  have : 0 ≤ x ∧ x ≤ 255 := by simpa [Lit.wf, IntKind.min, IntKind.max, IntKind.signed, IntKind.bits] using h
  rw [Int.tmod_eq_emod_of_nonneg this.1, W64 (n := x % 13) (by omega) (by omega), W64 (by omega) (by omega)]
  omega
theorem same_any (a b : S30) : ∃ c, armillaryref29_Same.f a b = some c := by
  have h : ∃ c, armillaryref27_Same.f a b = some c := by
    unfold armillaryref27_Same.f
    split
    · split
      · exact ⟨_, rfl⟩
      · exact ⟨_, rfl⟩
    · exact ⟨_, rfl⟩
  obtain ⟨c, h⟩ := h
  refine ⟨c, ?_⟩
  unfold armillaryref29_Same.f
  rw [h]
  rfl
/-! ### the part of the list that matters -/
def pk (at_ : S24) (m : S32) : Bool := decide (m.f3 = at_.f1) && decide (m.f2 < at_.f0)
theorem pk_key {at_ : S24} {x y : S32} (h : vkey x = vkey y) : pk at_ x = pk at_ y := by
  unfold vkey at h
  injection h with _ h
  injection h with _ h
  injection h with h1 h2
  unfold pk
  rw [h1, h2]
theorem cntP_part (V : S32 → Bool) (at_ : S24) : ∀ (l : List S32) (s s' : List (VK × Bool)), (∀ x, pk at_ x = true → (mget s' (vkey x)).getD false = (mget s (vkey x)).getD false) → cntP V (l.filter (pk at_)) s' = (cntP V l s).filter (pk at_)
  | [], _, _, _ => rfl
  | m :: r, s, s', h => by
    cases hp : pk at_ m with
    | true =>
      rw [List.filter_cons_of_pos (by rw [hp])]
      simp only [cntP]
      rw [h m hp]
      split
      · exact cntP_part V at_ r s s' h
      · split
        · rw [List.filter_cons_of_pos (by rw [hp])]
          congr 1
          refine cntP_part V at_ r _ _ (fun x hx => ?_)
          by_cases e : vkey x = vkey m
          · rw [e, mput_get, mput_get]
          · rw [mput_other _ _ _ _ e, mput_other _ _ _ _ e]; exact h x hx
        · exact cntP_part V at_ r s s' h
    | false =>
      rw [List.filter_cons_of_neg (by rw [hp]; decide)]
      simp only [cntP]
      split
      · exact cntP_part V at_ r s s' h
      · split
        · rw [List.filter_cons_of_neg (by rw [hp]; decide)]
          refine cntP_part V at_ r _ _ (fun x hx => ?_)
          have e : vkey x ≠ vkey m := fun e => by rw [pk_key e, hp] at hx; cases hx
          rw [mput_other _ _ _ _ e]
          exact h x hx
        · exact cntP_part V at_ r s s' h
theorem cntB_part (at_ : S24) (a v q s : Int) (hv : v < at_.f0) (hq : q = at_.f1) (c : List S32) : cntB (a, v, q, s) (c.filter (pk at_)) = cntB (a, v, q, s) c := by
  unfold cntB
  rw [List.filter_filter]
  congr 1
  refine List.filter_congr ?_
  intro x _
  by_cases h : bkey x = (a, v, q, s)
  · have hk : pk at_ x = true := by
      unfold bkey at h
      injection h with _ h
      injection h with h1 h
      injection h with h2 _
      unfold pk
      rw [h1, h2]
      simp [hv, hq]
    simp [h, hk]
  · simp [h]
theorem decN_part {n : Int} (h1 : 1 ≤ n) (h2 : n ≤ 13) (l : List S32) (at_ : S24) (a v q : Int) (hv : v < at_.f0) (hq : q = at_.f1) : decN 300 n (l.filter (pk at_)) a v q = decN 300 n l a v q := by
  have e : ∀ s, decN 300 n (l.filter (pk at_)) a v q = some s ↔ decN 300 n l a v q = some s := fun s => by
    rw [decN_iff h1 h2, decN_iff h1 h2, cntP_part (vbN 300 n) at_ l [] [] (fun _ _ => rfl), cntB_part at_ a v q s hv hq]
  cases h : decN 300 n l a v q with
  | some s => exact (e s).2 h
  | none =>
    cases h' : decN 300 n (l.filter (pk at_)) a v q with
    | none => rfl
    | some s => rw [(e s).1 h'] at h; cases h
theorem fold_part (V : S32 → Bool) (D D' : Int → Int → Option Int) (at_ : S24) (hD : ∀ v q, v < at_.f0 → q = at_.f1 → D' v q = D v q) : ∀ (l : List S32) (st : S30 × Int), (l.filter (pk at_)).foldl (hstep V D' at_) st = l.foldl (hstep V D at_) st
  | [], _ => rfl
  | m :: r, st => by
    cases hp : pk at_ m with
    | true =>
      have hq : m.f3 = at_.f1 ∧ m.f2 < at_.f0 := by simpa [pk] using hp
      have hHC : HC V D' at_ m ↔ HC V D at_ m := by
        unfold HC
        rw [hD _ _ hq.2 hq.1]
      have hst : hstep V D' at_ st m = hstep V D at_ st m := by
        unfold hstep
        by_cases h : HC V D at_ m ∧ st.2 < m.f2
        · rw [if_pos h, if_pos (show HC V D' at_ m ∧ st.2 < m.f2 from ⟨hHC.2 h.1, h.2⟩)]
        · rw [if_neg h, if_neg (show ¬ (HC V D' at_ m ∧ st.2 < m.f2) from fun hh => h ⟨hHC.1 hh.1, hh.2⟩)]
      rw [List.filter_cons_of_pos (by rw [hp]), List.foldl_cons, List.foldl_cons, hst]
      exact fold_part V D D' at_ hD r _
    | false =>
      rw [List.filter_cons_of_neg (by rw [hp]; decide), List.foldl_cons, hstep_skip (V := V) (D := D) (at_ := at_) (st := st) (m := m) (fun hc => by
        have : pk at_ m = true := by unfold pk; simp [hc.2.1, hc.2.2.1]
        rw [this] at hp; cases hp)]
      exact fold_part V D D' at_ hD r st
theorem fold_shape (V : S32 → Bool) (D : Int → Int → Option Int) (at_ : S24) : ∀ (l : List S32) (st : S30 × Int), l.foldl (hstep V D at_) st = st ∨ ∃ m ∈ l, HC V D at_ m ∧ st.2 < m.f2 ∧ l.foldl (hstep V D at_) st = (m.f5, m.f2)
  | [], _ => Or.inl rfl
  | m :: r, st => by
    rw [List.foldl_cons]
    by_cases h : HC V D at_ m ∧ st.2 < m.f2
    · have e : hstep V D at_ st m = (m.f5, m.f2) := by unfold hstep; rw [if_pos h]
      rw [e]
      rcases fold_shape V D at_ r (m.f5, m.f2) with h1 | ⟨x, hx, hc, hl, h1⟩
      · exact Or.inr ⟨m, List.mem_cons_self, h.1, h.2, h1⟩
      · exact Or.inr ⟨x, List.mem_cons_of_mem _ hx, hc, Int.lt_trans h.2 hl, h1⟩
    · have e : hstep V D at_ st m = st := by unfold hstep; rw [if_neg h]
      rw [e]
      rcases fold_shape V D at_ r st with h1 | ⟨x, hx, hc, hl, h1⟩
      · exact Or.inl h1
      · exact Or.inr ⟨x, List.mem_cons_of_mem _ hx, hc, hl, h1⟩
/-! ### the law's first loop -/
theorem max_step {V : S32 → Bool} {D : Int → Int → Option Int} {at_ : S24} {st : S30 × Int} {m : S32} : (if HC V D at_ m then iMax st.2 m.f2 else st.2) = (hstep V D at_ st m).2 := by
  unfold hstep iMax
  by_cases h : HC V D at_ m
  · by_cases h2 : st.2 < m.f2
    · rw [if_pos h, if_pos (show HC V D at_ m ∧ st.2 < m.f2 from ⟨h, h2⟩), if_pos (show m.f2 > st.2 from h2)]
    · rw [if_pos h, if_neg (show ¬ (HC V D at_ m ∧ st.2 < m.f2) from fun hh => h2 hh.2), if_neg (show ¬ (m.f2 > st.2) from h2)]
  · rw [if_neg h, if_neg (show ¬ (HC V D at_ m ∧ st.2 < m.f2) from fun hh => h hh.1)]
theorem hc_chain (v : Bool) (D : Int → Int → Option Int) (V : S32 → Bool) (at_ : S24) (m : S32) (hv : v = V m) : ∃ b, (if m.f0 = 1 then if m.f3 = at_.f1 then if m.f2 < at_.f0 then if (D m.f2 at_.f1).isSome = true then if (D m.f2 at_.f1).getD 0 = m.f4 then (some v).bind fun t9 => some t9 else some false else some false else some false else some false else some false) = some b ∧ (b = true ↔ HC V D at_ m) := by
  unfold HC
  by_cases c1 : m.f0 = 1
  · by_cases c2 : m.f3 = at_.f1
    · by_cases c3 : m.f2 < at_.f0
      · rw [if_pos c1, if_pos c2, if_pos c3, ← c2]
        cases hdd : D m.f2 m.f3 with
        | none => exact ⟨false, rfl, by simp⟩
        | some s =>
          by_cases c4 : s = m.f4
          · refine ⟨v, by simp [c4], ?_⟩
            rw [hv]
            simp [c1, c2, c3, c4]
          · exact ⟨false, by simp [c4], by simp [c4]⟩
      · exact ⟨false, by simp [c3], by simp [c3]⟩
    · exact ⟨false, by simp [c2], by simp [c2]⟩
  · exact ⟨false, by simp [c1], by simp [c1]⟩
theorem loop2 {n : Int} (h1 : 1 ≤ n) (h2 : n ≤ 13) {L : List S32} {at_ : S24} (hL : L.length ≤ 40) (hV : ∀ m ∈ L, ∀ k, quorum_group_valid.f (k + 60) n m = some (vbN 300 n m)) (hdec : ∀ k v, quorum_Prepared.f (k + 60) L n ⟨v, at_.f1⟩ = some ((decN 300 n L 2 v at_.f1).getD 0, (decN 300 n L 2 v at_.f1).isSome)) :
    ∀ (r i : Nat) (k : Nat) (st : S30 × Int) (p : List S32), i + r = L.length → p.length ≤ i → armillarylaw29_QuorumHighest.l2 (L, n, at_) (k + 61 + r) st.2 p (i : Int) = some (((L.drop i).foldl (hstep (vbN 300 n) (decN 300 n L 2) at_) st).2, p ++ (L.drop i).filter (pk at_)) := by
  intro r
  induction r with
  | zero =>
    intro i k st p hi hp
    rw [show k + 61 + 0 = (k + 60) + 1 from by omega]
    generalize k + 60 = K
    simp only [armillarylaw29_QuorumHighest.l2]
    rw [if_neg (by omega), List.drop_of_length_le (by omega)]
    simp
  | succ r ih =>
    intro i k st p hi hp
    have hil : i < L.length := by omega
    have hdrop : L.drop i = L[i] :: L.drop (i + 1) := List.drop_eq_getElem_cons hil
    have hget : L.getD (i : Int).toNat z32 = L[i] := by
      rw [Int.toNat_natCast, List.getD_eq_getElem?_getD, List.getElem?_eq_getElem hil]; rfl
    have hv := hV L[i] (List.getElem_mem hil) (k + 1 + r)
    have hd := hdec (k + 1 + r) L[i].f2
    rw [show (k + 1 + r) + 60 = k + 61 + r from by omega] at hv hd
    have hnext := fun p' hp' => ih (i + 1) k (hstep (vbN 300 n) (decN 300 n L 2) at_ st L[i]) p' (by omega) hp'
    rw [show k + 61 + (r + 1) = (k + 61 + r) + 1 from by omega]
    generalize k + 61 + r = K at hnext hv hd
    have hvv : quorum_Valid.f K L[i] n = some (vbN 300 n L[i]) := by unfold quorum_Valid.f; rw [hv]; rfl
    simp only [armillarylaw29_QuorumHighest.l2]
    rw [if_pos (by omega), if_pos (by omega), if_pos (by omega), hget]
    have e1 : (if L[i].f3 = at_.f1 then some (decide (L[i].f2 < at_.f0)) else some false) = some (pk at_ L[i]) := by
      unfold pk
      split <;> simp [*]
    rw [e1, Option.bind_some]
    have e2 : (if pk at_ L[i] = true then (if (p.length + [L[i]].length) * 88 ≤ 140737488355328 then some (p ++ [L[i]]) else none) else some p) = some (if pk at_ L[i] = true then p ++ [L[i]] else p) := by
      split
      · rw [if_pos (by simp; omega)]
      · rfl
    rw [e2, Option.bind_some, hd, Option.bind_some]
    obtain ⟨b, e3, hb⟩ := hc_chain (vbN 300 n L[i]) (decN 300 n L 2) (vbN 300 n) at_ L[i] rfl
    rw [hvv, e3, Option.bind_some]
    have e4 : (if b = true then some (iMax st.2 L[i].f2) else some st.2) = some (hstep (vbN 300 n) (decN 300 n L 2) at_ st L[i]).2 := by
      rw [← max_step]
      by_cases h : HC (vbN 300 n) (decN 300 n L 2) at_ L[i]
      · rw [if_pos h, if_pos (hb.2 h)]
      · rw [if_neg h, if_neg (fun hh => h (hb.1 hh))]
    rw [e4, Option.bind_some, W64 (by omega) (by omega), show ((i : Int) + 1) = ((i + 1 : Nat) : Int) from by omega, hnext _ (by split <;> (try rw [List.length_append, List.length_singleton]) <;> omega), hdrop]
    congr 2
    cases hp : pk at_ L[i] with
    | true => rw [List.filter_cons_of_pos (by rw [hp])]; simp
    | false => rw [List.filter_cons_of_neg (by rw [hp]; decide)]; simp
/-! ### the law's second loop -/
theorem loop1 {n : Int} {L : List S32} {at_ : S24} {t3 : S30 × Bool} {best : Int} (hL : L.length ≤ 40) :
    ∀ (r i : Nat) (k : Nat) (b : Bool), i + r = L.length → (b = true ∨ ∃ m ∈ L.drop i, m.f0 = 1 ∧ m.f2 = best ∧ m.f3 = at_.f1 ∧ m.f5 = t3.1) → armillarylaw29_QuorumHighest.l1 (L, n, at_) t3 best (k + 1 + r) b (i : Int) = some true := by
  intro r
  induction r with
  | zero =>
    intro i k b hi hb
    rw [show k + 1 + 0 = k + 1 from rfl]
    simp only [armillarylaw29_QuorumHighest.l1]
    rw [if_neg (by omega)]
    rcases hb with hb | ⟨m, hm, _⟩
    · rw [hb]
    · rw [List.drop_of_length_le (by omega)] at hm; cases hm
  | succ r ih =>
    intro i k b hi hb
    have hil : i < L.length := by omega
    have hdrop : L.drop i = L[i] :: L.drop (i + 1) := List.drop_eq_getElem_cons hil
    have hget : L.getD (i : Int).toNat z32 = L[i] := by
      rw [Int.toNat_natCast, List.getD_eq_getElem?_getD, List.getElem?_eq_getElem hil]; rfl
    have hnext := fun b' => ih (i + 1) k b' (by omega)
    rw [show k + 1 + (r + 1) = (k + 1 + r) + 1 from by omega]
    generalize k + 1 + r = K at hnext
    have a1 : (i : Int) < (L.length : Int) := by omega
    have a2 : 0 ≤ (i : Int) := by omega
    simp only [armillarylaw29_QuorumHighest.l1]
    rw [if_pos a1, hget, W64 (by omega) (by omega), show ((i : Int) + 1) = ((i + 1 : Nat) : Int) from by omega]
    simp only [if_pos a1, if_pos a2]
    cases hbb : b with
    | true => rw [if_pos rfl, Option.bind_some]; exact hnext true (Or.inl rfl)
    | false =>
      rw [if_neg (by decide)]
      have hb' : ∃ m ∈ L.drop i, m.f0 = 1 ∧ m.f2 = best ∧ m.f3 = at_.f1 ∧ m.f5 = t3.1 := by
        rcases hb with hb | hb
        · rw [hbb] at hb; cases hb
        · exact hb
      obtain ⟨c, hc⟩ := same_any L[i].f5 t3.1
      rw [hdrop] at hb'
      obtain ⟨m, hm, m1, m2, m3, m4⟩ := hb'
      rcases List.mem_cons.1 hm with rfl | hm
      · rw [if_pos m1, if_pos m2, if_pos m3, m4, same_refl]
        exact hnext true (Or.inl rfl)
      · have hr : ∀ b', armillarylaw29_QuorumHighest.l1 (L, n, at_) t3 best K b' ((i + 1 : Nat) : Int) = some true := fun b' => hnext b' (Or.inr ⟨m, hm, m1, m2, m3, m4⟩)
        rw [hc]
        split
        · split
          · split
            · exact hr c
            · exact hr false
          · exact hr false
        · exact hr false
end Go.Proofs.Ytieakigoinebdaa.high
namespace Go.Proofs.Ytieakigoinebdaa
open Go Go.Proofs.Ytieakigoinebdaa.RW high
set_option linter.unusedVariables false
theorem armillarylaw29_QuorumHighest_holds (a0 : S26) (h0 : p26 a0) : ∃ k, armillarylaw29_QuorumHighest.f k a0 = some true := by
  refine ⟨300, ?_⟩
  obtain ⟨n1, n2⟩ := high.num13 h0.2.1
  obtain ⟨n, hn⟩ : ∃ n, W .i64 (1 + W .i64 (a0.f1.tmod 13)) = n := ⟨_, rfl⟩
  rw [hn] at n1 n2
  obtain ⟨L, hL1, hL2, hL3⟩ := madeAll_ok a0.f0 (fun m hm => high.wf_u32 (h0.1 m hm).2.2.2.2.1) n1 n2
  have e1 : armillarylaw29_made.f 300 a0 = some (L, n, (⟨(bAnd .i64 a0.f2.f0 255).tmod 4, (bAnd .i64 a0.f2.f1 255).tmod 3⟩ : S24)) := by
    unfold armillarylaw29_made.f
    rw [hn, hL1 199, Option.bind_some]
  obtain ⟨at_, hat⟩ : ∃ at_ : S24, (⟨(bAnd .i64 a0.f2.f0 255).tmod 4, (bAnd .i64 a0.f2.f1 255).tmod 3⟩ : S24) = at_ := ⟨_, rfl⟩
  rw [hat] at e1
  have valL : ∀ m ∈ L, ∀ k, quorum_group_valid.f (k + 60) n m = some (vbN 300 n m) := fun m hm => valid_all ⟨_, hL3 m hm⟩
  have vbk : ∀ k, ∀ m ∈ L, vbN (k + 60) n m = vbN 300 n m := fun k m hm => by
    unfold vbN
    rw [hL3 m hm k, hL3 m hm 240]
  have dk : ∀ k v q, decN (k + 60) n L 2 v q = decN 300 n L 2 v q := fun k v q => by
    have hc : ∀ (l : List S32) (s : List (VK × Bool)), (∀ m ∈ l, m ∈ L) → cntP (vbN (k + 60) n) l s = cntP (vbN 300 n) l s := by
      intro l
      induction l with
      | nil => intro s _; simp only [cntP]
      | cons m r ih =>
        intro s h
        simp only [cntP]
        rw [vbk k m (h m List.mem_cons_self), ih s (fun x hx => h x (List.mem_cons_of_mem _ hx)), ih (mput s (vkey m) true) (fun x hx => h x (List.mem_cons_of_mem _ hx))]
    unfold decN
    rw [hc L [] (fun _ h => h)]
  have hprep : ∀ k v, quorum_Prepared.f (k + 60) L n ⟨v, at_.f1⟩ = some ((decN 300 n L 2 v at_.f1).getD 0, (decN 300 n L 2 v at_.f1).isSome) := fun k v => by
    rw [prepared_dec n1 n2 (fun m hm => ⟨_, valL m hm k⟩), dk]
  obtain ⟨F, hF⟩ : ∃ F, L.foldl (hstep (vbN 300 n) (decN 300 n L 2) at_) ((⟨0, ⟨#[]⟩, []⟩ : S30), (-1 : Int)) = F := ⟨_, rfl⟩
  have hl2 := loop2 (at_ := at_) n1 n2 hL2 valL hprep L.length 0 (239 - L.length) ((⟨0, ⟨#[]⟩, []⟩ : S30), (-1 : Int)) [] (by omega) (Nat.le_refl _)
  rw [show 239 - L.length + 61 + L.length = 300 from by omega, show ((0 : Nat) : Int) = 0 from rfl, List.drop_zero, hF, List.nil_append] at hl2
  have hh := highest_eq n1 n2 (by omega) valL at_
  rw [hF] at hh
  have hpart := highest_eq n1 n2 (l := L.filter (pk at_)) (by have := List.length_filter_le (pk at_) L; omega) (fun m hm => valL m (List.mem_filter.1 hm).1) at_
  rw [fold_part (vbN 300 n) (decN 300 n L 2) (decN 300 n (L.filter (pk at_)) 2) at_ (fun v q hv hq => decN_part n1 n2 L at_ 2 v q hv hq) L, hF] at hpart
  have hsh := fold_shape (vbN 300 n) (decN 300 n L 2) at_ L ((⟨0, ⟨#[]⟩, []⟩ : S30), (-1 : Int))
  rw [hF] at hsh
  have hl1 := loop1 (n := n) (at_ := at_) (t3 := (F.1, decide (F.2 ≥ 0))) (best := F.2) hL2 L.length 0 (299 - L.length) (!(decide (F.2 ≥ 0))) (by omega) (by
    rcases hsh with h | ⟨m, hm, hc, hl, h⟩
    · left
      have e : F.2 = -1 := congrArg Prod.snd h
      rw [e]
      decide
    · right
      exact ⟨m, hm, hc.1, (congrArg Prod.snd h).symm, hc.2.1, (congrArg Prod.fst h).symm⟩)
  rw [show 299 - L.length + 1 + L.length = 300 from by omega, show ((0 : Nat) : Int) = 0 from rfl] at hl1
  unfold armillarylaw29_QuorumHighest.f
  rw [sane9, Option.bind_some, e1, Option.bind_some]
  simp only [hh, Option.bind_some]
  rw [hl2, Option.bind_some]
  unfold armillarylaw29_QuorumHighest.k4
  simp only [beq_self_eq_true, if_true]
  rw [hl1, Option.bind_some]
  unfold armillarylaw29_QuorumHighest.k2
  simp only [hpart, Option.bind_some, if_true, beq_self_eq_true, same_refl]
  have k1t : armillarylaw29_QuorumHighest.k1 true = some true := by unfold armillarylaw29_QuorumHighest.k1; rfl
  rcases hsh with h | ⟨m, hm, hc, hl, h⟩
  · subst h
    simp only [same_refl, Option.bind_some, if_true, k1t, ite_self]
  · have : decide (F.2 ≥ 0) = true := by
      have h2 : F.2 = m.f2 := congrArg Prod.snd h
      have h3 : -1 < m.f2 := hl
      rw [h2]
      exact decide_eq_true (by omega)
    rw [this, if_pos rfl, Option.bind_some, k1t]
end Go.Proofs.Ytieakigoinebdaa
