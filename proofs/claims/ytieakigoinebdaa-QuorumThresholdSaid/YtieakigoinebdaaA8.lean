/- The law QuorumThreshold, in plain words: votes of k replicas for one sum are decisive just where k is a quorum; conditions: the fields of the argument fit their kinds. -/
import Derived.Test.YtieakigoinebdaaO
import Derived.Test.YtieakigoinebdaaP
import Derived.Test.YtieakigoinebdaaG8
namespace Go.Proofs.Ytieakigoinebdaa.threshold
open Go Go.Proofs.Ytieakigoinebdaa Go.Proofs.Ytieakigoinebdaa.RW
set_option linter.unusedVariables false
set_option maxRecDepth 1000000
theorem sane8 : armillarylaw29_sanity.f 300 = some true := by kernel_rfl
theorem wf_u8 {x : Int} (h : (Lit.int .u8 x).wf = true) : 0 ≤ x ∧ x ≤ 255 := by simpa [Lit.wf, IntKind.min, IntKind.max, IntKind.signed, IntKind.bits] using h
theorem num13 {x : Int} (h : (Lit.int .u8 x).wf = true) : 1 ≤ W .i64 (1 + W .i64 (x.tmod 13)) ∧ W .i64 (1 + W .i64 (x.tmod 13)) ≤ 13 := by
  have := wf_u8 h
  rw [Int.tmod_eq_emod_of_nonneg this.1, W64 (n := x % 13) (by omega) (by omega), W64 (by omega) (by omega)]
  omega
def mk (kd v s o : Int) (i : Nat) : S32 := ⟨kd, (i : Int), 2, 1, if (i : Int) ≥ v then o else s, ⟨0, ⟨#[]⟩, []⟩⟩
theorem mk_valid {k : Nat} {n kd v s o : Int} (h1 : 1 ≤ n) (h2 : n ≤ 13) (hk : kd = 2 ∨ kd = 3) (i : Nat) (hi : (i : Int) < n) : quorum_group_valid.f k n (mk kd v s o i) = some true := by
  rw [valid_in h1 h2 (show (0 : Int) ≤ (i : Int) by omega) hi (show (0 : Int) ≤ 2 by decide) (show (2 : Int) ≤ 2 by decide) (show (0 : Int) ≤ 1 by decide) (show (1 : Int) ≤ 2 by decide)]
  unfold quorum_group_valid.k4
  simp only [Bool.false_eq_true, if_false]
  have e1 : ¬ (mk kd v s o i).f0 = 1 := by show ¬ kd = 1; omega
  have e2 : (if (mk kd v s o i).f0 = 2 then some ((mk kd v s o i).f0 == 2) else some ((mk kd v s o i).f0 == 3)) = some true := by
    show (if kd = 2 then some (kd == 2) else some (kd == 3)) = some true
    rcases hk with rfl | rfl <;> rfl
  rw [if_neg e1, e2, Option.bind_some]
  unfold quorum_group_valid.k3
  simp only [if_true]
  rw [bare_z _ rfl]
  rfl
theorem cntP_all (vb : S32 → Bool) : ∀ (l : List S32) (seen : List (VK × Bool)), (∀ x ∈ l, vb x = true) → l.Pairwise (fun x y => vkey x ≠ vkey y) → (∀ x ∈ l, (mget seen (vkey x)).getD false = false) → cntP vb l seen = l
  | [], _, _, _, _ => rfl
  | m :: r, seen, hv, hp, hs => by
    obtain ⟨h1, h2⟩ := List.pairwise_cons.1 hp
    simp only [cntP]
    rw [if_neg (by rw [hs m List.mem_cons_self]; decide), if_pos (hv m List.mem_cons_self), cntP_all vb r _ (fun x hx => hv x (List.mem_cons_of_mem _ hx)) h2 (fun x hx => by
      rw [mput_other _ _ _ _ (fun e => h1 x hx e.symm)]
      exact hs x (List.mem_cons_of_mem _ hx))]
theorem mk_pair (kd v s o : Int) (n : Nat) : ((List.range n).map (mk kd v s o)).Pairwise (fun x y => vkey x ≠ vkey y) := by
  rw [List.pairwise_map]
  refine List.Pairwise.imp ?_ List.nodup_range
  intro a b hab e
  unfold vkey mk at e
  injection e with _ e
  injection e with e _
  have e2 : (a : Int) = (b : Int) := e
  exact hab (by omega)
/-- The list that the law makes. -/
theorem loop_eq {a0 : S59} {n v kd : Int} (hn : W .i64 (1 + (W .i64 (a0.f0.tmod 13))) = n) (hv : ((W .i64 (a0.f1)).tmod (W .i64 (n + 1))) = v) (hk : kd = if a0.f2 = true then 3 else 2) (N : Nat) (hN : (N : Int) = n) (hN2 : N ≤ 13) :
    ∀ (r i : Nat) (k : Nat), i + r = N → armillarylaw29_QuorumThreshold.l1 a0 (k + 1 + r) ((List.range i).map (mk kd v a0.f3 a0.f4)) (i : Int) = some ((List.range N).map (mk kd v a0.f3 a0.f4)) := by
  intro r
  induction r with
  | zero =>
    intro i k hi
    obtain rfl : i = N := by omega
    rw [show k + 1 + 0 = k + 1 from rfl]
    simp only [armillarylaw29_QuorumThreshold.l1]
    rw [hn, if_neg (by omega)]
  | succ r ih =>
    intro i k hi
    have hnext := ih (i + 1) k (by omega)
    rw [show k + 1 + (r + 1) = (k + 1 + r) + 1 from by omega]
    generalize k + 1 + r = K at hnext
    simp only [armillarylaw29_QuorumThreshold.l1]
    have e1 : (if a0.f2 = true then (some 3 : Option Int) else some 2) = some kd := by rw [hk]; split <;> rfl
    have e2 : (if (i : Int) ≥ v then some a0.f4 else some a0.f3) = some (if (i : Int) ≥ v then a0.f4 else a0.f3) := by split <;> rfl
    rw [hn, hv, if_pos (by omega), e1, Option.bind_some, e2, Option.bind_some, if_pos (by simp; omega), W64 (by omega) (by omega), show ((i : Int) + 1) = ((i + 1 : Nat) : Int) from by omega]
    rw [List.range_succ, List.map_append] at hnext
    exact hnext
theorem cntB_all (b : VK) (c : List S32) (h : ∀ x ∈ c, bkey x = b) : cntB b c = c.length := by
  unfold cntB
  rw [List.filter_eq_self.2 (fun x hx => by simpa using h x hx)]
theorem cntB_len (b : VK) (c : List S32) : cntB b c ≤ c.length := List.length_filter_le _ _
theorem cntB_none (b : VK) (c : List S32) (h : ∀ x ∈ c, bkey x ≠ b) : cntB b c = 0 := by
  unfold cntB
  rw [List.filter_eq_nil_iff.2 (fun x hx => by simpa using h x hx)]
  rfl
theorem decN_all {n : Int} (h1 : 1 ≤ n) (h2 : n ≤ 13) (l : List S32) (hc : cntP (vbN 300 n) l [] = l) (a v q s : Int) : decN 300 n l a v q = some s ↔ (qsz n) ≤ (cntB (a, v, q, s) l : Int) := by
  rw [decN_iff h1 h2, hc]
end Go.Proofs.Ytieakigoinebdaa.threshold
namespace Go.Proofs.Ytieakigoinebdaa
open Go Go.Proofs.Ytieakigoinebdaa.RW threshold
set_option linter.unusedVariables false
theorem armillarylaw29_QuorumThreshold_holds (a0 : S59) (h0 : p59 a0) : ∃ k, armillarylaw29_QuorumThreshold.f k a0 = some true := by
  refine ⟨300, ?_⟩
  obtain ⟨n1, n2⟩ := threshold.num13 h0.1
  obtain ⟨b1, b2⟩ := threshold.wf_u8 h0.2.1
  obtain ⟨n, hn⟩ : ∃ n, W .i64 (1 + W .i64 (a0.f0.tmod 13)) = n := ⟨_, rfl⟩
  rw [hn] at n1 n2
  have hw : W .i64 (n + 1) = n + 1 := W64 (by omega) (by omega)
  obtain ⟨v, hv⟩ : ∃ v, ((W .i64 (a0.f1)).tmod (W .i64 (n + 1))) = v := ⟨_, rfl⟩
  have hv1 : 0 ≤ v ∧ v ≤ n := by
    rw [hw, W64 (by omega) (by omega), Int.tmod_eq_emod_of_nonneg b1] at hv
    have h3 := Int.emod_nonneg a0.f1 (b := n + 1) (by omega)
    have h4 := Int.emod_lt_of_pos a0.f1 (b := n + 1) (by omega)
    omega
  obtain ⟨kd, hk⟩ : ∃ kd : Int, kd = if a0.f2 = true then 3 else 2 := ⟨_, rfl⟩
  have hk2 : kd = 2 ∨ kd = 3 := by
    cases h : a0.f2 <;> rw [h] at hk <;> simp at hk <;> omega
  obtain ⟨N, hN⟩ : ∃ N : Nat, (N : Int) = n := ⟨n.toNat, by omega⟩
  obtain ⟨V, hV⟩ : ∃ V : Nat, (V : Int) = v := ⟨v.toNat, by omega⟩
  obtain ⟨L, hL⟩ : ∃ L, (List.range N).map (mk kd v a0.f3 a0.f4) = L := ⟨_, rfl⟩
  have hl := loop_eq (a0 := a0) (v := v) hn hv hk N hN (by omega) N 0 (299 - N) (by omega)
  rw [show 299 - N + 1 + N = 300 from by omega, hL, List.range_zero, List.map_nil, show ((0 : Nat) : Int) = 0 from rfl] at hl
  have hlen : L.length = N := by rw [← hL]; simp
  have hval : ∀ m ∈ L, quorum_group_valid.f 300 n m = some true := fun m hm => by
    rw [← hL] at hm
    obtain ⟨i, hi, rfl⟩ := List.mem_map.1 hm
    exact mk_valid n1 n2 hk2 i (by have := List.mem_range.1 hi; omega)
  have hpw : L.Pairwise (fun x y => vkey x ≠ vkey y) := by rw [← hL]; exact mk_pair _ _ _ _ _
  have hrp : rpart L 0 v = L.take V := by
    unfold rpart
    rw [← hV]
    simp
  have hmT : ∀ m ∈ L.take V, m ∈ L := fun m hm => List.mem_of_mem_take hm
  have cL : cntP (vbN 300 n) L [] = L := cntP_all _ L [] (fun x hx => by unfold vbN; simp [hval x hx]) hpw (fun _ _ => rfl)
  have cT : cntP (vbN 300 n) (L.take V) [] = L.take V := cntP_all _ _ [] (fun x hx => by unfold vbN; simp [hval x (hmT x hx)]) (hpw.sublist (List.take_sublist _ _)) (fun _ _ => rfl)
  have hTlen : (L.take V).length = V := by rw [List.length_take, hlen]; omega
  have hTsum : ∀ x ∈ L.take V, bkey x = (kd, 2, 1, a0.f3) := fun x hx => by
    rw [← hL, ← List.map_take, List.take_range] at hx
    obtain ⟨i, hi, rfl⟩ := List.mem_map.1 hx
    have := List.mem_range.1 hi
    show (kd, (2 : Int), (1 : Int), if (i : Int) ≥ v then a0.f4 else a0.f3) = _
    rw [if_neg (by omega)]
  have d1 : qsz n ≤ v → decN 300 n (L.take V) kd 2 1 = some a0.f3 := fun h => (decN_all n1 n2 _ cT kd 2 1 a0.f3).2 (by rw [cntB_all _ _ hTsum, hTlen]; omega)
  have d1n : ¬ qsz n ≤ v → decN 300 n (L.take V) kd 2 1 = none := fun h => by
    cases hd : decN 300 n (L.take V) kd 2 1 with
    | none => rfl
    | some s =>
      have h3 := (decN_all n1 n2 _ cT kd 2 1 s).1 hd
      have h4 := cntB_len (kd, 2, 1, s) (L.take V)
      omega
  have d2 : qsz n ≤ v → decN 300 n L kd 2 1 = some a0.f3 := fun h => by
    have := decN_append (k := 300) n1 n2 (L.take V) (L.drop V) (d1 h)
    rwa [List.take_append_drop] at this
  have d3 : decN 300 n L 2 2 0 = none := by
    cases hd : decN 300 n L 2 2 0 with
    | none => rfl
    | some s =>
      have h3 := (decN_all n1 n2 _ cL 2 2 0 s).1 hd
      rw [cntB_none _ _ (fun x hx e => by
        rw [← hL] at hx
        obtain ⟨i, _, rfl⟩ := List.mem_map.1 hx
        have := (bkey_eq.1 e).1
        unfold slotOf mk at this
        injection this with _ this
        injection this with _ this
        cases this)] at h3
      unfold qsz at h3
      omega
  have hm1 : (n - 1) / 3 < qsz n := by unfold qsz; omega
  have vL : ∀ m ∈ L, ∃ b, quorum_group_valid.f 300 n m = some b := fun m hm => ⟨_, hval m hm⟩
  have vT : ∀ m ∈ L.take V, ∃ b, quorum_group_valid.f 300 n m = some b := fun m hm => ⟨_, hval m (hmT m hm)⟩
  obtain ⟨s1, s2⟩ := size_eq n1 n2
  -- what the law's last part answers
  have last : ∀ (x4 : Option Int), (qsz n ≤ v → x4 = some a0.f3) → armillarylaw29_QuorumThreshold.k2 300 a0 true L ((decN 300 n (L.take V) kd 2 1).getD 0, (decN 300 n (L.take V) kd 2 1).isSome, x4.getD 0, x4.isSome) = some true := by
    intro x4 hx
    unfold armillarylaw29_QuorumThreshold.k2
    simp only [hn, hv]
    rw [prepared_dec n1 n2 vL, Option.bind_some, s1, Option.bind_some]
    simp only [d3, s2, Option.bind_some, Option.isSome_none, Bool.false_eq_true, if_false]
    by_cases h : qsz n ≤ v
    · rw [d1 h, hx h]
      have e : decide (v ≥ qsz n) = true := by simpa using h
      simp only [e, Option.isSome_some, beq_self_eq_true, if_true, Option.getD_some]
      rw [if_pos hm1]
      rfl
    · rw [d1n h]
      have e : decide (v ≥ qsz n) = false := by simpa using h
      simp only [e, Option.isSome_none, beq_self_eq_true, if_true, Bool.false_eq_true, if_false]
      rw [if_pos hm1]
      rfl
  unfold armillarylaw29_QuorumThreshold.f
  rw [sane8, Option.bind_some, hn, hw, if_neg (by omega), hl, Option.bind_some]
  unfold armillarylaw29_QuorumThreshold.k3
  rw [hn, hv, hrp, if_pos hv1.1, if_pos (by rw [hlen]; omega), prepared_dec n1 n2 vT, Option.bind_some, prepared_dec n1 n2 vL, Option.bind_some]
  cases hf : a0.f2 with
  | false =>
    rw [hf] at hk
    simp only [Bool.false_eq_true, if_false] at hk ⊢
    subst hk
    rw [Option.bind_some]
    exact last _ d2
  | true =>
    rw [hf] at hk
    simp only [if_true] at hk ⊢
    subst hk
    rw [if_pos hv1.1, if_pos (by rw [hlen]; omega), committed_dec n1 n2 vT, Option.bind_some, committed_dec n1 n2 vL, Option.bind_some, Option.bind_some]
    exact last _ d2
end Go.Proofs.Ytieakigoinebdaa
