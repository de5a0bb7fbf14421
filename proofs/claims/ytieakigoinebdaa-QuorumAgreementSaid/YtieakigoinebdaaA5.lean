/- The law QuorumAgreement, in plain words: two observers never see different decided sums; conditions: the fields of the arguments fit their kinds. -/
import Derived.Test.YtieakigoinebdaaO
import Derived.Test.YtieakigoinebdaaP
import Derived.Test.YtieakigoinebdaaG5
namespace Go.Proofs.Ytieakigoinebdaa.agree
open Go Go.Proofs.Ytieakigoinebdaa Go.Proofs.Ytieakigoinebdaa.RW
set_option linter.unusedVariables false
set_option maxRecDepth 1000000
theorem sane5 : armillarylaw29_sanity.f 300 = some true := by kernel_rfl
theorem wf_u8 {x : Int} (h : (Lit.int .u8 x).wf = true) : 0 ≤ x ∧ x ≤ 255 := by simpa [Lit.wf, IntKind.min, IntKind.max, IntKind.signed, IntKind.bits] using h
theorem wf_u32 {x : Int} (h : (Lit.int .u32 x).wf = true) : 0 ≤ x := by
  have : 0 ≤ x ∧ x ≤ 4294967295 := by simpa [Lit.wf, IntKind.min, IntKind.max, IntKind.signed, IntKind.bits] using h
  exact this.1
theorem num13 {x : Int} (h : (Lit.int .u8 x).wf = true) : 1 ≤ W .i64 (1 + W .i64 (x.tmod 13)) ∧ W .i64 (1 + W .i64 (x.tmod 13)) ≤ 13 := by
  have := wf_u8 h
  rw [Int.tmod_eq_emod_of_nonneg this.1, W64 (n := x % 13) (by omega) (by omega), W64 (by omega) (by omega)]
  omega
/-! ### counting -/
theorem nodup_sub : ∀ (J l : List Int), l.Nodup → (∀ x ∈ l, x ∈ J) → l.length ≤ J.length
  | [], l, _, h => by
    cases l with
    | nil => exact Nat.le_refl _
    | cons x r => exact absurd (h x List.mem_cons_self) (by simp)
  | j :: J, l, hn, h => by
    have h1 := nodup_sub J (l.erase j) (hn.erase j) (fun x hx => by
      obtain ⟨h2, h3⟩ := (hn.mem_erase_iff).1 hx
      rcases List.mem_cons.1 (h x h3) with e | e
      · exact absurd e h2
      · exact e)
    rw [List.length_cons]
    by_cases hj : j ∈ l
    · rw [List.length_erase_of_mem hj] at h1
      omega
    · rw [List.erase_of_not_mem hj] at h1
      omega
theorem filter_two (p : Int → Bool) (l : List Int) : (l.filter p).length + (l.filter (fun x => !p x)).length = l.length := by
  induction l with
  | nil => rfl
  | cons x r ih =>
    cases h : p x with
    | true => rw [List.filter_cons_of_pos (by rw [h]), List.filter_cons_of_neg (by rw [h]; decide), List.length_cons, List.length_cons]; omega
    | false => rw [List.filter_cons_of_neg (by rw [h]; decide), List.filter_cons_of_pos (by rw [h]; decide), List.length_cons, List.length_cons]; omega
/-- Two sets of voters with no honest one in common are small. -/
theorem two_sets {n f : Nat} (A B J : List Int) (hon : Int → Bool) (hA : A.Nodup) (hB : B.Nodup) (rA : ∀ x ∈ A, 0 ≤ x ∧ x < (n : Int)) (rB : ∀ x ∈ B, 0 ≤ x ∧ x < (n : Int)) (hJ : J.length ≤ f) (hf : ∀ x, 0 ≤ x → hon x = false → x ∈ J) (hd : ∀ x ∈ A, x ∈ B → hon x = false) : A.length + B.length ≤ n + f := by
  have h1 : ((A.filter hon ++ A.filter (fun x => !hon x)) ++ B.filter hon).length ≤ n := by
    refine nodup_bound n _ ?_ ?_
    · rw [List.nodup_append]
      refine ⟨?_, hB.filter _, ?_⟩
      · rw [List.nodup_append]
        refine ⟨hA.filter _, hA.filter _, fun a ha b hb e => ?_⟩
        have a1 := (List.mem_filter.1 ha).2
        have b1 := (List.mem_filter.1 hb).2
        rw [← e, a1] at b1
        cases b1
      · intro a ha b hb e
        have b1 := List.mem_filter.1 hb
        subst e
        rcases List.mem_append.1 ha with ha | ha
        · have a1 := List.mem_filter.1 ha
          rw [hd a a1.1 b1.1] at a1
          exact absurd a1.2 (by decide)
        · have a1 := List.mem_filter.1 ha
          rw [b1.2] at a1
          exact absurd a1.2 (by decide)
    · intro x hx
      rcases List.mem_append.1 hx with hx | hx
      · rcases List.mem_append.1 hx with hx | hx
        · exact rA x (List.mem_filter.1 hx).1
        · exact rA x (List.mem_filter.1 hx).1
      · exact rB x (List.mem_filter.1 hx).1
  have h2 : (B.filter (fun x => !hon x)).length ≤ J.length := nodup_sub J _ (hB.filter _) (fun x hx => by
    have b1 := List.mem_filter.1 hx
    exact hf x (rB x b1.1).1 (by simpa using b1.2))
  have h3 := filter_two hon A
  have h4 := filter_two hon B
  rw [List.length_append, List.length_append] at h1
  omega
/-! ### what an observer sees -/
def bent (x y : S32) : Prop := y.f0 = x.f0 ∧ y.f1 = x.f1 ∧ y.f2 = x.f2 ∧ y.f3 = x.f3 ∧ y.f5 = x.f5
def Seen (F : List Bool) (l out : List S32) : Prop := ∀ y ∈ out, y ∈ l ∨ ∃ x ∈ l, F.getD x.f1.toNat false = true ∧ bent x y
/-- Of one honest sender and one key: one message. -/
def One (F : List Bool) (l : List S32) : Prop := ∀ x ∈ l, ∀ y ∈ l, F.getD x.f1.toNat false = false → vkey x = vkey y → x = y
theorem voters {n : Int} {c : List S32} (h : Good n c) (kd v q s : Int) : ((c.filter fun x => decide (bkey x = (kd, v, q, s))).map (·.f1)).Nodup ∧ ∀ i ∈ ((c.filter fun x => decide (bkey x = (kd, v, q, s))).map (·.f1)), 0 ≤ i ∧ i < n := by
  constructor
  · have hp := h.1.sublist (List.filter_sublist (p := fun x => decide (bkey x = (kd, v, q, s))))
    unfold List.Nodup
    rw [List.pairwise_map]
    refine List.Pairwise.imp_of_mem ?_ hp
    intro a b ha hb hab e
    have a1 := of_decide_eq_true (List.mem_filter.1 ha).2
    have b1 := of_decide_eq_true (List.mem_filter.1 hb).2
    have a2 := (bkey_eq.1 a1).1
    have b2 := (bkey_eq.1 b1).1
    unfold slotOf at a2 b2
    injection a2 with a3 a4
    injection a4 with a4 a5
    injection b2 with b3 b4
    injection b4 with b4 b5
    refine hab ?_
    unfold vkey
    rw [a3, a4, a5, b3, b4, b5, e]
  · intro i hi
    obtain ⟨x, hx, rfl⟩ := List.mem_map.1 hi
    exact h.2 x (List.mem_filter.1 hx).1
theorem agree_on {n : Int} (h1 : 1 ≤ n) (h2 : n ≤ 13) {F : List Bool} {l a b : List S32} (hone : One F l) (ha : Seen F l a) (hb : Seen F l b) (J : List Int) (hJ : (J.length : Int) ≤ (n - 1) / 3) (hF : ∀ x, 0 ≤ x → F.getD x.toNat false = true → x ∈ J) {kd v q s t : Int}
    (hs : decN 300 n a kd v q = some s) (ht : decN 300 n b kd v q = some t) : s = t := by
  rw [decN_iff h1 h2] at hs ht
  have ga : Good n (cntP (vbN 300 n) a []) := cntP_good (fun x hx => vbN_rg x hx) a []
  have gb : Good n (cntP (vbN 300 n) b []) := cntP_good (fun x hx => vbN_rg x hx) b []
  obtain ⟨a1, a2⟩ := voters ga kd v q s
  obtain ⟨b1, b2⟩ := voters gb kd v q t
  refine Classical.byContradiction fun hne => ?_
  obtain ⟨N, hN⟩ : ∃ N : Nat, (N : Int) = n := ⟨n.toNat, by omega⟩
  have hsum := two_sets (n := N) (f := ((n - 1) / 3).toNat) _ _ J (fun i => !(F.getD i.toNat false)) a1 b1 (by rw [hN]; exact a2) (by rw [hN]; exact b2) (by omega) (fun x hx0 hx => hF x hx0 (by simpa using hx)) (fun i hi hi2 => by
    obtain ⟨x, hx, rfl⟩ := List.mem_map.1 hi
    obtain ⟨y, hy, hxy⟩ := List.mem_map.1 hi2
    have x1 := List.mem_filter.1 hx
    have y1 := List.mem_filter.1 hy
    have kx := bkey_eq.1 (of_decide_eq_true x1.2)
    have ky := bkey_eq.1 (of_decide_eq_true y1.2)
    have mx := (cntP_mem _ _ _ x x1.1).1
    have my := (cntP_mem _ _ _ y y1.1).1
    cases hh : F.getD x.f1.toNat false with
    | true => simp
    | false =>
      exfalso
      have hy1 : y.f1 = x.f1 := hxy
      have mxl : x ∈ l := by
        rcases ha x mx with h | ⟨z, hz, hz1, hz2⟩
        · exact h
        · rw [← hz2.2.1, hh] at hz1; cases hz1
      have myl : y ∈ l := by
        rcases hb y my with h | ⟨z, hz, hz1, hz2⟩
        · exact h
        · rw [← hz2.2.1, hy1, hh] at hz1; cases hz1
      have hv : vkey x = vkey y := by
        have e1 := kx.1
        have e2 := ky.1
        unfold slotOf at e1 e2
        injection e1 with e3 e4
        injection e4 with e4 e5
        injection e2 with f3 f4
        injection f4 with f4 f5
        unfold vkey
        rw [e3, e4, e5, f3, f4, f5, hy1]
      have := hone x mxl y myl hh hv
      rw [this] at kx
      exact hne (kx.2.symm.trans ky.2))
  have hs' : qsz n ≤ (((cntP (vbN 300 n) a []).filter fun x => decide (bkey x = (kd, v, q, s))).length : Int) := hs
  have ht' : qsz n ≤ (((cntP (vbN 300 n) b []).filter fun x => decide (bkey x = (kd, v, q, t))).length : Int) := ht
  rw [List.length_map, List.length_map] at hsum
  unfold qsz at hs' ht'
  omega
/-! ### a message with another sum -/
theorem valid_bent {K : Nat} {n : Int} {x y : S32} (h : quorum_group_valid.f K n x = some true) (hb : bent x y) : ∃ b, quorum_group_valid.f K n y = some b := by
  obtain ⟨b0, b1, b2, b3, b5⟩ := hb
  have hbare : quorum_bare.f y = quorum_bare.f x := by unfold quorum_bare.f; rw [b5]
  have k4 : quorum_group_valid.k4 K n x false = some true → ∃ b, quorum_group_valid.k4 K n y false = some b := by
    unfold quorum_group_valid.k4
    simp only [Bool.false_eq_true, if_false, b0, b1, b2, b5]
    by_cases c1 : x.f0 = 1
    · rw [if_pos c1, if_pos c1]
      cases h1 : codec_EncodeEntry.f K x.f5 with
      | none => intro h; cases h
      | some t1 =>
        simp only [Option.bind_some]
        by_cases c2 : t1.2 = 0
        · rw [if_pos c2, if_pos c2]
          cases h2 : quorum_Leader.f n x.f2 with
          | none => intro h; cases h
          | some t2 =>
            simp only [Option.bind_some]
            by_cases c3 : x.f1 = t2
            · rw [if_pos c3, if_pos c3]
              cases h3 : codec_Checksum.f t1.1 with
              | none => intro h; cases h
              | some t3 => intro _; exact ⟨_, rfl⟩
            · rw [if_neg c3]; intro _; exact ⟨_, by rw [if_neg c3]; rfl⟩
        · rw [if_neg c2]; intro _; exact ⟨_, by rw [if_neg c2]; rfl⟩
    · rw [if_neg c1, if_neg c1]
      have e : (if x.f0 = 2 then some (x.f0 == 2) else some (x.f0 == 3)) = some (if x.f0 = 2 then x.f0 == 2 else x.f0 == 3) := by split <;> rfl
      rw [e]
      simp only [Option.bind_some]
      generalize (if x.f0 = 2 then x.f0 == 2 else x.f0 == 3) = c
      unfold quorum_group_valid.k3
      simp only [b0, b3, hbare]
      cases hq : quorum_bare.f x with
      | none =>
        cases c with
        | true => intro h; cases h
        | false =>
          by_cases c4 : x.f0 = 4
          · simp only [Bool.false_eq_true, if_false, if_pos c4]; intro h; cases h
          · simp only [Bool.false_eq_true, if_false, if_neg c4]; intro h; cases h
      | some t =>
        intro _
        cases c with
        | true => exact ⟨_, rfl⟩
        | false =>
          by_cases c4 : x.f0 = 4
          · simp only [Bool.false_eq_true, if_false, if_pos c4, Option.bind_some]
            unfold quorum_group_valid.k2
            split
            · split
              · exact ⟨_, rfl⟩
              · exact ⟨_, rfl⟩
            · exact ⟨_, rfl⟩
          · simp only [Bool.false_eq_true, if_false, if_neg c4]; exact ⟨_, rfl⟩
  unfold quorum_group_valid.f at h ⊢
  rw [b1, b2, b3]
  cases hp : quorum_group_possible.f n with
  | none => rw [hp] at h; cases h
  | some p =>
    rw [hp] at h
    simp only [Option.bind_some] at h ⊢
    obtain ⟨c, hc⟩ : ∃ c, (if p = true then (if x.f1 < 0 then (some true) else (if x.f1 ≥ n then (some true) else (if x.f2 < 0 then (some true) else (if x.f2 > 1048576 then (some true) else (if x.f3 < 0 then (some true) else (some (decide (x.f3 ≥ 1000)))))))) else (some true)) = some c := by
      repeat (first | exact ⟨_, rfl⟩ | split)
    rw [hc] at h ⊢
    simp only [Option.bind_some] at h ⊢
    cases c with
    | true => exact ⟨false, rfl⟩
    | false => exact k4 h
/-! ### the loops -/
theorem pick_ok {L x4 : List S32} {n : Int} {at_ : S24} {j : Nat} (hx : x4.length ≤ 100) : ∀ (K i : Nat) (b : Bool), i ≤ x4.length → x4.length < K + i → ∃ b', armillarylaw29_QuorumAgreement.l2 (L, n, at_) x4 (j : Int) K b (i : Int) = some b' ∧ (b' = true → b = true ∧ ∀ y ∈ x4.drop i, vkey y ≠ vkey (L.getD j z32)) := by
  intro K
  induction K with
  | zero => intro i b h1 h2; omega
  | succ K ih =>
    intro i b h1 h2
    simp only [armillarylaw29_QuorumAgreement.l2]
    by_cases hi : i < x4.length
    · have a1 : (i : Int) < (x4.length : Int) := by omega
      have a2 : 0 ≤ (i : Int) := by omega
      have hdrop : x4.drop i = x4[i] :: x4.drop (i + 1) := List.drop_eq_getElem_cons hi
      have hget : x4.getD (i : Int).toNat z32 = x4[i] := by
        rw [Int.toNat_natCast, List.getD_eq_getElem?_getD, List.getElem?_eq_getElem hi]; rfl
      have hW : W .i64 ((i : Int) + 1) = ((i + 1 : Nat) : Int) := by rw [W64 (by omega) (by omega)]; rfl
      simp only [if_pos a1, if_pos a2, hget, hW, show ((j : Int)).toNat = j from rfl]
      cases b with
      | false =>
        simp only [Bool.false_eq_true, if_false, Option.bind_some]
        obtain ⟨b', e1, e2⟩ := ih (i + 1) false (by omega) (by omega)
        exact ⟨b', e1, fun h => by have := (e2 h).1; cases this⟩
      | true =>
        simp only [if_true]
        obtain ⟨c, hc, hc2⟩ : ∃ c, (if x4[i].f0 ≠ (L.getD j z32).f0 then some true else if x4[i].f1 ≠ (L.getD j z32).f1 then some true else if x4[i].f2 ≠ (L.getD j z32).f2 then some true else some (x4[i].f3 != (L.getD j z32).f3)) = some c ∧ (c = true → vkey x4[i] ≠ vkey (L.getD j z32)) := by
          by_cases d0 : x4[i].f0 = (L.getD j z32).f0
          · by_cases d1 : x4[i].f1 = (L.getD j z32).f1
            · by_cases d2 : x4[i].f2 = (L.getD j z32).f2
              · refine ⟨_, by rw [if_neg (not_not_intro d0), if_neg (not_not_intro d1), if_neg (not_not_intro d2)], fun h e => ?_⟩
                unfold vkey at e
                injection e with _ e
                injection e with _ e
                injection e with _ e
                rw [e] at h
                simp at h
              · exact ⟨true, by rw [if_neg (not_not_intro d0), if_neg (not_not_intro d1), if_pos d2], fun _ e => d2 (congrArg (·.2.2.1) e)⟩
            · exact ⟨true, by rw [if_neg (not_not_intro d0), if_pos d1], fun _ e => d1 (congrArg (·.2.1) e)⟩
          · exact ⟨true, by rw [if_pos d0], fun _ e => d0 (congrArg (·.1) e)⟩
        rw [hc, Option.bind_some]
        obtain ⟨b', e1, e2⟩ := ih (i + 1) c (by omega) (by omega)
        refine ⟨b', e1, fun h => ⟨by first | rfl | trivial, fun y hy => ?_⟩⟩
        obtain ⟨e3, e4⟩ := e2 h
        rw [hdrop] at hy
        rcases List.mem_cons.1 hy with rfl | hy
        · exact hc2 e3
        · exact e4 y hy
    · refine ⟨b, by rw [if_neg (by omega)], fun h => ⟨h, fun y hy => ?_⟩⟩
      rw [List.drop_of_length_le (by omega)] at hy
      cases hy
theorem keep_ok {L : List S32} {F : List Bool} {n : Int} {at_ : S24} (hL : L.length ≤ 40) (hF : (F.length : Int) = n) (hrg : ∀ x ∈ L, 0 ≤ x.f1 ∧ x.f1 < n) :
    ∀ (K i : Nat) (x4 : List S32), i ≤ L.length → L.length + 60 < K + i → x4.length ≤ i → One F x4 → (∀ x ∈ x4, x ∈ L) → ∃ l, armillarylaw29_QuorumAgreement.l1 (L, n, at_) F K x4 (i : Int) = some l ∧ One F l ∧ (∀ x ∈ l, x ∈ L) ∧ l.length ≤ L.length := by
  intro K
  induction K with
  | zero => intro i x4 h1 h2; omega
  | succ K ih =>
    intro i x4 h1 h2 h3 h4 h5
    simp only [armillarylaw29_QuorumAgreement.l1]
    by_cases hi : i < L.length
    · have a1 : (i : Int) < (L.length : Int) := by omega
      have a2 : 0 ≤ (i : Int) := by omega
      have hget : L.getD (i : Int).toNat z32 = L[i] := by
        rw [Int.toNat_natCast, List.getD_eq_getElem?_getD, List.getElem?_eq_getElem hi]; rfl
      have hget2 : L.getD i z32 = L[i] := hget
      have hmem : L[i] ∈ L := List.getElem_mem hi
      obtain ⟨r1, r2⟩ := hrg _ hmem
      have hW : W .i64 ((i : Int) + 1) = ((i + 1 : Nat) : Int) := by rw [W64 (by omega) (by omega)]; rfl
      obtain ⟨b, e1, e2⟩ := pick_ok (L := L) (n := n) (at_ := at_) (j := i) (x4 := x4) (by omega) K 0 true (by omega) (by omega)
      rw [show ((0 : Nat) : Int) = 0 from rfl] at e1
      rw [if_pos a1, if_pos a2, if_pos a1, e1, Option.bind_some]
      unfold armillarylaw29_QuorumAgreement.k6
      simp only [hget]
      rw [if_pos r1, if_pos (by omega : L[i].f1 < (F.length : Int))]
      obtain ⟨c, hc, hc2⟩ : ∃ c, (if b = true then some true else some (F.getD L[i].f1.toNat false)) = some c ∧ (c = true → b = true ∨ F.getD L[i].f1.toNat false = true) := by
        cases b with
        | true => exact ⟨true, rfl, fun _ => Or.inl rfl⟩
        | false => exact ⟨_, by rw [if_neg (by decide)], fun h => Or.inr h⟩
      rw [hc, Option.bind_some]
      unfold armillarylaw29_QuorumAgreement.k5
      simp only [hget]
      cases c with
      | false =>
        simp only [Bool.false_eq_true, if_false, Option.bind_some]
        unfold armillarylaw29_QuorumAgreement.k4
        rw [Option.bind_some, hW]
        exact ih (i + 1) x4 (by omega) (by omega) (by omega) h4 h5
      | true =>
        simp only [if_true]
        rw [if_pos (by simp; omega), Option.bind_some]
        unfold armillarylaw29_QuorumAgreement.k4
        rw [Option.bind_some, hW]
        refine ih (i + 1) _ (by omega) (by omega) (by simp; omega) ?_ (fun x hx => ?_)
        · have key : ∀ x ∈ x4, vkey x = vkey L[i] → F.getD L[i].f1.toNat false = true := fun x hx hv => by
            rcases hc2 rfl with h | h
            · have := (e2 h).2 x (by simpa using hx)
              rw [hget2] at this
              exact absurd hv this
            · exact h
          have f1 : ∀ {x y : S32}, vkey x = vkey y → x.f1 = y.f1 := fun h => congrArg (·.2.1) h
          intro x hx y hy hf hv
          rcases List.mem_append.1 hx with hx | hx
          · rcases List.mem_append.1 hy with hy | hy
            · exact h4 x hx y hy hf hv
            · rw [List.mem_singleton.1 hy] at hv ⊢
              have := key x hx hv
              rw [← f1 hv, hf] at this
              cases this
          · rw [List.mem_singleton.1 hx] at hv hf ⊢
            rcases List.mem_append.1 hy with hy | hy
            · have := key y hy hv.symm
              rw [hf] at this
              cases this
            · rw [List.mem_singleton.1 hy]
        · rcases List.mem_append.1 hx with hx | hx
          · exact h5 x hx
          · rw [List.mem_singleton.1 hx]; exact hmem
    · exact ⟨x4, by rw [if_neg (by omega)], h4, h5, by omega⟩
theorem see_ok {l : List S32} {F : List Bool} {n flt : Int} (hl : l.length ≤ 40) (hF : (F.length : Int) = n) (hrg : ∀ x ∈ l, 0 ≤ x.f1 ∧ x.f1 < n) :
    ∀ (K i : Nat) (x2 : List S32), i ≤ l.length → l.length < K + i → x2.length ≤ 2 * i → Seen F l x2 → ∃ out, armillarylaw29_observed.l1 l F flt K x2 (i : Int) = some out ∧ Seen F l out := by
  intro K
  induction K with
  | zero => intro i x2 h1 h2; omega
  | succ K ih =>
    intro i x2 h1 h2 h3 h4
    simp only [armillarylaw29_observed.l1]
    by_cases hi : i < l.length
    · have a1 : (i : Int) < (l.length : Int) := by omega
      have a2 : 0 ≤ (i : Int) := by omega
      have hget : l.getD (i : Int).toNat z32 = l[i] := by
        rw [Int.toNat_natCast, List.getD_eq_getElem?_getD, List.getElem?_eq_getElem hi]; rfl
      have hmem : l[i] ∈ l := List.getElem_mem hi
      obtain ⟨r1, r2⟩ := hrg _ hmem
      have hW : W .i64 ((i : Int) + 1) = ((i + 1 : Nat) : Int) := by rw [W64 (by omega) (by omega)]; rfl
      have t1 : 0 ≤ (i : Int).tmod 64 := by rw [Int.tmod_eq_emod_of_nonneg a2]; omega
      have t7 : 0 ≤ (W .i64 ((i : Int) * 7)).tmod 64 := by rw [W64 (by omega) (by omega), Int.tmod_eq_emod_of_nonneg (by omega)]; omega
      have t5 : 0 ≤ (W .i64 ((i : Int) * 5)).tmod 64 := by rw [W64 (by omega) (by omega), Int.tmod_eq_emod_of_nonneg (by omega)]; omega
      have go : ∀ x4 : List S32, x4.length ≤ x2.length + 2 → Seen F l x4 → ∃ out, armillarylaw29_observed.l1 l F flt K x4 (W .i64 ((i : Int) + 1)) = some out ∧ Seen F l out := fun x4 hx hs => by
        rw [hW]
        exact ih (i + 1) x4 (by omega) (by omega) (by omega) hs
      have k5 : ∀ x5 : List S32, x5.length ≤ x2.length + 1 → Seen F l x5 → ∃ x4, armillarylaw29_observed.k5 l F flt (i : Int) x5 = some x4 ∧ x4.length ≤ x2.length + 2 ∧ Seen F l x4 := fun x5 hx hs => by
        unfold armillarylaw29_observed.k5
        simp only [hget]
        rw [if_pos a2, if_pos a1, if_pos r1, if_pos (by omega : l[i].f1 < (F.length : Int)), if_pos t5]
        cases hf : F.getD l[i].f1.toNat false with
        | false =>
          simp only [Bool.false_eq_true, if_false, Option.bind_some]
          exact ⟨x5, rfl, by omega, hs⟩
        | true =>
          simp only [if_true, Option.bind_some]
          unfold armillarylaw29_observed.k4
          simp only [hget]
          split
          · rw [if_pos (by simp <;> omega)]
            refine ⟨_, rfl, by simp <;> omega, fun y hy => ?_⟩
            rcases List.mem_append.1 hy with hy | hy
            · rw [List.mem_singleton.1 hy]
              exact Or.inr ⟨l[i], hmem, hf, rfl, rfl, rfl, rfl, rfl⟩
            · exact hs y hy
          · exact ⟨x5, rfl, by omega, hs⟩
      rw [if_pos a1, if_pos t1, if_pos t7]
      simp only [hget]
      rw [if_pos a2, if_pos a1, if_pos (show ([l[i]].length + x2.length) * 88 ≤ 140737488355328 by simp; omega), if_pos a2, if_pos a1, if_pos (show (x2.length + [l[i]].length) * 88 ≤ 140737488355328 by simp; omega)]
      split
      · rw [Option.bind_some]
        exact go x2 (by omega) h4
      · split
        · rw [Option.bind_some]
          obtain ⟨x4, e1, e2, e3⟩ := k5 ([l[i]] ++ x2) (by simp <;> omega) (fun y hy => by
            rcases List.mem_append.1 hy with hy | hy
            · rw [List.mem_singleton.1 hy]; exact Or.inl hmem
            · exact h4 y hy)
          rw [e1, Option.bind_some]
          exact go x4 e2 e3
        · rw [Option.bind_some]
          obtain ⟨x4, e1, e2, e3⟩ := k5 (x2 ++ [l[i]]) (by simp <;> omega) (fun y hy => by
            rcases List.mem_append.1 hy with hy | hy
            · exact h4 y hy
            · rw [List.mem_singleton.1 hy]; exact Or.inl hmem)
          rw [e1, Option.bind_some]
          exact go x4 e2 e3
    · exact ⟨x2, by rw [if_neg (by omega)], h4⟩
theorem see_f {l : List S32} {F : List Bool} {n flt : Int} (hl : l.length ≤ 40) (hF : (F.length : Int) = n) (hrg : ∀ x ∈ l, 0 ≤ x.f1 ∧ x.f1 < n) : ∃ out, armillarylaw29_observed.f 300 l F flt = some out ∧ Seen F l out := by
  obtain ⟨out, e1, e2⟩ := see_ok (flt := flt) hl hF hrg 300 0 [] (by omega) (by omega) (by simp) (fun y hy => by cases hy)
  refine ⟨out, ?_, e2⟩
  unfold armillarylaw29_observed.f
  rw [show ((0 : Nat) : Int) = 0 from rfl] at e1
  rw [e1, Option.bind_some]
  rfl
theorem liars_ok {L : List S32} {n a1 : Int} {at_ : S24} (h1 : 1 ≤ n) (h2 : n ≤ 13) (ha : 0 ≤ a1 ∧ a1 ≤ 255) :
    ∀ (K i : Nat) (x13 : List Bool) (J : List Int), (i : Int) ≤ (n - 1) / 3 → 20 < K + i → (x13.length : Int) = n → J.length = i → (∀ x, 0 ≤ x → x13.getD x.toNat false = true → x ∈ J) →
      ∃ F, armillarylaw29_QuorumAgreement.l3 a1 (L, n, at_) K x13 (i : Int) = some F ∧ (F.length : Int) = n ∧ ∃ J : List Int, (J.length : Int) ≤ (n - 1) / 3 ∧ ∀ x, 0 ≤ x → F.getD x.toNat false = true → x ∈ J := by
  intro K
  induction K with
  | zero => intro i x13 J h3 h4; omega
  | succ K ih =>
    intro i x13 J h3 h4 h5 h6 h7
    simp only [armillarylaw29_QuorumAgreement.l3]
    rw [(size_eq h1 h2).2]
    simp only [Option.bind_some]
    by_cases hi : (i : Int) < (n - 1) / 3
    · have c1 : decide ((i : Int) < n) = true := by simp; omega
      rw [if_pos hi, c1]
      simp only [Option.bind_some, if_true]
      have hW1 : W .i64 a1 = a1 := W64 (by omega) (by omega)
      have hW3 : W .i64 ((i : Int) * 3) = (i : Int) * 3 := W64 (by omega) (by omega)
      have hW4 : W .i64 (a1 + (i : Int) * 3) = a1 + (i : Int) * 3 := W64 (by omega) (by omega)
      have hW : W .i64 ((i : Int) + 1) = ((i + 1 : Nat) : Int) := by rw [W64 (by omega) (by omega)]; rfl
      rw [hW1, hW3, hW4, hW]
      obtain ⟨j, hj⟩ : ∃ j, (a1 + (i : Int) * 3).tmod n = j := ⟨_, rfl⟩
      have hj1 : 0 ≤ j ∧ j < n := by
        rw [Int.tmod_eq_emod_of_nonneg (by omega)] at hj
        rw [← hj]
        exact ⟨Int.emod_nonneg _ (by omega), Int.emod_lt_of_pos _ (by omega)⟩
      rw [hj, if_neg (by omega), if_pos hj1.1, if_pos (by omega)]
      refine ih (i + 1) _ (j :: J) (by omega) (by omega) (by simpa using h5) (by simp [h6]) (fun x hx0 hx => ?_)
      by_cases e : x = j
      · rw [e]; exact List.mem_cons_self
      · refine List.mem_cons_of_mem _ (h7 x hx0 ?_)
        rw [List.getD_eq_getElem?_getD, List.getElem?_set_ne (by omega)] at hx
        rw [List.getD_eq_getElem?_getD]
        exact hx
    · rw [if_neg hi]
      simp only [Option.bind_some, Bool.false_eq_true, if_false]
      exact ⟨x13, rfl, h5, J, by omega, h7⟩
end Go.Proofs.Ytieakigoinebdaa.agree
namespace Go.Proofs.Ytieakigoinebdaa
open Go Go.Proofs.Ytieakigoinebdaa.RW agree
set_option linter.unusedVariables false
theorem armillarylaw29_QuorumAgreement_holds (a0 : S26) (a1 : Int) (a2 : S51) (h0 : p26 a0) (hw1 : (Lit.int .u8 a1).wf = true) (h2 : p51 a2) : ∃ k, armillarylaw29_QuorumAgreement.f k a0 a1 a2 = some true := by
  refine ⟨300, ?_⟩
  obtain ⟨n1, n2⟩ := agree.num13 h0.2.1
  obtain ⟨n, hn⟩ : ∃ n, W .i64 (1 + W .i64 (a0.f1.tmod 13)) = n := ⟨_, rfl⟩
  rw [hn] at n1 n2
  obtain ⟨L, hL1, hL2, hL3⟩ := madeAll_ok a0.f0 (fun m hm => agree.wf_u32 (h0.1 m hm).2.2.2.2.1) n1 n2
  have e1 : armillarylaw29_made.f 300 a0 = some (L, n, (⟨(bAnd .i64 a0.f2.f0 255).tmod 4, (bAnd .i64 a0.f2.f1 255).tmod 3⟩ : S24)) := by
    unfold armillarylaw29_made.f
    rw [hn, hL1 199, Option.bind_some]
  obtain ⟨at_, hat⟩ : ∃ at_ : S24, (⟨(bAnd .i64 a0.f2.f0 255).tmod 4, (bAnd .i64 a0.f2.f1 255).tmod 3⟩ : S24) = at_ := ⟨_, rfl⟩
  rw [hat] at e1
  have hrg : ∀ x ∈ L, 0 ≤ x.f1 ∧ x.f1 < n := fun x hx => valid_rg (hL3 x hx 240)
  obtain ⟨F, f1, f2, J, f3, f4⟩ := liars_ok (L := L) (at_ := at_) n1 n2 (agree.wf_u8 hw1) 300 0 (List.replicate n.toNat false) [] (by omega) (by omega) (by simp; omega) rfl (fun x hx0 hx => by
    rw [List.getD_eq_getElem?_getD, List.getElem?_replicate] at hx
    split at hx <;> cases hx)
  obtain ⟨l, l1, l2, l3, l4⟩ := keep_ok (F := F) (at_ := at_) hL2 f2 hrg 300 0 [] (by omega) (by omega) (Nat.le_refl _) (fun x hx => by cases hx) (fun x hx => by cases hx)
  rw [show ((0 : Nat) : Int) = 0 from rfl] at f1 l1
  have hrl : ∀ x ∈ l, 0 ≤ x.f1 ∧ x.f1 < n := fun x hx => hrg x (l3 x hx)
  obtain ⟨a, ha1, ha2⟩ := see_f (flt := a2.f0) (by omega) f2 hrl
  obtain ⟨b, hb1, hb2⟩ := see_f (flt := a2.f1) (by omega) f2 hrl
  have val : ∀ {c : List S32}, Seen F l c → ∀ m ∈ c, ∃ b, quorum_group_valid.f 300 n m = some b := fun hc m hm => by
    rcases hc m hm with h | ⟨x, hx, _, hx2⟩
    · exact ⟨_, hL3 m (l3 m h) 240⟩
    · exact valid_bent (hL3 x (l3 x hx) 240) hx2
  have ag : ∀ kd s t, decN 300 n a kd at_.f0 at_.f1 = some s → decN 300 n b kd at_.f0 at_.f1 = some t → s = t := fun kd s t hs ht => agree_on n1 n2 l2 ha2 hb2 J f3 f4 hs ht
  unfold armillarylaw29_QuorumAgreement.f
  rw [sane5, Option.bind_some, e1, Option.bind_some]
  simp only
  rw [if_pos (by omega), if_pos (by omega), f1, Option.bind_some]
  unfold armillarylaw29_QuorumAgreement.k8
  rw [l1, Option.bind_some]
  unfold armillarylaw29_QuorumAgreement.k2
  simp only
  rw [ha1, Option.bind_some, hb1, Option.bind_some, prepared_dec n1 n2 (val ha2), Option.bind_some, prepared_dec n1 n2 (val hb2), Option.bind_some, committed_dec n1 n2 (val ha2), Option.bind_some, committed_dec n1 n2 (val hb2), Option.bind_some]
  have g2 := ag 2
  have g3 := ag 3
  have k1t : armillarylaw29_QuorumAgreement.k1 true = some true := by unfold armillarylaw29_QuorumAgreement.k1; rfl
  generalize decN 300 n a 2 at_.f0 at_.f1 = p1 at g2
  generalize decN 300 n b 2 at_.f0 at_.f1 = p2 at g2
  generalize decN 300 n a 3 at_.f0 at_.f1 = c1 at g3
  generalize decN 300 n b 3 at_.f0 at_.f1 = c2 at g3
  have tail : (if (c1.getD 0, c1.isSome).2 = true then (if (c2.getD 0, c2.isSome).2 = true then (if (c1.getD 0, c1.isSome).1 = (c2.getD 0, c2.isSome).1 then some true else some false) else some true) else some true) = some true := by
    cases c1 with
    | none => rfl
    | some s =>
      cases c2 with
      | none => rfl
      | some t => rw [g3 s t rfl rfl]; simp
  rw [tail]
  cases p1 with
  | none => simp [k1t]
  | some s =>
    cases p2 with
    | none => simp [k1t]
    | some t => rw [g2 s t rfl rfl]; simp [k1t]
end Go.Proofs.Ytieakigoinebdaa
