/- Words of the walk, the functions' walks and plain laws, joined; no conditions beyond those that the theorems name. -/
import Derived.Test.YtihmbmeelheinaaY7
import Derived.Test.YtihmbmeelheinaaY6
namespace Go.Proofs.Ytihmbmeelheinaa.auc
open Go Go.Proofs.Ytihmbmeelheinaa Go.Proofs.Ytihmbmeelheinaa.RW Go.Proofs.Ytihmbmeelheinaa.hun
set_option linter.unusedVariables false
set_option maxRecDepth 100000
theorem ws_nil {l : List S48} (h : (ws l).length = 0) : l = [] := by
  cases l with
  | nil => rfl
  | cons x r =>
    have h1 := ws_mem (l := x :: r) (x := x) List.mem_cons_self
    rw [List.eq_nil_of_length_eq_zero h] at h1
    cases h1
theorem tab_vw {l : List S48} (h : okB l) {W S : List Int} (hw : W.length ≤ 12) (hs : S.length ≤ 12) (hz : W.length = 0 → S.length = 0) : Vw (tabL (Vv l) W S) S.length := by
  have hm := tabL_mx (Vv l) W S
  refine ⟨by rw [hm.len]; exact hw, hs, fun e => hz (by rw [← hm.len]; exact e), fun i hi => hm.row i (by rw [← hm.len]; exact hi), fun i j hi hj => ?_⟩
  rw [hm.at_ i j (by rw [← hm.len]; exact hi) hj]
  exact h.vb _ _
theorem total_ev {l : List S48} (h : okB l) {W S : List Int} (hw : W.length ≤ 12) (hs : S.length ≤ 12) (hW : W.Nodup) (hS : S.Nodup) (h0 : ∀ v ∈ W, ∀ s, s ∉ S → Vv l v s = 0) : ∃ Y, Ev (fun k => auction_total.f k (tabL (Vv l) W S)) Y ∧ Om (Vv l) W Y ∧ 0 ≤ Y ∧ Y ≤ 12884901888 := by
  by_cases hn : W.length = 0
  · obtain rfl := List.eq_nil_of_length_eq_zero hn
    have hv : Vw [] 0 := ⟨Nat.zero_le _, Nat.zero_le _, fun _ => rfl, fun i hi => absurd hi (Nat.not_lt_zero _), fun i j hi => absurd hi (Nat.not_lt_zero _)⟩
    obtain ⟨c, d, V, h1, h2⟩ := solve hv (k := 800) (Nat.le_refl _)
    have hs : Ev (fun k => assign_Solve.f k []) (c, d) := Ev.of 800 (fun k hk => by
      obtain ⟨c', d', V', h3, h4⟩ := solve hv (k := k) hk
      rw [h3]
      have e1 : c' = [] := List.eq_nil_of_length_eq_zero h4.ll
      have e2 : c = [] := List.eq_nil_of_length_eq_zero h2.ll
      have e3 : d'.f0 = [] := List.eq_nil_of_length_eq_zero h4.ul
      have e4 : d.f0 = [] := List.eq_nil_of_length_eq_zero h2.ul
      have e5 : d'.f1 = [] := List.eq_nil_of_length_eq_zero h4.vl
      have e6 : d.f1 = [] := List.eq_nil_of_length_eq_zero h2.vl
      obtain ⟨a, b⟩ := d
      obtain ⟨a', b'⟩ := d'
      simp only at e3 e4 e5 e6
      rw [e1, e2, e3, e4, e5, e6])
    have hval : Ev (fun k => assign_Value.f k [] c) (0, true) := Ev.of 20 (fun k hk => by
      have := value_ok hv (valid_of h2.ll h2.isa) hk
      rw [this]
      rfl)
    exact ⟨0, Ev.bind hs (Ev.bind hval (Ev.const rfl)), om_nil _, Int.le_refl _, by decide⟩
  · have hv := tab_vw h hw hs (fun e => absurd e hn)
    have hm := tabL_mx (Vv l) W S
    obtain ⟨c, d, V, h1, h2⟩ := solve hv (k := 800) (Nat.le_refl _)
    have hall : ∀ k, 800 ≤ k → ∃ c' d', assign_Solve.f k (tabL (Vv l) W S) = some (c', d') ∧ assign_Value.f k (tabL (Vv l) W S) c' = some (V, true) := fun k hk => by
      obtain ⟨c', d', V', h3, h4⟩ := solve hv (k := k) hk
      refine ⟨c', d', h3, ?_⟩
      rw [value_ok hv (valid_of h4.ll h4.isa) (by omega), h4.val, h4.opt.uniq h2.opt]
    refine ⟨V, Ev.of 800 (fun k hk => ?_), hm.om hW hS h0 h2.opt, h2.vb.1, h2.vb.2⟩
    obtain ⟨c', d', h3, h4⟩ := hall k hk
    unfold auction_total.f
    rw [h3, Option.bind_some, h4, Option.bind_some]

/-! ### the rows but one -/
theorem but_idx {W : List Int} (hn : W.Nodup) {i : Nat} (hi : i < W.length) : W.take i ++ W.drop (i + 1) = but W W[i] := by
  have e : W = W.take i ++ W[i] :: W.drop (i + 1) := by rw [← List.drop_eq_getElem_cons hi, List.take_append_drop]
  have h1 : but W W[i] = (W.take i ++ W[i] :: W.drop (i + 1)).filter (fun v => decide (v ≠ W[i])) := by rw [← e]
  have hp := hn
  rw [e, List.nodup_append] at hp
  obtain ⟨p1, p2, p3⟩ := hp
  rw [List.nodup_cons] at p2
  rw [h1, List.filter_append, List.filter_cons, if_neg (by simp)]
  congr 1
  · exact (List.filter_eq_self.2 (fun v hv => by simp only [decide_eq_true_eq]; exact fun e2 => p3 v hv W[i] List.mem_cons_self e2)).symm
  · exact (List.filter_eq_self.2 (fun v hv => by simp only [decide_eq_true_eq]; exact fun e2 => p2.1 (e2 ▸ hv))).symm
theorem price_ev {l : List S48} (h : okB l) {X v : Int} (hX : 0 ≤ X ∧ X ≤ 12884901888) (hv : 0 ≤ v ∧ v ≤ 1073741824) {i : Nat} (hi : i < (ws l).length) :
    ∃ Y, Ev (fun k => auction_Clear_1s0.f k (i : Int) v (tb l) X) (Y - (X - v)) ∧ Om (Vv l) (but (ws l) (g (ws l) i)) Y ∧ 0 ≤ Y ∧ Y ≤ 12884901888 := by
  have hnd := dist_nodup (l.map (·.f0))
  have hw := h.nw
  have e1 : g (ws l) i = (ws l)[i] := gD hi 0
  have hb := but_idx hnd hi
  have hw' : (dist (l.map (·.f0))).length ≤ 12 := hw
  have hlen : (tb l).length = (ws l).length := (tabL_mx _ _ _).len
  obtain ⟨Y, y1, y2, y3, y4⟩ := total_ev h (W := but (ws l) (g (ws l) i)) (S := ss l) (by rw [e1, ← hb, List.length_append, List.length_take, List.length_drop]; omega) h.ns (hnd.filter _) (dist_nodup _) (fun v hv s hs => Vv_zero (.inr hs))
  refine ⟨Y, ?_, y2, y3, y4⟩
  have e2 : (tb l).take i ++ (tb l).drop (i + 1) = tabL (Vv l) (but (ws l) (g (ws l) i)) (ss l) := by
    rw [e1, ← hb]
    unfold tabL
    rw [List.map_append, List.map_take, List.map_drop]
    rfl
  have hne : tb l ≠ [] := fun e => by rw [e] at hlen; simp at hlen; omega
  have c1 : slices_Clone_int64_int64.f (tb l) = some (tb l) := by
    unfold slices_Clone_int64_int64.f
    rw [if_neg hne, if_pos (by simp only [List.length_nil]; omega), List.nil_append]
  have c2 : slices_Delete_int64_int64s0.f (tb l) (i : Int) (W .i64 ((i : Int) + 1)) = some (tabL (Vv l) (but (ws l) (g (ws l) i)) (ss l)) := by
    rw [Wn (by omega)]
    unfold slices_Delete_int64_int64s0.f
    rw [if_pos (by omega), if_pos (by omega), if_pos (by omega), if_neg (by omega), if_pos (by omega), if_pos (by omega), if_pos (by omega), if_pos (by omega), tn, tn, e2]
  refine Ev.bind1 c1 (Ev.bind1 c2 (Ev.bind y1 (Ev.const ?_)))
  rw [W64 (x := X - v) (by omega) (by omega), W64 (by omega) (by omega)]

/-! ### the loop -/
theorem clear_l1 (Wl S : List Int) (t : List (List Int)) (cols : List Int) (dd : S62) (X : Int) (n : Nat) (hn : n ≤ 100) (hc : cols.length = n) (ht : t.length = n) (hr : ∀ i, i < n → (hun.row t i).length = S.length)
    (hg : ∀ i, i < n → g cols i = -1 ∨ (0 ≤ g cols i ∧ g cols i < (S.length : Int))) (P : Nat → Int) (hP : ∀ i, i < n → 0 ≤ g cols i → Ev (fun k => auction_Clear_1s0.f k (i : Int) (we t i (g cols i).toNat) t X) (P i)) :
    ∀ (d i : Nat), d + i = n → Ev (fun k => auction_Clear.l1 (Wl, S, t) (cols, dd) (X, true) k Wl ((List.range i).map fun i => if 0 ≤ g cols i ∧ 0 < we t i (g cols i).toNat then g S (g cols i).toNat else -1) ((List.range i).map fun i => if 0 ≤ g cols i ∧ 0 < we t i (g cols i).toNat then P i else 0) S cols (i : Int))
      (Wl, (List.range n).map (fun i => if 0 ≤ g cols i ∧ 0 < we t i (g cols i).toNat then g S (g cols i).toNat else -1), (List.range n).map (fun i => if 0 ≤ g cols i ∧ 0 < we t i (g cols i).toNat then P i else 0))
  | 0, i, h => by
    obtain rfl : i = n := by omega
    refine Ev.succ (g := fun _ => some _) (fun k => by rw [auction_Clear.l1, if_neg (by show ¬ (i : Int) < (cols.length : Int); omega)]) (Ev.const rfl)
  | d + 1, i, h => by
    have hi : i < n := by omega
    have ih := clear_l1 Wl S t cols dd X n hn hc ht hr hg P hP d (i + 1) (by omega)
    have c1 : (0 : Int) ≤ (i : Int) := by omega
    have c2 : (i : Int) < (cols.length : Int) := by omega
    have c3 : (i : Int) < (t.length : Int) := by omega
    have hri := hr i hi
    rw [List.range_succ, List.map_append, List.map_append] at ih
    simp only [List.map_cons, List.map_nil] at ih
    have l1 : ∀ f : Nat → Int, ((List.range i).map f).length = i := fun f => by rw [List.length_map, List.length_range]
    have c4 : ∀ f : Nat → Int, ∀ x : Int, (((List.range i).map f).length + [x].length) * 8 ≤ 140737488355328 := fun f x => by rw [l1]; simp only [List.length_singleton]; omega
    by_cases hp : 0 ≤ g cols i ∧ 0 < we t i (g cols i).toNat
    · simp only [hp, and_self, if_true] at ih
      have c5 : g cols i < (S.length : Int) := ((hg i hi).resolve_left (by omega)).2
      have c6 : g cols i < (((t.getD i []).length : Nat) : Int) := by show _ < ((hun.row t i).length : Int); omega
      refine Ev.succ (g := fun k => (auction_Clear_1s0.f k (i : Int) (we t i (g cols i).toNat) t X).bind fun t5 => auction_Clear.l1 (Wl, S, t) (cols, dd) (X, true) k Wl ((List.range i).map (fun i => if 0 ≤ g cols i ∧ 0 < we t i (g cols i).toNat then g S (g cols i).toNat else -1) ++ [g S (g cols i).toNat]) ((List.range i).map (fun i => if 0 ≤ g cols i ∧ 0 < we t i (g cols i).toNat then P i else 0) ++ [t5]) S cols ((i + 1 : Nat) : Int)) (fun k => ?_) (Ev.bind (hP i hi hp.1) ih)
      have e1 : (cols.getD i 0 ≥ 0) = True := eq_true hp.1
      have e2 : decide ((t.getD i []).getD (cols.getD i 0).toNat 0 > 0) = true := decide_eq_true hp.2
      have e3 : (0 ≤ cols.getD i 0) = True := eq_true hp.1
      rw [auction_Clear.l1]
      simp only [c1, c2, c3, if_true, tn, e1, e2, c5, c6, Option.bind_some, c4, Wn (show i < 1000000000000 by omega)]
      cases auction_Clear_1s0.f k (i : Int) ((t.getD i []).getD (cols.getD i 0).toNat 0) t X with
      | none => rfl
      | some t5 => simp only [Option.bind_some]
    · simp only [hp, if_false] at ih
      refine Ev.succ (fun k => ?_) ih
      have e : (if cols.getD i 0 ≥ 0 then (if (0 : Int) ≤ (i : Int) then (if (i : Int) < (t.length : Int) then (if 0 ≤ cols.getD i 0 then (if cols.getD i 0 < (((t.getD i []).length : Nat) : Int) then (some (decide ((t.getD i []).getD (cols.getD i 0).toNat 0 > 0))) else none) else none) else none) else none) else (some false)) = some false := by
        by_cases h0 : cols.getD i 0 ≥ 0
        · have c6 : cols.getD i 0 < (((t.getD i []).length : Nat) : Int) := by
            have := ((hg i hi).resolve_left (by show ¬ cols.getD i 0 = -1; omega)).2
            show g cols i < ((hun.row t i).length : Int)
            omega
          have e2 : decide ((t.getD i []).getD (cols.getD i 0).toNat 0 > 0) = false := decide_eq_false (fun h1 => hp ⟨h0, h1⟩)
          rw [if_pos h0, if_pos c1, if_pos c3, if_pos h0, if_pos c6, e2]
        · rw [if_neg h0]
      rw [auction_Clear.l1]
      simp only [c1, c2, if_true, tn]
      simp only [c1, c3, if_true] at e
      simp only [c3, if_true, e, Option.bind_some, Bool.false_eq_true, if_false, c4, Wn (show i < 1000000000000 by omega)]
end Go.Proofs.Ytihmbmeelheinaa.auc
namespace Go.Proofs.Ytihmbmeelheinaa.hun
open Go Go.Proofs.Ytihmbmeelheinaa Go.Proofs.Ytihmbmeelheinaa.RW
set_option linter.unusedVariables false
set_option maxRecDepth 100000
set_option maxHeartbeats 4000000
abbrev none' : Nat → Bool := fun _ => false
section
variable {w : List (List Int)} {m : Nat}
theorem opt_at (h : Vw w m) {i : Nat} (hi : i ≤ w.length) (t : Nat → Bool) : ∃ V, Opt w m i t V ∧ 0 ≤ V ∧ V ≤ 12884901888 := by
  obtain ⟨V, _, h1, h2⟩ := best_spec h (used := (List.range m).map t) (by simp) (first := i) (k := 1000) (by omega) hi
  refine ⟨V, h1.congr (fun j hj => ?_), h2⟩
  show ((List.range m).map t).getD j false = t j
  rw [List.getD_eq_getElem?_getD, List.getElem?_map, List.getElem?_range hj]
  rfl
theorem Opt.weaken {i : Nat} {t : Nat → Bool} {V V' : Int} (h : Opt w m i t V) (h' : Opt w m (i + 1) t V') : V' ≤ V := by
  obtain ⟨a, ha, hv⟩ := h'.2
  have := h.1 a ⟨fun i' hi' => (ha.rg i' hi').imp id (fun ⟨h1, h2⟩ => ⟨by omega, h2⟩), ha.inj⟩
  omega
theorem Opt.last {t : Nat → Bool} : Opt w m w.length t 0 := by
  have h0 : ∀ a, IsA w m w.length t a → val w a = 0 := fun a ha => by
    have e1 : val w a = sm (fun _ => 0) w.length := sm_congr _ (fun i' hi' => by
      rcases ha.rg i' hi' with h1 | h1
      · exact if_pos h1
      · omega)
    rw [e1, sm_const]; simp
  refine ⟨fun a ha => by rw [h0 a ha]; exact Int.le_refl _, fun _ => -1, ⟨fun i hi => .inl rfl, fun i i' _ _ h1 _ => ?_⟩, ?_⟩
  · exact absurd (show (0 : Int) ≤ -1 from h1) (by omega)
  · have ha : IsA w m w.length t (fun _ => -1) := ⟨fun i hi => .inl rfl, fun i i' _ _ h1 _ => absurd (show (0 : Int) ≤ -1 from h1) (by omega)⟩
    exact h0 _ ha
theorem Opt.next {l : List Int} {i : Nat} {V : Int} (hi : i < w.length) (hv : valid w m l) (h : Opt w m (i + 1) (taken (g l) (i + 1)) V) : (g l i = -1 ∧ Opt w m (i + 1) (taken (g l) i) V) ∨ (0 ≤ g l i ∧ g l i < (m : Int) ∧ taken (g l) i (g l i).toNat = false ∧ Opt w m (i + 1) (plus (taken (g l) i) (g l i).toNat) V) := by
  refine (hv.2 i hi).imp (fun e => ⟨e, h.congr fun j hj => ?_⟩) (fun ⟨h1, h2, h3⟩ => ⟨h1, h2, h3, h.congr fun j hj => ?_⟩)
  · rw [taken_succ, e, beq_eq_false_iff_ne.2 (by omega : (-1 : Int) ≠ (j : Int)), Bool.or_false]
  · rw [taken_succ]
    show _ = if j = (g l i).toNat then true else taken (g l) i j
    by_cases e2 : j = (g l i).toNat
    · rw [if_pos e2, beq_iff_eq.2 (by omega : g l i = (j : Int)), Bool.or_true]
    · rw [if_neg e2, beq_eq_false_iff_ne.2 (by omega : g l i ≠ (j : Int)), Bool.or_false]
theorem ahead_succ (w : List (List Int)) (a : Nat → Int) (i : Nat) : ahead w a (i + 1) = ahead w a i + if a i = -1 then 0 else we w i (a i).toNat := rfl
theorem level (h : Vw w m) {l : List Int} {V0 : Int} (hop : Opt w m 0 none' V0) (hv : valid w m l) (hval : val w (g l) = V0) : ∀ i, i ≤ w.length → ∀ V, Opt w m i (taken (g l) i) V → ahead w (g l) i + V = V0 := by
  have step : ∀ i, i < w.length → ∀ V V', Opt w m i (taken (g l) i) V → Opt w m (i + 1) (taken (g l) (i + 1)) V' → ahead w (g l) (i + 1) + V' ≤ ahead w (g l) i + V := fun i hi V V' h1 h2 => by
    rw [ahead_succ]
    rcases h2.next hi hv with ⟨e, h3⟩ | ⟨e1, e2, e3, h3⟩
    · have := h1.weaken h3
      rw [if_pos e]
      omega
    · have := Opt.take hi (by omega : (g l i).toNat < m) e3 h1 h3
      rw [if_neg (by omega)]
      omega
  have up : ∀ i, i ≤ w.length → ∀ V, Opt w m i (taken (g l) i) V → ahead w (g l) i + V ≤ V0 := by
    intro i
    induction i with
    | zero =>
      intro _ V h1
      have := (h1.congr (used' := none') fun j hj => rfl).uniq hop
      show (0 : Int) + V ≤ V0
      omega
    | succ i ih =>
      intro hi V h1
      obtain ⟨V', h2, _⟩ := opt_at h (i := i) (by omega) (taken (g l) i)
      have := ih (by omega) V' h2
      have := step i (by omega) V' V h2 h1
      omega
  have down : ∀ d i, d + i = w.length → ∀ V, Opt w m i (taken (g l) i) V → V0 ≤ ahead w (g l) i + V := by
    intro d
    induction d with
    | zero =>
      intro i hi V h1
      obtain rfl : i = w.length := by omega
      have := h1.uniq Opt.last
      have : ahead w (g l) w.length = V0 := hval
      omega
    | succ d ih =>
      intro i hi V h1
      obtain ⟨V', h2, _⟩ := opt_at h (i := i + 1) (by omega) (taken (g l) (i + 1))
      have := ih (i + 1) (by omega) V' h2
      have := step i (by omega) V V' h1 h2
      omega
  intro i hi V h1
  have := up i hi V h1
  have := down (w.length - i) i (by omega) V h1
  omega
theorem sm_mul (c : Int) (f : Nat → Int) : ∀ n, sm (fun i => c * f i) n = c * sm f n
  | 0 => by simp [sm]
  | n + 1 => by simp only [sm]; rw [sm_mul c f n, Int.mul_add]
end
section
variable {w w' : List (List Int)} {m : Nat} {c : Int}
theorem Opt.by (hc : 0 ≤ c) (hl : w'.length = w.length) (e : ∀ i j, i < w.length → j < m → we w' i j = c * we w i j) {i : Nat} {t : Nat → Bool} {x : Int} (h : Opt w m i t x) : Opt w' m i t (c * x) := by
  have hv : ∀ a, IsA w m i t a → val w' a = c * val w a := fun a ha => by
    unfold val
    rw [hl, ← sm_mul]
    refine sm_congr _ (fun q hq => ?_)
    by_cases h1 : a q = -1
    · rw [if_pos h1, if_pos h1]; simp
    · rw [if_neg h1, if_neg h1]
      have := (ha.rg q hq).resolve_left h1
      exact e q _ hq (by omega)
  have hi : ∀ a, IsA w m i t a ↔ IsA w' m i t a := fun a => ⟨fun h => ⟨by rw [hl]; exact h.rg, by rw [hl]; exact h.inj⟩, fun h => ⟨by rw [← hl]; exact h.rg, by rw [← hl]; exact h.inj⟩⟩
  obtain ⟨h1, a, h2, h3⟩ := h
  refine ⟨fun b hb => ?_, a, (hi a).1 h2, by rw [hv a h2, h3]⟩
  rw [hv b ((hi b).2 hb)]
  exact Int.mul_le_mul_of_nonneg_left (h1 b ((hi b).2 hb)) hc
theorem ahead_by (hl : w'.length = w.length) (e : ∀ i j, i < w.length → j < m → we w' i j = c * we w i j) {a : Nat → Int} (ha : ∀ i, i < w.length → a i = -1 ∨ (0 ≤ a i ∧ a i < (m : Int))) {i : Nat} (hi : i ≤ w.length) : ahead w' a i = c * ahead w a i := by
  unfold ahead
  rw [← sm_mul]
  refine sm_congr _ (fun q hq => ?_)
  by_cases h1 : a q = -1
  · rw [if_pos h1, if_pos h1]; simp
  · rw [if_neg h1, if_neg h1]
    have := (ha q (by omega)).resolve_left h1
    exact e q _ (by omega) (by omega)
theorem cols_by (hc : 0 < c) (hl : w'.length = w.length) (e : ∀ i j, i < w.length → j < m → we w' i j = c * we w i j) (hv : Vw w m) (hv' : Vw w' m) {l l' : List Int} {d d' : S62} {V V' : Int} (h : Solved w m l d V) (h' : Solved w' m l' d' V') : l = l' := by
  have hV : V' = c * V := h'.opt.uniq (h.opt.by (Int.le_of_lt hc) hl e)
  have va := valid_of h.ll h.isa
  have va' := valid_of h'.ll h'.isa
  have rga : ∀ i, i < w.length → g l i = -1 ∨ (0 ≤ g l i ∧ g l i < (m : Int)) := fun i hi => (h.isa.rg i hi).imp id (fun r => ⟨r.2.1, r.2.2.1⟩)
  have rgb : ∀ i, i < w.length → g l' i = -1 ∨ (0 ≤ g l' i ∧ g l' i < (m : Int)) := fun i hi => (h'.isa.rg i (by omega)).imp id (fun r => ⟨r.2.1, r.2.2.1⟩)
  have key : ∀ i, i ≤ w.length → ∀ q, q < i → g l q = g l' q := by
    intro i
    induction i with
    | zero => intro _ q hq; omega
    | succ i ih =>
      intro hi q hq
      have ih' := ih (by omega)
      by_cases hqi : q < i
      · exact ih' q hqi
      obtain rfl : q = i := by omega
      have hta : taken (g l) q = taken (g l') q := funext (fun j => taken_congr (fun z hz => ih' z hz) j)
      have hah : ahead w (g l) q = ahead w (g l') q := sm_congr _ (fun z hz => by rw [ih' z hz])
      have hahb : ahead w' (g l') q = c * ahead w (g l') q := ahead_by hl e rgb (by omega)
      rcases rga q hi with ha | ha
      · rcases rgb q hi with hb | hb
        · omega
        · exfalso
          obtain ⟨Vq, hq1, _⟩ := opt_at hv' (i := q + 1) (by omega) (taken (g l') (q + 1))
          have hlev := level hv' h'.opt va' h'.val (q + 1) (by omega) Vq hq1
          rcases hq1.next (by omega) va' with ⟨e1, _⟩ | ⟨n1, n2, n3, n4⟩
          · omega
          obtain ⟨Vj, h1, h2⟩ := h.ch.lex q hi (g l' q).toNat (by omega) (by rw [hta]; exact n3) (.inl ha)
          have h3 := (h1.by (Int.le_of_lt hc) hl e).uniq (by rw [hta]; exact n4)
          rw [ahead_succ, if_neg (by omega), hahb, e q _ hi (by omega), ← h3, hV, ← Int.mul_add, ← Int.mul_add] at hlev
          have h4 := Int.eq_of_mul_eq_mul_left (by omega) hlev
          omega
      · by_cases hlt : 0 ≤ g l' q ∧ g l' q < g l q
        · exfalso
          obtain ⟨Vq, hq1, _⟩ := opt_at hv' (i := q + 1) (by omega) (taken (g l') (q + 1))
          have hlev := level hv' h'.opt va' h'.val (q + 1) (by omega) Vq hq1
          rcases hq1.next (by omega) va' with ⟨e1, _⟩ | ⟨n1, n2, n3, n4⟩
          · omega
          obtain ⟨Vj, h1, h2⟩ := h.ch.lex q hi (g l' q).toNat (by omega) (by rw [hta]; exact n3) (.inr (by omega))
          have h3 := (h1.by (Int.le_of_lt hc) hl e).uniq (by rw [hta]; exact n4)
          rw [ahead_succ, if_neg (by omega), hahb, e q _ hi (by omega), ← h3, hV, ← Int.mul_add, ← Int.mul_add] at hlev
          have h4 := Int.eq_of_mul_eq_mul_left (by omega) hlev
          omega
        · by_cases heq : g l q = g l' q
          · exact heq
          exfalso
          have hbb : g l' q = -1 ∨ (((g l q).toNat : Nat) : Int) < g l' q := by
            rcases rgb q hi with hb | hb <;> omega
          obtain ⟨Vq, hq1, _⟩ := opt_at hv (i := q + 1) (by omega) (taken (g l) (q + 1))
          have hlev := level hv h.opt va h.val (q + 1) (by omega) Vq hq1
          rcases hq1.next (by omega) va with ⟨e1, _⟩ | ⟨n1, n2, n3, n4⟩
          · omega
          obtain ⟨Vj, h1, h2⟩ := h'.ch.lex q (by omega) (g l q).toNat (by omega) (by rw [← hta]; exact n3) hbb
          have h3 := h1.uniq (by rw [← hta]; exact n4.by (Int.le_of_lt hc) hl e)
          rw [hahb, e q _ hi (by omega), h3, hV, ← Int.mul_add, ← Int.mul_add] at h2
          have h4 := Int.lt_of_mul_lt_mul_left h2 (Int.le_of_lt hc)
          rw [ahead_succ, if_neg (by omega)] at hlev
          omega
  apply List.ext_getElem (by rw [h.ll, h'.ll, hl])
  intro i h1 h2
  have := key w.length (Nat.le_refl _) i (by rw [← h.ll]; exact h1)
  have e1 : g l i = l[i] := by show l.getD i 0 = _; rw [List.getD_eq_getElem?_getD, List.getElem?_eq_getElem h1]; rfl
  have e2 : g l' i = l'[i] := by show l'.getD i 0 = _; rw [List.getD_eq_getElem?_getD, List.getElem?_eq_getElem h2]; rfl
  rw [← e1, ← e2, this]
end
end Go.Proofs.Ytihmbmeelheinaa.hun
namespace Go.Proofs.Ytihmbmeelheinaa.auc
open Go Go.Proofs.Ytihmbmeelheinaa Go.Proofs.Ytihmbmeelheinaa.RW Go.Proofs.Ytihmbmeelheinaa.hun
set_option linter.unusedVariables false
set_option maxRecDepth 100000
/-- Who gets what, out of columns for rows. -/
def sg (l : List S48) (cols : List Int) (w : Int) : Option Int :=
  if 0 ≤ g cols ((ws l).idxOf w) ∧ 0 < Vv l w (g (ss l) (g cols ((ws l).idxOf w)).toNat) then some (g (ss l) (g cols ((ws l).idxOf w)).toNat) else none
structure Cl (l : List S48) (d : S29) (σ : Int → Option Int) (X : Int) (Y : Int → Int) : Prop where
  who : d.f0 = ws l
  sl : d.f1.length = (ws l).length
  pl : d.f2.length = (ws l).length
  inj : Inj (ws l) σ
  tv : tot (Vv l) σ (ws l) = X
  om : Om (Vv l) (ws l) X
  xb : 0 ≤ X ∧ X ≤ 12884901888
  y : ∀ w ∈ ws l, Om (Vv l) (but (ws l) w) (Y w)
  yb : ∀ w, 0 ≤ Y w ∧ Y w ≤ 12884901888
  pos : ∀ w s, σ w = some s → 0 < Vv l w s
  slot : ∀ i, i < (ws l).length → g d.f1 i = match σ (g (ws l) i) with | none => -1 | some s => s
  price : ∀ i, i < (ws l).length → g d.f2 i = match σ (g (ws l) i) with | none => 0 | some s => Y (g (ws l) i) - (X - Vv l (g (ws l) i) s)
theorem sg_some {l : List S48} {cols : List Int} {w s : Int} (h : sg l cols w = some s) : 0 ≤ g cols ((ws l).idxOf w) ∧ s = g (ss l) (g cols ((ws l).idxOf w)).toNat ∧ 0 < Vv l w s := by
  unfold sg at h
  split at h
  · rename_i n1
    obtain rfl := Option.some.inj h
    exact ⟨n1.1, rfl, n1.2⟩
  · cases h
theorem sg_inj {l : List S48} {cols : List Int} (h : IsA (tb l) (ss l).length 0 (fun _ => false) (g cols)) : Inj (ws l) (sg l cols) := by
  intro v hv v' hv' s e e'
  have hm := tabL_mx (Vv l) (ws l) (ss l)
  obtain ⟨h1, h2⟩ := idx_g hv
  obtain ⟨h3, h4⟩ := idx_g hv'
  obtain ⟨n1, s1, _⟩ := sg_some e
  obtain ⟨n2, s2, _⟩ := sg_some e'
  have r1 := (h.rg _ (by rw [hm.len]; exact h1)).resolve_left (by omega)
  have r2 := (h.rg _ (by rw [hm.len]; exact h3)).resolve_left (by omega)
  have e3 := g_inj (W := ss l) (dist_nodup _) (by omega) (by omega) (s1.symm.trans s2)
  have := h.inj _ _ (by rw [hm.len]; exact h1) (by rw [hm.len]; exact h3) r1.2.1 (by omega)
  rw [← h2, ← h4, this]
theorem sg_tot {l : List S48} (hb : ∀ w s, 0 ≤ Vv l w s) {cols : List Int} (h : IsA (tb l) (ss l).length 0 (fun _ => false) (g cols)) : tot (Vv l) (sg l cols) (ws l) = val (tb l) (g cols) := by
  have hm := tabL_mx (Vv l) (ws l) (ss l)
  rw [← toσ_tot (dist_nodup _) hm h]
  refine sum_congr (fun w hw => ?_)
  obtain ⟨h1, h2⟩ := idx_g hw
  obtain ⟨c, hc⟩ : ∃ c, g cols ((ws l).idxOf w) = c := ⟨_, rfl⟩
  have r := h.rg _ (by rw [hm.len]; exact h1)
  rw [hc] at r
  have e1 : sg l cols w = if 0 ≤ c ∧ 0 < Vv l w (g (ss l) c.toNat) then some (g (ss l) c.toNat) else none := by rw [← hc]; rfl
  have e2 : toσ (ws l) (ss l) (g cols) w = if c = -1 then none else some (g (ss l) c.toNat) := by rw [← hc]; rfl
  unfold pay
  rw [e1, e2]
  rcases r with r | r
  · rw [if_neg (by omega), if_pos r]
  · rw [if_neg (show ¬ c = -1 by omega)]
    by_cases h3 : 0 < Vv l w (g (ss l) c.toNat)
    · rw [if_pos ⟨r.2.1, h3⟩]
    · rw [if_neg (fun h4 => h3 h4.2)]
      have := hb w (g (ss l) c.toNat)
      show 0 = Vv l w _
      omega
theorem solve_bind {t : List (List Int)} {m : Nat} (hv : Vw t m) : ∃ (c : List Int) (X : Int), (∃ d, Solved t m c d X) ∧ ∀ {β : Type} {F : Nat → List Int × S62 → Option β} {r : β}, (∃ N, ∀ k, N ≤ k → ∀ d, F k (c, d) = some r) → Ev (fun k => (assign_Solve.f k t).bind (F k)) r := by
  obtain ⟨c, d, X, h1, h2⟩ := solve hv (k := 800) (Nat.le_refl _)
  refine ⟨c, X, ⟨d, h2⟩, fun {β F r} ⟨N, h⟩ => Ev.of (max 800 N) (fun k hk => ?_)⟩
  obtain ⟨c', d', X', h3, h4⟩ := solve hv (k := k) (by omega)
  have e : c = c' := cols_by (c := 1) (by decide) rfl (fun i j _ _ => by rw [Int.one_mul]) hv hv h2 h4
  rw [h3, Option.bind_some, ← e]
  exact h k (by omega) d'
theorem clear_dd (t2 : List Int × List Int × List (List Int)) (c : List Int) (d d' : S62) (t4 : Int × Bool) : ∀ (k : Nat) (x4 x5 x6 x7 x8 : List Int) (x9 : Int), auction_Clear.l1 t2 (c, d) t4 k x4 x5 x6 x7 x8 x9 = auction_Clear.l1 t2 (c, d') t4 k x4 x5 x6 x7 x8 x9
  | 0, _, _, _, _, _, _ => rfl
  | k + 1, x4, x5, x6, x7, x8, x9 => by simp only [auction_Clear.l1, clear_dd t2 c d d' t4 k]
theorem okB.vw {l : List S48} (h : okB l) : Vw (tb l) (ss l).length := tab_vw h h.nw h.ns (fun e => by
  have := dist_len (l.map (·.f1))
  rw [ws_nil e] at this ⊢
  have h0 : dist [] = [] := by simpa using this
  show (dist []).length = 0
  rw [h0]; rfl)
/-- What Clear yields. -/
theorem clear_ev {l : List S48} (h : okB l) : ∃ (d : S29) (cols : List Int) (X : Int) (Y : Int → Int), Ev (fun k => auction_Clear.f k l) (d, 0) ∧ (∃ e, Solved (tb l) (ss l).length cols e X) ∧ Cl l d (sg l cols) X Y := by
  obtain ⟨cols, X, ⟨e0, hs⟩, hbind⟩ := solve_bind h.vw
  have hm := tabL_mx (Vv l) (ws l) (ss l)
  have hml : (tb l).length = (ws l).length := hm.len
  have hwn := dist_nodup (l.map (·.f0))
  have hsn := dist_nodup (l.map (·.f1))
  have hnw := h.nw
  have hll : cols.length = (ws l).length := by rw [hs.ll, hml]
  have hom := hm.om hwn hsn (fun v _ s hs => Vv_zero (.inr hs)) hs.opt
  have hrg : ∀ i, i < (ws l).length → g cols i = -1 ∨ (0 ≤ g cols i ∧ g cols i < ((ss l).length : Int)) := fun i hi => (hs.isa.rg i (by omega)).imp id (fun r => ⟨r.2.1, r.2.2.1⟩)
  have hY : ∀ w, ∃ Y, (w ∈ ws l → (0 ≤ g cols ((ws l).idxOf w) → Ev (fun k => auction_Clear_1s0.f k (((ws l).idxOf w : Nat) : Int) (we (tb l) ((ws l).idxOf w) (g cols ((ws l).idxOf w)).toNat) (tb l) X) (Y - (X - Vv l w (g (ss l) (g cols ((ws l).idxOf w)).toNat)))) ∧ Om (Vv l) (but (ws l) w) Y) ∧ 0 ≤ Y ∧ Y ≤ 12884901888 := by
    intro w
    by_cases hw : w ∈ ws l
    · obtain ⟨i1, i2⟩ := idx_g hw
      by_cases hc : 0 ≤ g cols ((ws l).idxOf w)
      · have r := (hrg _ i1).resolve_left (by omega)
        have hat := hm.at_ ((ws l).idxOf w) (g cols ((ws l).idxOf w)).toNat i1 (by omega)
        rw [i2] at hat
        obtain ⟨Y, y1, y2, y3⟩ := price_ev h hs.vb (v := we (tb l) ((ws l).idxOf w) (g cols ((ws l).idxOf w)).toNat) (by rw [hat]; exact h.vb _ _) i1
        rw [i2] at y2
        refine ⟨Y, fun _ => ⟨fun _ => ?_, y2⟩, y3⟩
        rw [← hat]
        exact y1
      · obtain ⟨Y, y1, y2, y3⟩ := price_ev h hs.vb (v := 0) (by decide) i1
        rw [i2] at y2
        exact ⟨Y, fun _ => ⟨fun h0 => absurd h0 hc, y2⟩, y3⟩
    · exact ⟨0, fun h0 => absurd h0 hw, Int.le_refl _, by decide⟩
  obtain ⟨Y, hYs⟩ := Classical.axiomOfChoice hY
  have hval : Ev (fun k => assign_Value.f k (tb l) cols) (X, true) := Ev.of 20 (fun k hk => by
    rw [value_ok h.vw (valid_of hs.ll hs.isa) hk, hs.val])
  let fs : Nat → Int := fun i => if 0 ≤ g cols i ∧ 0 < we (tb l) i (g cols i).toNat then g (ss l) (g cols i).toNat else -1
  let P : Nat → Int := fun i => Y (g (ws l) i) - (X - Vv l (g (ws l) i) (g (ss l) (g cols i).toNat))
  let fp : Nat → Int := fun i => if 0 ≤ g cols i ∧ 0 < we (tb l) i (g cols i).toNat then P i else 0
  have hP : ∀ i, i < (ws l).length → 0 ≤ g cols i → Ev (fun k => auction_Clear_1s0.f k (i : Int) (we (tb l) i (g cols i).toNat) (tb l) X) (P i) := fun i hi hc => by
    have h1 := ((hYs (g (ws l) i)).1 (g_mem hi)).1
    rw [idx_of hwn hi] at h1
    exact h1 hc
  have hloop := clear_l1 (ws l) (ss l) (tb l) cols ⟨[], []⟩ X (ws l).length (by omega) hll hml (fun i hi => hm.row i hi) hrg P hP (ws l).length 0 rfl
  have gr : ∀ (f : Nat → Int) i, i < (ws l).length → g ((List.range (ws l).length).map f) i = f i := fun f i hi => by
    show ((List.range (ws l).length).map f).getD i 0 = _
    rw [gD (by simpa using hi)]
    simp
  have hsg : ∀ i, i < (ws l).length → sg l cols (g (ws l) i) = if 0 ≤ g cols i ∧ 0 < we (tb l) i (g cols i).toNat then some (g (ss l) (g cols i).toNat) else none := fun i hi => by
    unfold sg
    rw [idx_of hwn hi]
    rcases hrg i hi with r | r
    · rw [if_neg (by omega), if_neg (by omega)]
    · rw [hm.at_ i (g cols i).toNat hi (by omega)]
  refine ⟨⟨ws l, (List.range (ws l).length).map fs, (List.range (ws l).length).map fp⟩, cols, X, Y, ?_, ⟨e0, hs⟩, ?_⟩
  · refine Ev.bind (valid_ev h) (Ev.congr (fun k => if_pos rfl) (Ev.bind (tabulate_ev h) (hbind ?_)))
    obtain ⟨N1, n1⟩ := hval
    obtain ⟨N2, n2⟩ := hloop
    refine ⟨max N1 N2, fun k hk d => ?_⟩
    have h8 : assign_Value.f k (tb l) cols = some (X, true) := n1 k (by omega)
    have h9 : auction_Clear.l1 (ws l, ss l, tb l) (cols, ⟨[], []⟩) (X, true) k (ws l) [] [] (ss l) cols 0 = some (ws l, (List.range (ws l).length).map fs, (List.range (ws l).length).map fp) := n2 k (by omega)
    show (assign_Value.f k (tb l) cols).bind _ = _
    rw [h8, Option.bind_some]
    show (auction_Clear.l1 (ws l, ss l, tb l) (cols, d) (X, true) k (ws l) [] [] (ss l) cols 0).bind _ = _
    rw [clear_dd _ _ d ⟨[], []⟩, h9]
    rfl
  · refine ⟨rfl, by simp, by simp, sg_inj hs.isa, by rw [sg_tot (fun w s => (h.vb w s).1) hs.isa, hs.val], hom, hs.vb, fun w hw => ((hYs w).1 hw).2, fun w => (hYs w).2, fun w s e => (sg_some e).2.2, fun i hi => ?_, fun i hi => ?_⟩
    · show g ((List.range (ws l).length).map fs) i = _
      rw [gr fs i hi, hsg i hi]
      by_cases hc : 0 ≤ g cols i ∧ 0 < we (tb l) i (g cols i).toNat
      · rw [if_pos hc]; exact if_pos hc
      · rw [if_neg hc]; exact if_neg hc
    · show g ((List.range (ws l).length).map fp) i = _
      rw [gr fp i hi, hsg i hi]
      by_cases hc : 0 ≤ g cols i ∧ 0 < we (tb l) i (g cols i).toNat
      · rw [if_pos hc]; exact if_pos hc
      · rw [if_neg hc]; exact if_neg hc
end Go.Proofs.Ytihmbmeelheinaa.auc
namespace Go.Proofs.Ytihmbmeelheinaa.auc
open Go Go.Proofs.Ytihmbmeelheinaa Go.Proofs.Ytihmbmeelheinaa.RW Go.Proofs.Ytihmbmeelheinaa.hun
set_option linter.unusedVariables false
set_option maxRecDepth 100000
/-! ### Utility and Welfare -/
theorem index_l1 (l : List Int) (a : Int) (hl : l.length ≤ 100000) : ∀ (d n : Nat), d + n = l.length → (∀ q, q < n → g l q ≠ a) → Ev (fun k => slices_Index_int_int.l1 l a k (n : Int)) (if a ∈ l then .inr ((l.idxOf a : Nat) : Int) else .inl ())
  | 0, n, h, hq => by
    refine Ev.succ (g := fun _ => some (.inl ())) (fun k => by rw [slices_Index_int_int.l1, if_neg (by omega)]) (Ev.const ?_)
    rw [if_neg (fun hm => ?_)]
    obtain ⟨h1, h2⟩ := idx_g hm
    exact hq _ (by omega) h2
  | d + 1, n, h, hq => by
    have hn : n < l.length := by omega
    have c1 : (0 : Int) ≤ (n : Int) := by omega
    have c2 : (n : Int) < (l.length : Int) := by omega
    by_cases he : a = g l n
    · refine Ev.of 1 (fun k hk => ?_)
      obtain ⟨m, rfl⟩ : ∃ m, k = m + 1 := ⟨k - 1, by omega⟩
      have hm : a ∈ l := by rw [he]; exact g_mem hn
      have hix : l.idxOf a = n := by
        obtain ⟨h1, h2⟩ := idx_g hm
        rcases Nat.lt_trichotomy (l.idxOf a) n with h3 | h3 | h3
        · exact absurd h2 (hq _ h3)
        · exact h3
        · exfalso
          have h4 : g l n = l[n] := gD hn 0
          have := List.not_of_lt_findIdx (xs := l) (p := fun x => x == a) (i := n) (by simpa [List.idxOf] using h3)
          rw [← h4, ← he] at this
          simp at this
      rw [slices_Index_int_int.l1, if_pos c2, if_pos c1, if_pos c2, tn, if_pos he, if_pos hm, hix]
    · have ih := index_l1 l a hl d (n + 1) (by omega) (fun q hq2 => by
        by_cases h1 : q < n
        · exact hq q h1
        · obtain rfl : q = n := by omega
          exact fun e => he e.symm)
      refine Ev.succ (fun k => ?_) ih
      rw [slices_Index_int_int.l1, if_pos c2, if_pos c1, if_pos c2, tn, if_neg he, Wn (by omega)]
theorem index_ev (l : List Int) (a : Int) (hl : l.length ≤ 100000) : Ev (fun k => slices_Index_int_int.f k l a) (if a ∈ l then ((l.idxOf a : Nat) : Int) else -1) := by
  refine Ev.bind (index_l1 l a hl l.length 0 rfl (fun q hq => absurd hq (Nat.not_lt_zero _))) (Ev.const ?_)
  by_cases h : a ∈ l
  · rw [if_pos h, if_pos h]; rfl
  · rw [if_neg h, if_neg h]; rfl
theorem utility_ev {l : List S48} (h : okB l) {d : S29} (h0 : d.f0.length ≤ 100) (h1 : d.f1.length = d.f0.length) (h2 : d.f2.length = d.f0.length) (h3 : ∀ i, -100000000000 ≤ g d.f2 i ∧ g d.f2 i ≤ 100000000000) (w : Int) :
    Ev (fun k => auction_Utility.f k l d w) (if w ∈ d.f0 then Vv l w (g d.f1 (d.f0.idxOf w)) - g d.f2 (d.f0.idxOf w) else 0) := by
  refine Ev.bind (index_ev d.f0 w (by omega)) ?_
  by_cases hw : w ∈ d.f0
  · obtain ⟨i1, i2⟩ := idx_g hw
    rw [if_pos hw, if_pos hw]
    refine Ev.congr (fun k => if_neg (by omega)) (Ev.bind (values_ev (by have := h.n64; omega)) ?_)
    refine Ev.congr (fun k => if_pos (by omega)) (Ev.congr (fun k => if_pos (by omega)) (Ev.congr (fun k => if_pos (by omega)) (Ev.congr (fun k => if_pos (by omega)) (Ev.const ?_))))
    rw [tn, vmap_get h.nd]
    have := h.vb w (g d.f1 (d.f0.idxOf w))
    have := h3 (d.f0.idxOf w)
    exact congrArg some (W64 (by show _ ≤ Vv l w (g d.f1 (d.f0.idxOf w)) - g d.f2 (d.f0.idxOf w); omega) (by show Vv l w (g d.f1 (d.f0.idxOf w)) - g d.f2 (d.f0.idxOf w) ≤ _; omega))
  · rw [if_neg hw, if_neg hw]
    exact Ev.congr (fun k => if_pos (by decide)) (Ev.const rfl)
theorem sm_bound {f : Nat → Int} (hf : ∀ i, 0 ≤ f i ∧ f i ≤ 1073741824) : ∀ n, 0 ≤ sm f n ∧ sm f n ≤ 1073741824 * (n : Int)
  | 0 => by simp [sm]
  | n + 1 => by
    have h1 := sm_bound hf n
    have h2 := hf n
    simp only [sm]
    omega
theorem welfare_l1 {l : List S48} (h : okB l) (d : S29) (h0 : d.f0.length ≤ 100) (h1 : d.f1.length = d.f0.length) : ∀ (q n : Nat), q + n = d.f0.length → Ev (fun k => auction_Welfare.l1 d (vmap l) k (sm (fun i => Vv l (g d.f0 i) (g d.f1 i)) n) (n : Int)) (sm (fun i => Vv l (g d.f0 i) (g d.f1 i)) d.f0.length)
  | 0, n, e => by
    obtain rfl : n = d.f0.length := by omega
    exact Ev.succ (g := fun _ => some _) (fun k => by rw [auction_Welfare.l1, if_neg (by omega)]) (Ev.const rfl)
  | q + 1, n, e => by
    have ih := welfare_l1 h d h0 h1 q (n + 1) (by omega)
    have hb := sm_bound (f := fun i => Vv l (g d.f0 i) (g d.f1 i)) (fun i => h.vb _ _) n
    have hv := h.vb (g d.f0 n) (g d.f1 n)
    refine Ev.succ (fun k => ?_) ih
    rw [auction_Welfare.l1, if_pos (by omega), if_pos (by omega), if_pos (by omega), if_pos (by omega), if_pos (by omega), tn, vmap_get h.nd, Wn (by omega)]
    have e2 : W .i64 (sm (fun i => Vv l (g d.f0 i) (g d.f1 i)) n + Vv l (d.f0.getD n 0) (d.f1.getD n 0)) = sm (fun i => Vv l (g d.f0 i) (g d.f1 i)) (n + 1) := W64 (by show _ ≤ sm _ n + Vv l (g d.f0 n) (g d.f1 n); omega) (by show sm _ n + Vv l (g d.f0 n) (g d.f1 n) ≤ _; omega)
    rw [e2]
theorem welfare_ev {l : List S48} (h : okB l) (d : S29) (h0 : d.f0.length ≤ 100) (h1 : d.f1.length = d.f0.length) : Ev (fun k => auction_Welfare.f k l d) (sm (fun i => Vv l (g d.f0 i) (g d.f1 i)) d.f0.length) :=
  Ev.bind (values_ev (by have := h.n64; omega)) (Ev.bind (welfare_l1 h d h0 h1 d.f0.length 0 rfl) (Ev.const rfl))
theorem no_slot {l : List S48} (h : okB l) (w : Int) : Vv l w (-1) = 0 := Vv_zero (.inr (fun hm => by
  obtain ⟨x, hx, e⟩ := List.mem_map.1 (dist_mem.1 hm)
  have := (h.rg x hx).2.1
  omega))
section
variable {l : List S48} {d : S29} {σ : Int → Option Int} {X : Int} {Y : Int → Int}
theorem Cl.slotV (c : Cl l d σ X Y) (h : okB l) {i : Nat} (hi : i < (ws l).length) : Vv l (g (ws l) i) (g d.f1 i) = pay (Vv l) σ (g (ws l) i) := by
  rw [c.slot i hi]
  unfold pay
  cases σ (g (ws l) i) with
  | none => exact no_slot h _
  | some s => rfl
theorem Cl.welfare (c : Cl l d σ X Y) (h : okB l) : Ev (fun k => auction_Welfare.f k l d) X := by
  have hn := h.nw
  have h1 := welfare_ev h d (by rw [c.who]; omega) (by rw [c.who, c.sl])
  have e : sm (fun i => Vv l (g d.f0 i) (g d.f1 i)) d.f0.length = X := by
    rw [c.who, ← c.tv]
    have h2 := sm_list (pay (Vv l) σ) (ws l) (ws l).length (Nat.le_refl _)
    rw [List.take_length] at h2
    show _ = ((ws l).map _).sum
    rw [← h2]
    exact sm_congr _ (fun i hi => c.slotV h hi)
  rwa [e] at h1
theorem Cl.pb (c : Cl l d σ X Y) (h : okB l) (i : Nat) : -100000000000 ≤ g d.f2 i ∧ g d.f2 i ≤ 100000000000 := by
  by_cases hi : i < (ws l).length
  · rw [c.price i hi]
    cases e : σ (g (ws l) i) with
    | none =>
      show (-100000000000 : Int) ≤ 0 ∧ (0:Int) ≤ 100000000000
      decide
    | some s =>
      have := c.xb
      have := c.yb (g (ws l) i)
      have := h.vb (g (ws l) i) s
      show _ ≤ Y (g (ws l) i) - (X - Vv l (g (ws l) i) s) ∧ Y (g (ws l) i) - (X - Vv l (g (ws l) i) s) ≤ _
      omega
  · have : g d.f2 i = 0 := by
      show d.f2.getD i 0 = 0
      rw [List.getD_eq_getElem?_getD, List.getElem?_eq_none (by rw [c.pl]; omega)]; rfl
    rw [this]; decide
/-- A bidder without a slot may leave. -/
theorem Cl.idle (c : Cl l d σ X Y) {w : Int} (hw : w ∈ ws l) (h0 : σ w = none) : Y w = X := Om.leave (dist_nodup _) hw c.inj c.om c.tv (by unfold pay; rw [h0]) (c.y w hw)
theorem Cl.yx (c : Cl l d σ X Y) {w : Int} (hw : w ∈ ws l) : Y w ≤ X := c.om.less (dist_nodup _) (c.y w hw)
theorem Cl.rest (c : Cl l d σ X Y) {w : Int} (hw : w ∈ ws l) : X - pay (Vv l) σ w ≤ Y w := by
  have := (c.y w hw).others (dist_nodup _) hw c.inj
  rwa [c.tv] at this
theorem Cl.shaped (c : Cl l d σ X Y) : armillarylaw23_shaped.f d = some true := by
  unfold armillarylaw23_shaped.f armillarylaw23_shaped.k1
  rw [if_pos (by rw [c.sl, c.who]), c.pl, c.who]
  simp
end

/-! ### comparisons -/
theorem sameI_l1 (a b : List Int) (hl : a.length = b.length) (ha : a.length ≤ 100000) (he : ∀ i, i < a.length → g a i = g b i) : ∀ (d n : Nat), d + n = a.length → Ev (fun k => armillarylaw23_sameInts.l1 a b k (n : Int)) (.inl ())
  | 0, n, h => Ev.succ (g := fun _ => some _) (fun k => by rw [armillarylaw23_sameInts.l1, if_neg (by omega)]) (Ev.const rfl)
  | d + 1, n, h => by
    have ih := sameI_l1 a b hl ha he d (n + 1) (by omega)
    refine Ev.succ (fun k => ?_) ih
    have e : ¬ (a.getD n 0 ≠ b.getD n 0) := fun h1 => h1 (he n (by omega))
    rw [armillarylaw23_sameInts.l1, if_pos (by omega), if_pos (by omega), if_pos (by omega), if_pos (by omega), if_pos (by omega), tn, if_neg e, Wn (by omega)]
theorem sameI {a b : List Int} (ha : a.length ≤ 100000) (e : a = b) : Ev (fun k => armillarylaw23_sameInts.f k a b) true := by
  subst e
  exact Ev.congr (fun k => if_neg (fun h => h rfl)) (Ev.bind (sameI_l1 a a rfl ha (fun _ _ => rfl) a.length 0 rfl) (Ev.const rfl))
theorem sameA_l1 (a : S29) (h1 : a.f1.length = a.f0.length) (h2 : a.f2.length = a.f0.length) (ha : a.f0.length ≤ 100000) : ∀ (d n : Nat), d + n = a.f0.length → Ev (fun k => armillaryref23_Same.l1 a a k (n : Int)) (.inl ())
  | 0, n, h => Ev.succ (g := fun _ => some _) (fun k => by rw [armillaryref23_Same.l1, if_neg (by omega)]) (Ev.const rfl)
  | d + 1, n, h => by
    have ih := sameA_l1 a h1 h2 ha d (n + 1) (by omega)
    have c1 : (0 : Int) ≤ (n : Int) := by omega
    have c2 : (n : Int) < (a.f0.length : Int) := by omega
    have c3 : (n : Int) < (a.f1.length : Int) := by omega
    have c4 : (n : Int) < (a.f2.length : Int) := by omega
    refine Ev.succ (fun k => ?_) ih
    simp only [armillaryref23_Same.l1, c1, c2, c3, c4, if_true, tn, ne_eq, not_true_eq_false, if_false, bne_self_eq_false, Option.bind_some, Bool.false_eq_true, Wn (show n < 1000000000000 by omega)]
theorem sameA {a b : S29} (h1 : a.f1.length = a.f0.length) (h2 : a.f2.length = a.f0.length) (ha : a.f0.length ≤ 100000) (e : a = b) : Ev (fun k => armillaryref23_Same.f k a b) true := by
  subst e
  refine Ev.bind (r := false) ?_ (Ev.congr (fun k => if_neg (by decide)) (Ev.bind (sameA_l1 a h1 h2 ha a.f0.length 0 rfl) (Ev.const rfl)))
  refine Ev.const ?_
  rw [if_neg (fun h => h rfl), if_neg (fun h => h rfl), if_neg (fun h => h rfl), if_neg (fun h => h (by omega)), h2]
  simp
end Go.Proofs.Ytihmbmeelheinaa.auc
namespace Go.Proofs.Ytihmbmeelheinaa.auc
open Go Go.Proofs.Ytihmbmeelheinaa Go.Proofs.Ytihmbmeelheinaa.RW Go.Proofs.Ytihmbmeelheinaa.hun
set_option linter.unusedVariables false
set_option maxRecDepth 100000
theorem nodup_sub : ∀ {a b : List Int}, a.Nodup → (∀ x ∈ a, x ∈ b) → a.length ≤ b.length
  | [], b, _, _ => Nat.zero_le _
  | x :: a, b, hn, h => by
    rw [List.nodup_cons] at hn
    have hx := h x List.mem_cons_self
    have h1 := nodup_sub (b := b.erase x) hn.2 (fun y hy => by
      have : y ≠ x := fun e => hn.1 (e ▸ hy)
      exact (List.mem_erase_of_ne this).2 (h y (List.mem_cons_of_mem _ hy)))
    have h2 := List.length_erase_of_mem hx
    have h3 := List.length_pos_of_mem hx
    simp only [List.length_cons]
    omega
/-- The places a bid that is made may name. -/
def gridE (x : S48) : Prop := x.f0 ∈ [0, 7, 14, 21, 28, (35 : Int)] ∧ x.f1 ∈ [0, 3, 6, 9, 12, (15 : Int)]
structure okG (n : Nat) (v : Int) (l : List S48) : Prop where
  len : l.length ≤ n
  nd : (l.map key).Nodup
  gr : ∀ x ∈ l, gridE x
  vb : ∀ x ∈ l, 1 ≤ x.f2 ∧ x.f2 ≤ v
theorem okG.ok {n : Nat} {v : Int} {l : List S48} (h : okG n v l) (hn : n ≤ 64) (hv : v ≤ 1073741824) : okB l := by
  have hw : (ws l).length ≤ 6 := nodup_sub (b := [0, 7, 14, 21, 28, (35 : Int)]) (dist_nodup _) (fun x hx => by
    obtain ⟨y, hy, rfl⟩ := List.mem_map.1 (dist_mem.1 hx)
    exact (h.gr y hy).1)
  have hs : (ss l).length ≤ 6 := nodup_sub (b := [0, 3, 6, 9, 12, (15 : Int)]) (dist_nodup _) (fun x hx => by
    obtain ⟨y, hy, rfl⟩ := List.mem_map.1 (dist_mem.1 hx)
    exact (h.gr y hy).2)
  refine ⟨by have := h.len; omega, h.nd, fun x hx => ?_, by omega, by omega⟩
  obtain ⟨g1, g2⟩ := h.gr x hx
  have h3 := h.vb x hx
  simp only [List.mem_cons, List.not_mem_nil, or_false] at g1 g2
  unfold rgE
  omega
theorem and255 (x : Int) : 0 ≤ bAnd .i64 x 255 ∧ bAnd .i64 x 255 ≤ 255 := by
  have h : ((BitVec.ofInt 64 x &&& 255#64).toNat) ≤ 255 := by
    rw [BitVec.toNat_and]
    exact Nat.and_le_right
  show 0 ≤ W .i64 (((BitVec.ofInt 64 x &&& 255#64).toNat : Nat) : Int) ∧ W .i64 (((BitVec.ofInt 64 x &&& 255#64).toNat : Nat) : Int) ≤ 255
  rw [W64 (by omega) (by omega)]
  omega
/-- What one drawn bid becomes. -/
def mk1 (x : S48) : S48 := ⟨W .i64 (((bAnd .i64 x.f0 255).tmod 6) * 7), W .i64 (((bAnd .i64 x.f1 255).tmod 6) * 3), W .i64 (1 + ((W .i64 ((x.f2.tmod 1048576) + 1048576)).tmod 1048576))⟩
theorem mk1_f0 (x : S48) : (mk1 x).f0 = (bAnd .i64 x.f0 255 % 6) * 7 := by
  obtain ⟨h1, h2⟩ := and255 x.f0
  show W .i64 _ = _
  rw [Int.tmod_eq_emod_of_nonneg h1]
  exact W64 (by omega) (by omega)
theorem mk1_f1 (x : S48) : (mk1 x).f1 = (bAnd .i64 x.f1 255 % 6) * 3 := by
  obtain ⟨h1, h2⟩ := and255 x.f1
  show W .i64 _ = _
  rw [Int.tmod_eq_emod_of_nonneg h1]
  exact W64 (by omega) (by omega)
theorem mk1_grid (x : S48) : gridE (mk1 x) := by
  unfold gridE
  rw [mk1_f0, mk1_f1]
  simp only [List.mem_cons, List.not_mem_nil, or_false]
  omega
theorem mk1_vb (x : S48) : 1 ≤ (mk1 x).f2 ∧ (mk1 x).f2 ≤ 1048576 := by
  show 1 ≤ W .i64 _ ∧ W .i64 _ ≤ _
  have h1 := Int.tmod_lt_of_pos x.f2 (show (0 : Int) < 1048576 by decide)
  have h2 : -1048576 < x.f2.tmod 1048576 := by
    have := Int.lt_tmod_of_pos x.f2 (show (0 : Int) < 1048576 by decide)
    omega
  rw [W64 (x := x.f2.tmod 1048576 + 1048576) (by omega) (by omega), Int.tmod_eq_emod_of_nonneg (by omega), W64 (by omega) (by omega)]
  omega
theorem Vv_one {l : List S48} {w s : Int} (hp : ∀ x ∈ l, 1 ≤ x.f2) (h : Vv l w s = 0) : (w, s) ∉ l.map key := by
  intro hm
  obtain ⟨y, hy, e⟩ := List.mem_map.1 hm
  rcases Vv_mem (l := l) (w := w) (s := s) with ⟨z, hz, e1, e2⟩ | ⟨h1, _⟩
  · have := hp z hz; omega
  · exact h1 y hy e
/-- One more bid, unless its place is taken. -/
def add1 (l : List S48) (x : S48) : List S48 := if Vv l x.f0 x.f1 = 0 then l ++ [x] else l
theorem okG.add {n : Nat} {v : Int} {l : List S48} (h : okG n v l) {x : S48} (hg : gridE x) (hv : 1 ≤ x.f2 ∧ x.f2 ≤ v) : okG (n + 1) v (add1 l x) := by
  unfold add1
  split
  · rename_i h0
    refine ⟨by rw [List.length_append, List.length_singleton]; have := h.len; omega, ?_, fun y hy => ?_, fun y hy => ?_⟩
    · rw [List.map_append, List.nodup_append]
      refine ⟨h.nd, by simp, fun a ha b hb e => ?_⟩
      rw [List.map_singleton, List.mem_singleton] at hb
      rw [hb] at e
      rw [e] at ha
      exact Vv_one (fun y hy => (h.vb y hy).1) h0 ha
    · rcases List.mem_append.1 hy with hy | hy
      · exact h.gr y hy
      · rw [List.mem_singleton.1 hy]; exact hg
    · rcases List.mem_append.1 hy with hy | hy
      · exact h.vb y hy
      · rw [List.mem_singleton.1 hy]; exact hv
  · exact ⟨by have := h.len; omega, h.nd, h.gr, h.vb⟩
theorem made_l1 (a : List S48) (ha : a.length ≤ 9223372036854775807) : ∀ (d n : Nat) (x : List S48), d + n = a.length → okG 36 1048576 x → ∃ r, okG 36 1048576 r ∧ Ev (fun k => armillaryref23_Made.l1 a k x (n : Int)) r
  | 0, n, x, h, hx => ⟨x, hx, Ev.succ (g := fun _ => some x) (fun k => by rw [armillaryref23_Made.l1, if_neg (by omega), Option.bind_some, if_neg (by decide)]) (Ev.const rfl)⟩
  | d + 1, n, x, h, hx => by
    have hn : n < a.length := by omega
    have c1 : (0 : Int) ≤ (n : Int) := by omega
    have c2 : (n : Int) < (a.length : Int) := by omega
    have e1 : W .i64 ((n : Int) + 1) = ((n + 1 : Nat) : Int) := by rw [W64 (by omega) (by omega)]; rfl
    by_cases hl : x.length < 36
    · have hx2 : okG 35 1048576 x := ⟨by omega, hx.nd, hx.gr, hx.vb⟩
      obtain ⟨r, hr, ih⟩ := made_l1 a ha d (n + 1) (add1 x (mk1 (a.getD n z48))) (by omega) (hx2.add (mk1_grid _) (mk1_vb _))
      refine ⟨r, hr, ?_⟩
      have hv := value_ev x (mk1 (a.getD n z48)).f0 (mk1 (a.getD n z48)).f1 (by omega)
      have c3 : (x.length + [mk1 (a.getD n z48)].length) * 24 ≤ 140737488355328 := by simp only [List.length_singleton]; omega
      refine Ev.succ (g := fun k => (armillaryref23_Value.f k x (mk1 (a.getD n z48)).f0 (mk1 (a.getD n z48)).f1).bind fun t1 => ((if t1 = 0 then (if (x.length + [mk1 (a.getD n z48)].length) * 24 ≤ 140737488355328 then some (x ++ [mk1 (a.getD n z48)]) else none) else some x).bind fun x5 => armillaryref23_Made.l1 a k x5 (W .i64 ((n : Int) + 1)))) (fun k => ?_) ?_
      · rw [armillaryref23_Made.l1, if_pos c2, Option.bind_some, if_pos (by simp only [decide_eq_true_eq]; omega), if_pos c1, if_pos c2, if_pos c1, if_pos c2, if_pos c1, if_pos c2, tn]
        rfl
      · refine Ev.bind hv ?_
        rw [e1]
        have e2 : (if Vv x (mk1 (a.getD n z48)).f0 (mk1 (a.getD n z48)).f1 = 0 then (if (x.length + [mk1 (a.getD n z48)].length) * 24 ≤ 140737488355328 then some (x ++ [mk1 (a.getD n z48)]) else none) else some x) = some (add1 x (mk1 (a.getD n z48))) := by
          unfold add1
          rw [if_pos c3]
          split <;> rfl
        exact Ev.bind1 e2 ih
    · exact ⟨x, hx, Ev.succ (g := fun _ => some x) (fun k => by rw [armillaryref23_Made.l1, if_pos c2, Option.bind_some, if_neg (by simp only [decide_eq_true_eq]; omega)]) (Ev.const rfl)⟩
theorem made_ev {a : List S48} (ha : a.length ≤ 9223372036854775807) : ∃ r, okG 36 1048576 r ∧ Ev (fun k => armillaryref23_Made.f k a) r := by
  obtain ⟨r, h1, h2⟩ := made_l1 a ha a.length 0 [] rfl ⟨by simp, by simp, (fun x hx => by cases hx), (fun x hx => by cases hx)⟩
  exact ⟨r, h1, Ev.bind h2 (Ev.const rfl)⟩
/-- One drawn bid alone. -/
theorem made_one (x : S48) : Ev (fun k => armillaryref23_Made.f k [x]) [mk1 x] := by
  have hv := value_ev [] (mk1 x).f0 (mk1 x).f1 (by simp)
  refine Ev.bind (Ev.succ (g := fun k => (armillaryref23_Value.f k [] (mk1 x).f0 (mk1 x).f1).bind fun t1 => ((if t1 = 0 then (if (([] : List S48).length + [mk1 x].length) * 24 ≤ 140737488355328 then some ([] ++ [mk1 x]) else none) else some []).bind fun x5 => armillaryref23_Made.l1 [x] k x5 1)) (fun k => ?_) ?_) (Ev.const rfl)
  · rw [armillaryref23_Made.l1, if_pos (by simp), Option.bind_some, if_pos (by simp), if_pos (by simp), if_pos (by simp), if_pos (by simp), if_pos (by simp), if_pos (by simp), if_pos (by simp)]
    rfl
  · refine Ev.bind hv (Ev.bind1 (r := [mk1 x]) ?_ ?_)
    · have : Vv [] (mk1 x).f0 (mk1 x).f1 = 0 := rfl
      rw [if_pos this, if_pos (by simp)]; rfl
    · exact Ev.succ (g := fun _ => some _) (fun k => by rw [armillaryref23_Made.l1, if_neg (by simp), Option.bind_some, if_neg (by decide)]) (Ev.const rfl)

/-! ### cut, changed -/
theorem exc_okG {n : Nat} {v : Int} {l : List S48} (h : okG n v l) (w : Int) : okG n v (exc l w) :=
  ⟨Nat.le_trans (List.length_filter_le _ _) h.len, h.nd.sublist ((List.filter_sublist (l := l)).map _), fun x hx => h.gr x (List.mem_filter.1 hx).1, fun x hx => h.vb x (List.mem_filter.1 hx).1⟩
theorem but_lt {W : List Int} (h : W.Pairwise (fun a b => a < b)) (w : Int) : (but W w).Pairwise (fun a b => a < b) := h.sublist List.filter_sublist
theorem but_mem {W : List Int} {w x : Int} : x ∈ but W w ↔ x ∈ W ∧ x ≠ w := by simp [List.mem_filter]
theorem ws_of {l : List S48} {x : Int} : x ∈ ws l ↔ ∃ y ∈ l, y.f0 = x := by rw [dist_mem, List.mem_map]
theorem ss_of {l : List S48} {x : Int} : x ∈ ss l ↔ ∃ y ∈ l, y.f1 = x := by rw [dist_mem, List.mem_map]
theorem exc_ws (l : List S48) (w : Int) : ws (exc l w) = but (ws l) w := by
  refine lt_uniq (dist_lt _) (but_lt (dist_lt _) w) (fun x => ?_)
  rw [but_mem, ws_of, ws_of]
  constructor
  · rintro ⟨y, hy, rfl⟩
    have := List.mem_filter.1 hy
    exact ⟨⟨y, this.1, rfl⟩, by simpa using this.2⟩
  · rintro ⟨⟨y, hy, rfl⟩, h⟩
    exact ⟨y, List.mem_filter.2 ⟨hy, by simpa using h⟩, rfl⟩
/-- Two lists of bids that hold the same bids for a bidder give it the same values. -/
theorem Vv_same {l l' : List S48} (h : (l.map key).Nodup) (h' : (l'.map key).Nodup) {w : Int} (e : ∀ x, x.f0 = w → (x ∈ l ↔ x ∈ l')) (s : Int) : Vv l w s = Vv l' w s := by
  rcases Vv_mem (l := l) (w := w) (s := s) with ⟨y, hy, e1, e2⟩ | ⟨h1, h2⟩
  · have e3 : y.f0 = w := congrArg Prod.fst e1
    have e4 : y.f1 = s := congrArg Prod.snd e1
    rw [e2, ← Vv_of h' ((e y e3).1 hy), e3, e4]
  · rcases Vv_mem (l := l') (w := w) (s := s) with ⟨y, hy, e1, e2⟩ | ⟨h3, h4⟩
    · have e3 : y.f0 = w := congrArg Prod.fst e1
      exact absurd e1 (h1 y ((e y e3).2 hy))
    · rw [h2, h4]
theorem exc_Vv {l : List S48} (h : (l.map key).Nodup) {w v : Int} (hv : v ≠ w) (s : Int) : Vv (exc l w) v s = Vv l v s :=
  Vv_same (h.sublist ((List.filter_sublist (l := l)).map _)) h (fun x hx => by rw [List.mem_filter]; simp [hx, hv]) s
/-- Values by a factor. -/
abbrev sca (c : Int) (l : List S48) : List S48 := l.map fun x => ⟨x.f0, x.f1, x.f2 * c⟩
theorem sca_find (c : Int) (p : Int × Int → Bool) : ∀ l : List S48, (sca c l).find? (fun x => p (key x)) = (l.find? (fun x => p (key x))).map (fun x => ⟨x.f0, x.f1, x.f2 * c⟩)
  | [] => rfl
  | x :: l => by
    show List.find? _ ((⟨x.f0, x.f1, x.f2 * c⟩ : S48) :: sca c l) = _
    rw [List.find?_cons, List.find?_cons, sca_find c p l]
    show (match p (key x) with | true => _ | false => _) = _
    cases p (key x) <;> rfl
theorem sca_Vv (c : Int) (l : List S48) (w s : Int) : Vv (sca c l) w s = c * Vv l w s := by
  have := sca_find c (fun y => decide (y = (w, s))) l
  unfold Vv
  rw [this]
  cases l.find? (fun x => decide (key x = (w, s))) with
  | none => simp
  | some x => exact Int.mul_comm _ _
theorem sca_ws (c : Int) (l : List S48) : ws (sca c l) = ws l := by
  unfold ws sca
  rw [List.map_map]; rfl
theorem sca_ss (c : Int) (l : List S48) : ss (sca c l) = ss l := by
  unfold ss sca
  rw [List.map_map]; rfl
theorem sca_okG {n : Nat} {v c : Int} {l : List S48} (h : okG n v l) (hc : 1 ≤ c) : okG n (v * c) (sca c l) := by
  refine ⟨by rw [List.length_map]; exact h.len, ?_, fun x hx => ?_, fun x hx => ?_⟩
  · show ((l.map _).map key).Nodup
    rw [List.map_map]; exact h.nd
  · obtain ⟨y, hy, rfl⟩ := List.mem_map.1 hx
    exact h.gr y hy
  · obtain ⟨y, hy, rfl⟩ := List.mem_map.1 hx
    have h1 := h.vb y hy
    have h2 : y.f2 * c ≤ v * c := Int.mul_le_mul_of_nonneg_right h1.2 (by omega)
    have h3 : 1 * c ≤ y.f2 * c := Int.mul_le_mul_of_nonneg_right h1.1 (by omega)
    exact ⟨by show 1 ≤ y.f2 * c; omega, h2⟩
/-- One value raised. -/
abbrev rsf (w s b : Int) (x : S48) : S48 := if x.f0 = w ∧ x.f1 = s then ⟨x.f0, x.f1, x.f2 + b⟩ else x
abbrev rsd (w s b : Int) (l : List S48) : List S48 := l.map (rsf w s b)
theorem rsf_key (w s b : Int) (x : S48) : key (rsf w s b x) = key x := by
  unfold rsf; split <;> rfl
theorem rsd_key (w s b : Int) (l : List S48) : (rsd w s b l).map key = l.map key := by
  unfold rsd
  rw [List.map_map]
  exact List.map_congr_left (fun x _ => rsf_key w s b x)
theorem rsd_ws (w s b : Int) (l : List S48) : ws (rsd w s b l) = ws l := by
  unfold ws rsd
  rw [List.map_map]
  congr 1
  exact List.map_congr_left (fun x _ => congrArg Prod.fst (rsf_key w s b x))
theorem rsd_ss (w s b : Int) (l : List S48) : ss (rsd w s b l) = ss l := by
  unfold ss rsd
  rw [List.map_map]
  congr 1
  exact List.map_congr_left (fun x _ => congrArg Prod.snd (rsf_key w s b x))
theorem rsd_okG {n : Nat} {v b w s : Int} {l : List S48} (h : okG n v l) (hb : 0 ≤ b) : okG n (v + b) (rsd w s b l) := by
  refine ⟨by rw [List.length_map]; exact h.len, by rw [rsd_key]; exact h.nd, fun x hx => ?_, fun x hx => ?_⟩
  · obtain ⟨y, hy, rfl⟩ := List.mem_map.1 hx
    have := h.gr y hy
    unfold rsf
    split
    · exact this
    · exact this
  · obtain ⟨y, hy, rfl⟩ := List.mem_map.1 hx
    have := h.vb y hy
    unfold rsf
    split
    · show 1 ≤ y.f2 + b ∧ y.f2 + b ≤ v + b; omega
    · omega
theorem rsd_Vv {l : List S48} {w s b : Int} (h : (l.map key).Nodup) {x : S48} (hx : x ∈ l) (e0 : x.f0 = w) (e1 : x.f1 = s) (v t : Int) : Vv (rsd w s b l) v t = Vv l v t + if v = w ∧ t = s then b else 0 := by
  have h' : ((rsd w s b l).map key).Nodup := by rw [rsd_key]; exact h
  by_cases hc : v = w ∧ t = s
  · obtain ⟨rfl, rfl⟩ := hc
    rw [if_pos ⟨rfl, rfl⟩]
    have h1 := Vv_of h hx
    have h2 : rsf v t b x ∈ rsd v t b l := List.mem_map.2 ⟨x, hx, rfl⟩
    have h3 := Vv_of h' h2
    unfold rsf at h3
    rw [if_pos ⟨e0, e1⟩] at h3
    rw [e0, e1] at h1
    simp only [e0, e1] at h3
    rw [h3, h1]
  · rw [if_neg hc, Int.add_zero]
    rcases Vv_mem (l := l) (w := v) (s := t) with ⟨y, hy, e2, e3⟩ | ⟨h1, h2⟩
    · have e4 : y.f0 = v := congrArg Prod.fst e2
      have e5 : y.f1 = t := congrArg Prod.snd e2
      have h2 : y ∈ rsd w s b l := List.mem_map.2 ⟨y, hy, by unfold rsf; rw [if_neg (by rw [e4, e5]; exact hc)]⟩
      have h3 := Vv_of h' h2
      rw [e4, e5] at h3
      rw [h3, e3]
    · rcases Vv_mem (l := rsd w s b l) (w := v) (s := t) with ⟨y, hy, e2, e3⟩ | ⟨h3, h4⟩
      · have : (v, t) ∈ (rsd w s b l).map key := List.mem_map.2 ⟨y, hy, e2⟩
        rw [rsd_key] at this
        obtain ⟨z, hz, e6⟩ := List.mem_map.1 this
        exact absurd e6 (h1 z hz)
      · rw [h2, h4]
/-- The same bids turned round. -/
theorem rev_okG {n : Nat} {v : Int} {l : List S48} (h : okG n v l) : okG n v l.reverse :=
  ⟨by rw [List.length_reverse]; exact h.len, by rw [List.map_reverse]; exact (List.reverse_perm _).nodup_iff.2 h.nd, fun x hx => h.gr x (List.mem_reverse.1 hx), fun x hx => h.vb x (List.mem_reverse.1 hx)⟩
theorem rev_ws (l : List S48) : ws l.reverse = ws l := dist_congr (fun x => by simp)
theorem rev_ss (l : List S48) : ss l.reverse = ss l := dist_congr (fun x => by simp)
theorem rev_Vv {l : List S48} (h : (l.map key).Nodup) (w s : Int) : Vv l.reverse w s = Vv l w s :=
  Vv_same (by rw [List.map_reverse]; exact (List.reverse_perm _).nodup_iff.2 h) h (fun x _ => List.mem_reverse) s
end Go.Proofs.Ytihmbmeelheinaa.auc
namespace Go.Proofs.Ytihmbmeelheinaa.auc
open Go Go.Proofs.Ytihmbmeelheinaa Go.Proofs.Ytihmbmeelheinaa.RW Go.Proofs.Ytihmbmeelheinaa.hun
set_option linter.unusedVariables false
set_option maxRecDepth 100000
theorem ext_g {a b : List Int} (hl : a.length = b.length) (h : ∀ i, i < a.length → g a i = g b i) : a = b := by
  refine List.ext_getElem hl (fun i h1 h2 => ?_)
  have e1 : g a i = a[i] := gD h1 0
  have e2 : g b i = b[i] := gD h2 0
  rw [← e1, ← e2]
  exact h i h1
theorem cl_scale {l l' : List S48} {d d' : S29} {cols cols' : List Int} {X X' : Int} {Y Y' : Int → Int} {e e' : S62} {c : Int} (hc : 0 < c) (h : okB l) (h' : okB l') (ew : ws l' = ws l) (es : ss l' = ss l) (ev : ∀ w s, Vv l' w s = c * Vv l w s)
    (hs : Solved (tb l) (ss l).length cols e X) (hs' : Solved (tb l') (ss l').length cols' e' X') (k : Cl l d (sg l cols) X Y) (k' : Cl l' d' (sg l' cols') X' Y') : d'.f0 = d.f0 ∧ d'.f1 = d.f1 ∧ (∀ i, g d'.f2 i = c * g d.f2 i) ∧ X' = c * X := by
  have hm := tabL_mx (Vv l) (ws l) (ss l)
  have hm' := tabL_mx (Vv l') (ws l') (ss l')
  have hlen : (tb l').length = (tb l).length := by rw [hm.len, hm'.len, ew]
  have hv' := h'.vw
  rw [es] at hv' hs'
  have hcols : cols = cols' := cols_by hc hlen (fun i j hi hj => by
    rw [hm.at_ i j (by rw [← hm.len]; exact hi) hj, hm'.at_ i j (by rw [ew, ← hm.len]; exact hi) (by rw [es]; exact hj), ev, ew, es]) h.vw hv' hs hs'
  subst hcols
  have hX : X' = c * X := by
    have h1 := k'.om
    rw [ew] at h1
    exact h1.uniq (k.om.scale (Int.le_of_lt hc) (fun w _ s => ev w s))
  have hY : ∀ w ∈ ws l, Y' w = c * Y w := fun w hw => by
    have h1 := k'.y w (by rw [ew]; exact hw)
    rw [ew] at h1
    exact h1.uniq ((k.y w hw).scale (Int.le_of_lt hc) (fun w _ s => ev w s))
  have hσ : ∀ w, sg l' cols w = sg l cols w := fun w => by
    unfold sg
    rw [ew, es, ev]
    have : 0 < c * Vv l w (g (ss l) (g cols ((ws l).idxOf w)).toNat) ↔ 0 < Vv l w (g (ss l) (g cols ((ws l).idxOf w)).toNat) := by
      constructor
      · intro h1
        rw [Int.mul_comm] at h1
        exact Int.pos_of_mul_pos_left h1 hc
      · exact fun h1 => Int.mul_pos hc h1
    simp only [this]
  refine ⟨by rw [k'.who, k.who, ew], ext_g (by rw [k'.sl, k.sl, ew]) (fun i hi => ?_), fun i => ?_, hX⟩
  · rw [k'.sl, ew] at hi
    rw [k'.slot i (by rw [ew]; exact hi), k.slot i hi, ew, hσ]
  · by_cases hi : i < (ws l).length
    · rw [k'.price i (by rw [ew]; exact hi), k.price i hi, ew, hσ]
      cases sg l cols (g (ws l) i) with
      | none => simp
      | some s =>
        show Y' _ - (X' - Vv l' _ s) = c * (Y _ - (X - Vv l _ s))
        rw [hY _ (g_mem hi), hX, ev, Int.mul_sub, Int.mul_sub]
    · have z : ∀ a : List Int, a.length = (ws l).length → g a i = 0 := fun a ha => by
        show a.getD i 0 = 0
        rw [List.getD_eq_getElem?_getD, List.getElem?_eq_none (by omega)]; rfl
      rw [z _ (by rw [k'.pl, ew]), z _ k.pl, Int.mul_zero]

/-! ### sanity -/
theorem valid_range {l : List S48} (hn : l.length ≤ 64) (hd : (l.map key).Nodup) (hr : allR l = false) : Ev (fun k => auction_Valid.f k l) false := by
  have hv := values_ev (l := l) (by omega)
  have hlen : (vmap l).length = l.length := by
    have := (puts_len (f := key) (v := (·.f2)) l []).2.2 ⟨hd, fun x _ hx => by simp at hx⟩
    simpa using this
  have h1 := valid_l1 l (by omega) l.length 0 rfl
  rw [List.drop_zero, if_neg (by rw [hr]; decide)] at h1
  refine Ev.bind (r := false) ?_ ?_
  · refine Ev.congr (fun k => if_neg (by omega)) (Ev.bind hv (Ev.const ?_))
    rw [hlen]; simp
  · exact Ev.congr (fun k => if_neg (by decide)) (Ev.bind h1 (Ev.const rfl))
theorem valid_twice {l : List S48} (hn : l.length ≤ 64) (hd : (vmap l).length ≠ l.length) : Ev (fun k => auction_Valid.f k l) false := by
  have hv := values_ev (l := l) (by omega)
  refine Ev.bind (r := true) ?_ (Ev.congr (fun k => if_pos rfl) (Ev.const rfl))
  refine Ev.congr (fun k => if_neg (by omega)) (Ev.bind hv (Ev.const ?_))
  simp only [Option.some.injEq, bne_iff_ne, ne_eq]
  omega
abbrev sb : List S48 := [⟨2, 6, 3⟩, ⟨1, 5, 10⟩, ⟨2, 5, 7⟩]
theorem sb_ws : ws sb = [1, 2] := lt_uniq (dist_lt _) (by decide) (fun x => by
  rw [ws_of]
  simp only [List.mem_cons, List.not_mem_nil, or_false]
  constructor
  · rintro ⟨y, rfl | rfl | rfl, rfl⟩ <;> simp
  · rintro (rfl | rfl)
    · exact ⟨_, .inr (.inl rfl), rfl⟩
    · exact ⟨_, .inl rfl, rfl⟩)
theorem sb_ss : ss sb = [5, 6] := lt_uniq (dist_lt _) (by decide) (fun x => by
  rw [ss_of]
  simp only [List.mem_cons, List.not_mem_nil, or_false]
  constructor
  · rintro ⟨y, rfl | rfl | rfl, rfl⟩ <;> simp
  · rintro (rfl | rfl)
    · exact ⟨_, .inr (.inl rfl), rfl⟩
    · exact ⟨_, .inl rfl, rfl⟩)
theorem sb_ok : okB sb := ⟨by decide, by decide, by decide, by rw [sb_ws]; decide, by rw [sb_ss]; decide⟩
theorem sb_tb : tb sb = [[10, 0], [7, 3]] := by
  unfold tb
  rw [sb_ws, sb_ss]
  decide
theorem ws_empty : ws [] = [] := lt_uniq (dist_lt _) List.Pairwise.nil (fun x => by rw [ws_of]; simp)
theorem ss_empty : ss [] = [] := lt_uniq (dist_lt _) List.Pairwise.nil (fun x => by rw [ss_of]; simp)
theorem nil_ok : okB [] := ⟨by decide, by decide, by decide, by rw [ws_empty]; decide, by rw [ss_empty]; decide⟩
theorem om_one {V : Int → Int → Int} {w x : Int} (h0 : 0 ≤ x) (h1 : ∀ s, V w s ≤ x) {s : Int} (h2 : V w s = x) : Om V [w] x := by
  refine ⟨fun σ _ => ?_, fun v => some s, fun v hv v' hv' _ _ _ => ?_, ?_⟩
  · show ([w].map _).sum ≤ x
    simp only [List.map_cons, List.map_nil, List.sum_cons, List.sum_nil, pay]
    cases σ w with
    | none => show (0 : Int) + 0 ≤ x; omega
    | some t => have := h1 t; show V w t + 0 ≤ x; omega
  · rw [List.mem_singleton.1 hv, List.mem_singleton.1 hv']
  · show ([w].map _).sum = x
    simp only [List.map_cons, List.map_nil, List.sum_cons, List.sum_nil, pay]
    omega
theorem sb_Vb (w x : Int) (h0 : 0 ≤ x) (h : ∀ y ∈ sb, y.f0 = w → y.f2 ≤ x) (s : Int) : Vv sb w s ≤ x := by
  rcases Vv_mem (l := sb) (w := w) (s := s) with ⟨y, hy, e, e2⟩ | ⟨_, h2⟩
  · rw [e2]; exact h y hy (congrArg Prod.fst e)
  · rw [h2]; exact h0
theorem sb_solved : ∃ e, Solved [[10, 0], [7, 3]] 2 [0, 1] e 13 := by
  have hv : Vw [[10, 0], [7, 3]] 2 := by
    have := sb_ok.vw
    rw [sb_tb, sb_ss] at this
    exact this
  obtain ⟨c, d, V, h1, h2⟩ := solve hv (k := 800) (Nat.le_refl _)
  have h3 : (assign_Solve.f 800 [[10, 0], [7, 3]]).map (·.1) = some [0, 1] := by kernel_rfl
  rw [h1] at h3
  have e : c = [0, 1] := Option.some.inj h3
  subst e
  have : V = 13 := by rw [← h2.val]; kernel_rfl
  subst this
  exact ⟨d, h2⟩
theorem sb_clear : Ev (fun k => auction_Clear.f k sb) ((⟨[1, 2], [5, 6], [4, 0]⟩ : S29), 0) := by
  obtain ⟨d, cols, X, Y, h1, ⟨e, h2⟩, h3⟩ := clear_ev sb_ok
  obtain ⟨e', h4⟩ := sb_solved
  have hv := sb_ok.vw
  rw [sb_tb, sb_ss] at h2 hv
  have hcols : cols = [0, 1] := cols_by (c := 1) (by decide) rfl (fun i j _ _ => by rw [Int.one_mul]) hv hv h2 h4
  have hX : X = 13 := h2.opt.uniq h4.opt
  subst hcols hX
  have k0 := h3.who
  have k1 := h3.sl
  have k2 := h3.pl
  have k3 := h3.slot
  have k4 := h3.price
  have k5 := h3.y
  rw [sb_ws] at k0 k1 k2 k3 k4 k5
  have s1 : sg sb [0, 1] 1 = some 5 := by
    unfold sg
    rw [sb_ws, sb_ss]; decide
  have s2 : sg sb [0, 1] 2 = some 6 := by
    unfold sg
    rw [sb_ws, sb_ss]; decide
  have y1 : Y 1 = 7 := (k5 1 (by simp)).uniq (show Om (Vv sb) [2] 7 from om_one (by decide) (sb_Vb 2 7 (by decide) (by decide)) (s := 5) (by decide))
  have y2 : Y 2 = 10 := (k5 2 (by simp)).uniq (show Om (Vv sb) [1] 10 from om_one (by decide) (sb_Vb 1 10 (by decide) (by decide)) (s := 5) (by decide))
  have a0 := k3 0 (by decide)
  have a1 := k3 1 (by decide)
  have b0 := k4 0 (by decide)
  have b1 := k4 1 (by decide)
  have g0 : g [1, (2:Int)] 0 = 1 := rfl
  have g1 : g [1, (2:Int)] 1 = 2 := rfl
  rw [g0, s1] at a0 b0
  rw [g1, s2] at a1 b1
  have e1 : d.f1 = [5, 6] := ext_g k1 (fun i hi => by
    rw [k1] at hi
    have hi : i < 2 := hi
    match i, hi with
    | 0, _ => exact a0
    | 1, _ => exact a1)
  have v1 : Vv sb 1 5 = 10 := by decide
  have v2 : Vv sb 2 6 = 3 := by decide
  have e2 : d.f2 = [4, 0] := ext_g k2 (fun i hi => by
    rw [k2] at hi
    have hi : i < 2 := hi
    match i, hi with
    | 0, _ =>
      rw [b0]
      show Y 1 - (13 - Vv sb 1 5) = 4
      rw [y1, v1]; rfl
    | 1, _ =>
      rw [b1]
      show Y 2 - (13 - Vv sb 2 6) = 0
      rw [y2, v2]; rfl)
  obtain ⟨f0, f1, f2⟩ := d
  simp only at k0 e1 e2
  subst k0 e1 e2
  exact h1
theorem sb_tab : Ev (fun k => auction_Tabulate.f k sb) ([1, 2], [5, 6], [[10, 0], [7, 3]]) := by
  have := tabulate_ev sb_ok
  rw [sb_ws, sb_ss, sb_tb] at this
  exact this
theorem nil_clear : ∃ d : S29, d.f0 = [] ∧ Ev (fun k => auction_Clear.f k []) (d, 0) := by
  obtain ⟨d, cols, X, Y, h1, ⟨e, h2⟩, h3⟩ := clear_ev nil_ok
  exact ⟨d, by rw [h3.who, ws_empty], h1⟩
theorem bad_clear {l : List S48} (h : Ev (fun k => auction_Valid.f k l) false) : Ev (fun k => auction_Clear.f k l) ((⟨[], [], []⟩ : S29), 1) :=
  Ev.bind h (Ev.congr (fun k => if_neg (by decide)) (Ev.const rfl))
theorem sanity_ev : Ev (fun k => armillarylaw23_sanity.f k) true := by
  obtain ⟨d3, d0, hd3⟩ := nil_clear
  have h4 := bad_clear (valid_twice (l := [⟨1, 1, 1⟩, ⟨1, 1, 2⟩]) (by decide) (by decide))
  have hu : ∀ w, Ev (fun k => auction_Utility.f k sb ⟨[1, 2], [5, 6], [4, 0]⟩ w) (if w ∈ [1, (2:Int)] then Vv sb w (g [5, 6] ([1, (2:Int)].idxOf w)) - g [4, 0] ([1, (2:Int)].idxOf w) else 0) := fun w =>
    utility_ev sb_ok (d := ⟨[1, 2], [5, 6], [4, 0]⟩) (by decide) (by decide) (by decide) (fun i => by
      match i with
      | 0 => decide
      | 1 => decide
      | n + 2 => show -100000000000 ≤ (0:Int) ∧ (0:Int) ≤ 100000000000; decide) w
  have u1 := hu 1
  have u2 := hu 2
  have u9 := hu 9
  have v1 : (if (1:Int) ∈ [1, (2:Int)] then Vv sb 1 (g [5, 6] ([1, (2:Int)].idxOf 1)) - g [4, 0] ([1, (2:Int)].idxOf 1) else 0) = 6 := by decide
  have v2 : (if (2:Int) ∈ [1, (2:Int)] then Vv sb 2 (g [5, 6] ([1, (2:Int)].idxOf 2)) - g [4, 0] ([1, (2:Int)].idxOf 2) else 0) = 3 := by decide
  have v9 : (if (9:Int) ∈ [1, (2:Int)] then Vv sb 9 (g [5, 6] ([1, (2:Int)].idxOf 9)) - g [4, 0] ([1, (2:Int)].idxOf 9) else 0) = 0 := by decide
  rw [v1] at u1
  rw [v2] at u2
  rw [v9] at u9
  have hw := welfare_ev sb_ok ⟨[1, 2], [5, 6], [4, 0]⟩ (by decide) (by decide)
  have w13 : sm (fun i => Vv sb (g [1, 2] i) (g [5, 6] i)) [1, (2:Int)].length = 13 := by decide
  rw [w13] at hw
  have hv := valid_ev sb_ok
  have hv1 := valid_range (l := [⟨1, 1, 0⟩]) (by decide) (by decide) (by decide)
  have hv2 := valid_range (l := [⟨1001, 1, 1⟩]) (by decide) (by decide) (by decide)
  have hs := sameA (a := ⟨[1, 2], [5, 6], [4, 0]⟩) (by decide) (by decide) (by decide) rfl
  refine Ev.bind sb_clear (Ev.bind sb_tab (Ev.bind hd3 (Ev.bind h4 (Ev.bind1 (r := false) rfl ?_))))
  refine Ev.congr (fun k => if_neg (by decide)) (Ev.bind (r := true) ?_ (Ev.const rfl))
  refine Ev.congr (fun k => if_pos rfl) (Ev.bind hs (Ev.congr (fun k => if_pos rfl) ?_))
  have hd0 : (d3.f0.length : Int) = 0 := by rw [d0]; rfl
  iterate 16 refine Ev.congr (fun k => if_pos (by decide)) ?_
  refine Ev.congr (fun k => if_pos rfl) ?_
  refine Ev.congr (fun k => if_pos hd0) (Ev.congr (fun k => if_pos rfl) ?_)
  refine Ev.bind u1 (Ev.congr (fun k => if_pos rfl) ?_)
  refine Ev.bind u2 (Ev.congr (fun k => if_pos rfl) ?_)
  refine Ev.bind u9 (Ev.congr (fun k => if_pos rfl) ?_)
  refine Ev.bind hw (Ev.congr (fun k => if_pos rfl) ?_)
  refine Ev.bind hv (Ev.congr (fun k => if_pos rfl) ?_)
  refine Ev.bind hv1 (Ev.congr (fun k => if_neg (by decide)) ?_)
  exact Ev.bind hv2 (Ev.const rfl)
end Go.Proofs.Ytihmbmeelheinaa.auc
namespace Go.Proofs.Ytihmbmeelheinaa.auc
open Go Go.Proofs.Ytihmbmeelheinaa Go.Proofs.Ytihmbmeelheinaa.RW Go.Proofs.Ytihmbmeelheinaa.hun
set_option linter.unusedVariables false
set_option maxRecDepth 100000
section
variable {l : List S48} {d : S29} {σ : Int → Option Int} {X : Int} {Y : Int → Int}
theorem Cl.len0 (k : Cl l d σ X Y) (h : okB l) : d.f0.length = (ws l).length ∧ d.f1.length = (ws l).length ∧ d.f2.length = (ws l).length ∧ (ws l).length ≤ 12 := ⟨by rw [k.who], k.sl, k.pl, h.nw⟩
theorem Cl.pr (k : Cl l d σ X Y) (h : okB l) {i : Nat} (hi : i < (ws l).length) : g d.f2 i = Y (g (ws l) i) - (X - Vv l (g (ws l) i) (g d.f1 i)) ∧ X - Vv l (g (ws l) i) (g d.f1 i) ≤ Y (g (ws l) i) ∧ Y (g (ws l) i) ≤ X := by
  have hm := g_mem hi
  have h1 := k.rest hm
  have h2 := k.yx hm
  rw [← k.slotV h hi] at h1
  refine ⟨?_, h1, h2⟩
  have h3 := k.slotV h hi
  rw [h3, k.price i hi]
  cases e : σ (g (ws l) i) with
  | none =>
    have := k.idle hm e
    unfold pay
    rw [e]
    show 0 = Y _ - (X - 0)
    omega
  | some s =>
    unfold pay
    rw [e]
theorem Cl.util (k : Cl l d σ X Y) (h : okB l) (w : Int) : Ev (fun q => auction_Utility.f q l d w) (if w ∈ ws l then X - Y w else 0) := by
  have hn := h.nw
  have h1 := utility_ev h (d := d) (by rw [k.who]; omega) (by rw [k.who, k.sl]) (by rw [k.who, k.pl]) (k.pb h) w
  rw [k.who] at h1
  have e : (if w ∈ ws l then Vv l w (g d.f1 ((ws l).idxOf w)) - g d.f2 ((ws l).idxOf w) else 0) = if w ∈ ws l then X - Y w else 0 := by
    by_cases hw : w ∈ ws l
    · rw [if_pos hw, if_pos hw]
      obtain ⟨i1, i2⟩ := idx_g hw
      have := (k.pr h i1).1
      rw [i2] at this
      omega
    · rw [if_neg hw, if_neg hw]
  rwa [e] at h1
theorem Cl.slot_neg (k : Cl l d σ X Y) (h : okB l) {i : Nat} (hi : i < (ws l).length) : (σ (g (ws l) i) = none ∧ g d.f1 i = -1) ∨ ∃ s, σ (g (ws l) i) = some s ∧ g d.f1 i = s ∧ 0 ≤ s ∧ 0 < Vv l (g (ws l) i) s := by
  have h1 := k.slot i hi
  cases e : σ (g (ws l) i) with
  | none => rw [e] at h1; exact .inl ⟨rfl, h1⟩
  | some s =>
    rw [e] at h1
    have h2 := k.pos _ _ e
    refine .inr ⟨s, rfl, h1, ?_, h2⟩
    rcases Vv_mem (l := l) (w := g (ws l) i) (s := s) with ⟨y, hy, e1, _⟩ | ⟨_, h3⟩
    · have e2 : y.f1 = s := congrArg Prod.snd e1
      have := (h.rg y hy).2.1
      omega
    · omega
/-- Without one bidder. -/
theorem Cl.without {d' : S29} {σ' : Int → Option Int} {X' : Int} {Y' : Int → Int} (k : Cl l d σ X Y) (h : okB l) {w : Int} (hw : w ∈ ws l) (k' : Cl (exc l w) d' σ' X' Y') : X' = Y w := by
  have h1 := k'.om
  rw [exc_ws] at h1
  exact (h1.congr (fun v hv s => exc_Vv h.nd (but_mem.1 hv).2 s)).uniq (k.y w hw)
end
theorem exc_ok {n : Nat} {v : Int} {l : List S48} (h : okG n v l) (hn : n ≤ 64) (hv : v ≤ 1073741824) (w : Int) : okB (exc l w) := (exc_okG h w).ok hn hv
theorem u8_wf {n : Int} (h : (Lit.int .u8 n).wf = true) : 0 ≤ n ∧ n < 256 := by
  simp [Lit.wf, IntKind.min, IntKind.max, IntKind.signed, IntKind.bits] at h
  omega
theorem u16_wf {n : Int} (h : (Lit.int .u16 n).wf = true) : 0 ≤ n ∧ n < 65536 := by
  simp [Lit.wf, IntKind.min, IntKind.max, IntKind.signed, IntKind.bits] at h
  omega
/-- A byte names one of n. -/
theorem pick {a : Int} {n : Nat} (ha : 0 ≤ a ∧ a < 256) (hn : 0 < n) : ∃ i, i < n ∧ (W .i64 a).tmod (n : Int) = ((i : Nat) : Int) := by
  rw [W64 (by omega) (by omega), Int.tmod_eq_emod_of_nonneg ha.1]
  have h1 := Int.emod_nonneg a (show (n : Int) ≠ 0 by omega)
  have h2 := Int.emod_lt_of_pos a (show (0 : Int) < (n : Int) by omega)
  exact ⟨(a % (n : Int)).toNat, by omega, by omega⟩
end Go.Proofs.Ytihmbmeelheinaa.auc
