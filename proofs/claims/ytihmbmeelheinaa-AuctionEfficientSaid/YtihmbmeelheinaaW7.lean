/- Words of the walk, the functions' walks and plain laws, joined; no conditions beyond those that the theorems name. -/
import Derived.Test.YtihmbmeelheinaaW6
import Derived.Test.YtihmbmeelheinaaW5
namespace Go.Proofs.Ytihmbmeelheinaa.auc
open Go Go.Proofs.Ytihmbmeelheinaa Go.Proofs.Ytihmbmeelheinaa.RW Go.Proofs.Ytihmbmeelheinaa.hun
set_option linter.unusedVariables false
set_option maxRecDepth 100000
theorem ext_g {a b : List Int} (hl : a.length = b.length) (h : ∀ i, i < a.length → g a i = g b i) : a = b := by
 refine List.ext_getElem hl (fun i h1 h2 => ?_)
 have e1 : g a i = a[i] := gD h1 0
 have e2 : g b i = b[i] := gD h2 0
 rw [← e1, ← e2]
 exact h i h1
/-! ### sanity -/
theorem valid_range {l : List S48} (hn : l.length ≤ 64) (hd : (l.map key).Nodup) (hr : allR l = false) : Ev (fun k => auction_Valid.f k l) false := by
 have hv := values_ev (l := l) (by omega)
 have hlen : (vmap l).length = l.length := by
  have := (puts_len (f := key) (v := (·.f2)) l []).2.2 ⟨hd, fun x _ hx => by simp at hx⟩
  simpa using this
 have h1 := valid_l1 l (by omega) l.length 0 rfl
 rw [List.drop_zero, if_neg (by rw [hr]; decide)] at h1
 refine Ev.bind (r := false) ?_ ?_
 ·refine Ev.congr (fun k => if_neg (by omega)) (Ev.bind hv (Ev.const ?_))
  rw [hlen]; simp
 ·exact Ev.congr (fun k => if_neg (by decide)) (Ev.bind h1 (Ev.const rfl))
theorem valid_twice {l : List S48} (hn : l.length ≤ 64) (hd : (vmap l).length ≠ l.length) : Ev (fun k => auction_Valid.f k l) false := by
 have hv := values_ev (l := l) (by omega)
 refine Ev.bind (r := true) ?_ (Ev.congr (fun k => if_pos rfl) (Ev.const rfl))
 refine Ev.congr (fun k => if_neg (by omega)) (Ev.bind hv (Ev.const ?_))
 simp only [Option.some.injEq, bne_iff_ne, ne_eq]
 omega
abbrev sb : List S48 := [⟨2, 6, 3⟩, ⟨1, 5, 10⟩, ⟨2, 5, 7⟩]
theorem sb_ws : ws sb = [1, 2] := lt_uniq (dist_lt _) (by decide) (fun x => by
 rw [ws_of]
 simp only [List.mem_cons, List.not_mem_nil, or_false]
 constructor
 ·rintro ⟨y, rfl | rfl | rfl, rfl⟩ <;> simp
 ·rintro (rfl | rfl)
  ·exact ⟨_, .inr (.inl rfl), rfl⟩
  ·exact ⟨_, .inl rfl, rfl⟩)
theorem sb_ss : ss sb = [5, 6] := lt_uniq (dist_lt _) (by decide) (fun x => by
 rw [ss_of]
 simp only [List.mem_cons, List.not_mem_nil, or_false]
 constructor
 ·rintro ⟨y, rfl | rfl | rfl, rfl⟩ <;> simp
 ·rintro (rfl | rfl)
  ·exact ⟨_, .inr (.inl rfl), rfl⟩
  ·exact ⟨_, .inl rfl, rfl⟩)
theorem sb_ok : okB sb := ⟨by decide, by decide, by decide, by rw [sb_ws]; decide, by rw [sb_ss]; decide⟩
theorem sb_tb : tb sb = [[10, 0], [7, 3]] := by
 unfold tb
 rw [sb_ws, sb_ss]
 decide
theorem ws_empty : ws [] = [] := lt_uniq (dist_lt _) List.Pairwise.nil (fun x => by rw [ws_of]; simp)
theorem ss_empty : ss [] = [] := lt_uniq (dist_lt _) List.Pairwise.nil (fun x => by rw [ss_of]; simp)
theorem nil_ok : okB [] := ⟨by decide, by decide, by decide, by rw [ws_empty]; decide, by rw [ss_empty]; decide⟩
theorem om_one {V : Int → Int → Int} {w x : Int} (h0 : 0 ≤ x) (h1 : ∀ s, V w s ≤ x) {s : Int} (h2 : V w s = x) : Om V [w] x := by
 refine ⟨fun σ _ => ?_, fun v => some s, fun v hv v' hv' _ _ _ => ?_, ?_⟩
 ·show ([w].map _).sum ≤ x
  simp only [List.map_cons, List.map_nil, List.sum_cons, List.sum_nil, pay]
  cases σ w with
  | none => show (0 : Int) + 0 ≤ x; omega
  | some t => have := h1 t; show V w t + 0 ≤ x; omega
 ·rw [List.mem_singleton.1 hv, List.mem_singleton.1 hv']
 ·show ([w].map _).sum = x
  simp only [List.map_cons, List.map_nil, List.sum_cons, List.sum_nil, pay]
  omega
theorem sb_Vb (w x : Int) (h0 : 0 ≤ x) (h : ∀ y ∈ sb, y.f0 = w → y.f2 ≤ x) (s : Int) : Vv sb w s ≤ x := by
 rcases Vv_mem (l := sb) (w := w) (s := s) with ⟨y, hy, e, e2⟩ | ⟨_, h2⟩
 ·rw [e2]; exact h y hy (congrArg Prod.fst e)
 ·rw [h2]; exact h0
theorem sb_solved : ∃ e, Solved [[10, 0], [7, 3]] 2 [0, 1] e 13 := by
 have hv : Vw [[10, 0], [7, 3]] 2 := by
  have := sb_ok.vw
  rw [sb_tb, sb_ss] at this
  exact this
 obtain ⟨c, d, V, h1, h2⟩ := solve hv (k := 800) (Nat.le_refl _)
 have h3 : (assign_Solve.f 800 [[10, 0], [7, 3]]).map (·.1) = some [0, 1] := by kernel_rfl
 rw [h1] at h3
 have e : c = [0, 1] := Option.some.inj h3
 subst e
 have : V = 13 := by rw [← h2.val]; kernel_rfl
 subst this
 exact ⟨d, h2⟩
theorem sb_clear : Ev (fun k => auction_Clear.f k sb) ((⟨[1, 2], [5, 6], [4, 0]⟩ : S29), 0) := by
 obtain ⟨d, cols, X, Y, h1, ⟨e, h2⟩, h3⟩ := clear_ev sb_ok
 obtain ⟨e', h4⟩ := sb_solved
 have hv := sb_ok.vw
 rw [sb_tb, sb_ss] at h2 hv
 have hcols : cols = [0, 1] := cols_by (c := 1) (by decide) rfl (fun i j _ _ => by rw [Int.one_mul]) hv hv h2 h4
 have hX : X = 13 := h2.opt.uniq h4.opt
 subst hcols hX
 have k0 := h3.who
 have k1 := h3.sl
 have k2 := h3.pl
 have k3 := h3.slot
 have k4 := h3.price
 have k5 := h3.y
 rw [sb_ws] at k0 k1 k2 k3 k4 k5
 have s1 : sg sb [0, 1] 1 = some 5 := by
  unfold sg
  rw [sb_ws, sb_ss]; decide
 have s2 : sg sb [0, 1] 2 = some 6 := by
  unfold sg
  rw [sb_ws, sb_ss]; decide
 have y1 : Y 1 = 7 := (k5 1 (by simp)).uniq (show Om (Vv sb) [2] 7 from om_one (by decide) (sb_Vb 2 7 (by decide) (by decide)) (s := 5) (by decide))
 have y2 : Y 2 = 10 := (k5 2 (by simp)).uniq (show Om (Vv sb) [1] 10 from om_one (by decide) (sb_Vb 1 10 (by decide) (by decide)) (s := 5) (by decide))
 have a0 := k3 0 (by decide)
 have a1 := k3 1 (by decide)
 have b0 := k4 0 (by decide)
 have b1 := k4 1 (by decide)
 have g0 : g [1, (2:Int)] 0 = 1 := rfl
 have g1 : g [1, (2:Int)] 1 = 2 := rfl
 rw [g0, s1] at a0 b0
 rw [g1, s2] at a1 b1
 have e1 : d.f1 = [5, 6] := ext_g k1 (fun i hi => by
  rw [k1] at hi
  have hi : i < 2 := hi
  match i, hi with
  | 0, _ => exact a0
  | 1, _ => exact a1)
 have v1 : Vv sb 1 5 = 10 := by decide
 have v2 : Vv sb 2 6 = 3 := by decide
 have e2 : d.f2 = [4, 0] := ext_g k2 (fun i hi => by
  rw [k2] at hi
  have hi : i < 2 := hi
  match i, hi with
  | 0, _ =>
   rw [b0]
   show Y 1 - (13 - Vv sb 1 5) = 4
   rw [y1, v1]; rfl
  | 1, _ =>
   rw [b1]
   show Y 2 - (13 - Vv sb 2 6) = 0
   rw [y2, v2]; rfl)
 obtain ⟨f0, f1, f2⟩ := d
 simp only at k0 e1 e2
 subst k0 e1 e2
 exact h1
theorem sb_tab : Ev (fun k => auction_Tabulate.f k sb) ([1, 2], [5, 6], [[10, 0], [7, 3]]) := by
 have := tabulate_ev sb_ok
 rw [sb_ws, sb_ss, sb_tb] at this
 exact this
theorem nil_clear : ∃ d : S29, d.f0 = [] ∧ Ev (fun k => auction_Clear.f k []) (d, 0) := by
 obtain ⟨d, cols, X, Y, h1, ⟨e, h2⟩, h3⟩ := clear_ev nil_ok
 exact ⟨d, by rw [h3.who, ws_empty], h1⟩
theorem bad_clear {l : List S48} (h : Ev (fun k => auction_Valid.f k l) false) : Ev (fun k => auction_Clear.f k l) ((⟨[], [], []⟩ : S29), 1) :=
 Ev.bind h (Ev.congr (fun k => if_neg (by decide)) (Ev.const rfl))
theorem sanity_ev : Ev (fun k => armillarylaw23_sanity.f k) true := by
 obtain ⟨d3, d0, hd3⟩ := nil_clear
 have h4 := bad_clear (valid_twice (l := [⟨1, 1, 1⟩, ⟨1, 1, 2⟩]) (by decide) (by decide))
 have hu : ∀ w, Ev (fun k => auction_Utility.f k sb ⟨[1, 2], [5, 6], [4, 0]⟩ w) (if w ∈ [1, (2:Int)] then Vv sb w (g [5, 6] ([1, (2:Int)].idxOf w)) - g [4, 0] ([1, (2:Int)].idxOf w) else 0) := fun w =>
  utility_ev sb_ok (d := ⟨[1, 2], [5, 6], [4, 0]⟩) (by decide) (by decide) (by decide) (fun i => by
   match i with
   | 0 => decide
   | 1 => decide
   | n + 2 => show -100000000000 ≤ (0:Int) ∧ (0:Int) ≤ 100000000000; decide) w
 have u1 := hu 1
 have u2 := hu 2
 have u9 := hu 9
 have v1 : (if (1:Int) ∈ [1, (2:Int)] then Vv sb 1 (g [5, 6] ([1, (2:Int)].idxOf 1)) - g [4, 0] ([1, (2:Int)].idxOf 1) else 0) = 6 := by decide
 have v2 : (if (2:Int) ∈ [1, (2:Int)] then Vv sb 2 (g [5, 6] ([1, (2:Int)].idxOf 2)) - g [4, 0] ([1, (2:Int)].idxOf 2) else 0) = 3 := by decide
 have v9 : (if (9:Int) ∈ [1, (2:Int)] then Vv sb 9 (g [5, 6] ([1, (2:Int)].idxOf 9)) - g [4, 0] ([1, (2:Int)].idxOf 9) else 0) = 0 := by decide
 rw [v1] at u1
 rw [v2] at u2
 rw [v9] at u9
 have hw := welfare_ev sb_ok ⟨[1, 2], [5, 6], [4, 0]⟩ (by decide) (by decide)
 have w13 : sm (fun i => Vv sb (g [1, 2] i) (g [5, 6] i)) [1, (2:Int)].length = 13 := by decide
 rw [w13] at hw
 have hv := valid_ev sb_ok
 have hv1 := valid_range (l := [⟨1, 1, 0⟩]) (by decide) (by decide) (by decide)
 have hv2 := valid_range (l := [⟨1001, 1, 1⟩]) (by decide) (by decide) (by decide)
 have hs := sameA (a := ⟨[1, 2], [5, 6], [4, 0]⟩) (by decide) (by decide) (by decide) rfl
 refine Ev.bind sb_clear (Ev.bind sb_tab (Ev.bind hd3 (Ev.bind h4 (Ev.bind1 (r := false) rfl ?_))))
 refine Ev.congr (fun k => if_neg (by decide)) (Ev.bind (r := true) ?_ (Ev.const rfl))
 refine Ev.congr (fun k => if_pos rfl) (Ev.bind hs (Ev.congr (fun k => if_pos rfl) ?_))
 have hd0 : (d3.f0.length : Int) = 0 := by rw [d0]; rfl
 iterate 16 refine Ev.congr (fun k => if_pos (by decide)) ?_
 refine Ev.congr (fun k => if_pos rfl) ?_
 refine Ev.congr (fun k => if_pos hd0) (Ev.congr (fun k => if_pos rfl) ?_)
 refine Ev.bind u1 (Ev.congr (fun k => if_pos rfl) ?_)
 refine Ev.bind u2 (Ev.congr (fun k => if_pos rfl) ?_)
 refine Ev.bind u9 (Ev.congr (fun k => if_pos rfl) ?_)
 refine Ev.bind hw (Ev.congr (fun k => if_pos rfl) ?_)
 refine Ev.bind hv (Ev.congr (fun k => if_pos rfl) ?_)
 refine Ev.bind hv1 (Ev.congr (fun k => if_neg (by decide)) ?_)
 exact Ev.bind hv2 (Ev.const rfl)
end Go.Proofs.Ytihmbmeelheinaa.auc
namespace Go.Proofs.Ytihmbmeelheinaa.auc
open Go Go.Proofs.Ytihmbmeelheinaa Go.Proofs.Ytihmbmeelheinaa.RW Go.Proofs.Ytihmbmeelheinaa.hun
set_option linter.unusedVariables false
set_option maxRecDepth 100000
section
variable {l : List S48} {d : S29} {σ : Int → Option Int} {X : Int} {Y : Int → Int}
theorem Cl.len0 (k : Cl l d σ X Y) (h : okB l) : d.f0.length = (ws l).length ∧ d.f1.length = (ws l).length ∧ d.f2.length = (ws l).length ∧ (ws l).length ≤ 12 := ⟨by rw [k.who], k.sl, k.pl, h.nw⟩
theorem Cl.slot_neg (k : Cl l d σ X Y) (h : okB l) {i : Nat} (hi : i < (ws l).length) : (σ (g (ws l) i) = none ∧ g d.f1 i = -1) ∨ ∃ s, σ (g (ws l) i) = some s ∧ g d.f1 i = s ∧ 0 ≤ s ∧ 0 < Vv l (g (ws l) i) s := by
 have h1 := k.slot i hi
 cases e : σ (g (ws l) i) with
 | none => rw [e] at h1; exact .inl ⟨rfl, h1⟩
 | some s =>
  rw [e] at h1
  have h2 := k.pos _ _ e
  refine .inr ⟨s, rfl, h1, ?_, h2⟩
  rcases Vv_mem (l := l) (w := g (ws l) i) (s := s) with ⟨y, hy, e1, _⟩ | ⟨_, h3⟩
  ·have e2 : y.f1 = s := congrArg Prod.snd e1
   have := (h.rg y hy).2.1
   omega
  ·omega
end
theorem u8_wf {n : Int} (h : (Lit.int .u8 n).wf = true) : 0 ≤ n ∧ n < 256 := by
 simp [Lit.wf, IntKind.min, IntKind.max, IntKind.signed, IntKind.bits] at h
 omega
end Go.Proofs.Ytihmbmeelheinaa.auc
