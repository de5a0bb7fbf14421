/- A walk's own words, sixth part: memory of the call's own that never turns from now on; rows made; conversions; parts of rows. -/
import Derived.Test.YtieakigoinebdaaRWD
import Derived.Lib.ConvBytes
import Derived.Laws.BytesArg
namespace Go.Proofs.Ytieakigoinebdaa.RW
open Go Go.RowKit

/-- Further cells that never turn. -/
def Imm.or (I C : Imm) : Imm := fun a => match I a with | some v => some v | none => C a
theorem Imm.le_or (I C : Imm) : I.le (I.or C) := fun a v h => by unfold Imm.or; rw [h]
theorem Imm.or_new {I C : Imm} {a : Addr} {v : Value} (h : (I.or C) a = some v) : I a = some v ∨ (I a = none ∧ C a = some v) := by
  unfold Imm.or at h
  cases hI : I a with
  | some u => rw [hI] at h; exact .inl h
  | none => rw [hI] at h; exact .inr ⟨rfl, h⟩
theorem Imm.or_get {I C : Imm} {a : Addr} {v : Value} (hn : I a = none) (h : C a = some v) : (I.or C) a = some v := by
  unfold Imm.or
  rw [hn]
  exact h

section
variable {P : Program} {c : Code} {Q : Exit → Act → World → Prop} {A : Fr} {K : List (Nat × Value)} {B : Base} {I : Imm} {nx : Nat} {L : List Blk} {X : List Res} {os : List Oper} {p : Nat}

theorem Sat.imm {w : World} (h : Sat B I nx L X w) (C : Imm) (hC : C.at_ w) (hL : ∀ a v, C a = some v → ∀ b ∈ L, b.g ≠ a.block) (hX : ∀ a v, C a = some v → ∀ r ∈ X, ¬ r.fp a.block) (hn : ∀ a v, C a = some v → B.w0.heap.size ≤ a.block) : Sat B (I.or C) nx L X w := by
  refine ⟨h.evo, h.hnx, h.blk, h.own, h.ne, fun r hr => r.ext _ _ w (Imm.le_or I C) (h.res r hr), h.rown, h.rdis, h.rblk, ?_, ?_, ?_, Imm.le_trans h.le (Imm.le_or I C), ?_⟩
  · intro a v ha
    rcases Imm.or_new ha with h1 | ⟨_, h1⟩
    · exact h.im a v h1
    · exact hC a v h1
  · intro a v ha
    rcases Imm.or_new ha with h1 | ⟨_, h1⟩
    · exact h.imL a v h1
    · exact hL a v h1
  · intro a v ha
    rcases Imm.or_new ha with h1 | ⟨_, h1⟩
    · exact h.imX a v h1
    · exact hX a v h1
  · intro a v ha
    rcases Imm.or_new ha with h1 | ⟨_, h1⟩
    · exact h.inew a v h1
    · exact .inr (hn a v h1)

/-- The cells of a row from the head of block g on. -/
def rowImm (g : Nat) (cs : List Value) : Imm := fun a => if a.block = g ∧ a.spot = none then cs[a.off]? else none
theorem rowImm_get {g j : Nat} {cs : List Value} : rowImm g cs ⟨g, j, none⟩ = cs[j]? := by
  unfold rowImm
  rw [if_pos ⟨rfl, rfl⟩]
theorem rowImm_some {g : Nat} {cs : List Value} {a : Addr} {v : Value} (h : rowImm g cs a = some v) : a = ⟨g, a.off, none⟩ ∧ cs[a.off]? = some v := by
  unfold rowImm at h
  split at h
  · rename_i h1
    obtain ⟨b, o, s⟩ := a
    simp only at h1 h ⊢
    exact ⟨by rw [h1.1, h1.2], h⟩
  · cases h

theorem rd_of_reps {α : Type} {d : Ty α} {J : Imm} {g : Nat} {xs : List α} {cs : List Value} (hr : Reps d J xs cs) (hJ : ∀ j u, cs[j]? = some u → J ⟨g, j, none⟩ = some u) (hl : xs.length ≤ 9223372036854775807) : Rd d J (some ⟨g, 0, none⟩) xs := by
  refine ⟨hl, fun _ => ⟨g, 0, rfl, fun j x hj => ?_⟩⟩
  obtain ⟨c, hk, hc⟩ := hr.get j x hj
  refine ⟨c, hk, fun i u hu => ?_⟩
  rw [Nat.zero_add]
  exact hJ _ _ (hc i u hu)

/-- A row of the call's own never turns from now on. -/
theorem Sat.freeze {α : Type} {d : Ty α} {xs : List α} {e : TypeId} {sz : Nat} {S : Option Addr} {n cap m : Nat} {cs : List Value} {w : World} (h : Sat B I nx L X w) (hm : X[m]? = some (orow e sz S n cap cs)) (hr : Reps d I xs cs) (hn : xs.length = n) (hS : ∀ k, B.S k → ∃ b ∈ L, b.g = k) :
    ∃ J, I.le J ∧ n ≤ cap ∧ Rd d J S xs ∧ Sat B J nx L (X.eraseIdx m) w := by
  have ho := h.own_P hm
  have hrm := List.mem_of_getElem? hm
  obtain ⟨hml, hme⟩ := List.getElem?_eq_some_iff.1 hm
  have hsub := h.less (List.Sublist.refl L) (List.eraseIdx_sublist X m)
  rcases ho.2 with ⟨e1, hn0⟩ | ⟨g, cap', cur, e1, _, hg, hc, hmx, hcs, htk⟩
  · obtain rfl : xs = [] := List.eq_nil_of_length_eq_zero (by omega)
    exact ⟨I, Imm.le_refl _, by omega, Rd.nil _ _ _, hsub⟩
  · injection e1 with e1 e2 e3
    subst e1; subst e3
    have hfp : (orow e sz (some ⟨g, 0, none⟩) n cap cs).fp g := ⟨_, rfl, rfl⟩
    have hcell : ∀ j u, cs[j]? = some u → w.cell? ⟨g, j, none⟩ = some u := fun j u hj => by
      have hjl : j < n * sz := by rw [← ho.1]; exact (List.getElem?_eq_some_iff.1 hj).1
      rw [ho.cellAt j hjl]
      exact hj
    refine ⟨I.or (rowImm g cs), Imm.le_or _ _, hc, ?_, hsub.imm (rowImm g cs) (fun a v ha => ?_) (fun a v ha b hb => ?_) (fun a v ha r hr2 => ?_) (fun a v ha => ?_)⟩
    · refine rd_of_reps (hr.ext (Imm.le_or _ _)) (fun j u hj => ?_) (by simp only [maxLen] at hmx; omega)
      refine Imm.or_get ?_ (by rw [rowImm_get]; exact hj)
      cases hI : I ⟨g, j, none⟩ with
      | none => rfl
      | some v => exact absurd hfp (h.imX _ v hI _ hrm)
    · obtain ⟨e4, e5⟩ := rowImm_some ha
      rw [e4]
      exact hcell _ _ e5
    · obtain ⟨e4, _⟩ := rowImm_some ha
      rw [e4]
      exact fun e => h.rblk _ hrm b hb (by rw [e]; exact hfp)
    · obtain ⟨e4, _⟩ := rowImm_some ha
      rw [e4]
      intro hf
      obtain ⟨j, hj, hne, rfl⟩ : ∃ (j : Nat) (hj : j < X.length), j ≠ m ∧ X[j] = r := by
        obtain ⟨q, hq, hqr⟩ := List.getElem_of_mem hr2
        rw [List.length_eraseIdx_of_lt hml] at hq
        rw [List.getElem_eraseIdx] at hqr
        split at hqr
        · exact ⟨q, by omega, by omega, hqr⟩
        · exact ⟨q + 1, by omega, by omega, hqr⟩
      have hp := List.pairwise_iff_getElem.1 h.rdis
      rcases Nat.lt_or_gt_of_ne hne with hlt | hlt
      · exact hp j m hj hml hlt g hf (by rw [hme]; exact hfp)
      · exact hp m j hml hj hlt g (by rw [hme]; exact hfp) hf
    · obtain ⟨e4, _⟩ := rowImm_some ha
      rw [e4]
      rcases (h.rown _ hrm g hfp).2 with h1 | h1
      · exact h1
      · obtain ⟨b, hb, e6⟩ := hS g h1
        exact absurd (by rw [e6]; exact hfp) (h.rblk _ hrm b hb)
theorem RL.freeze {α : Type} {d : Ty α} {xs : List α} {e : TypeId} {sz : Nat} {S : Option Addr} {n cap : Nat} {cs : List Value} (m : Nat) (hm : X[m]? = some (orow e sz S n cap cs)) (hr : Reps d I xs cs) (hn : xs.length = n) (hS : ∀ k, B.S k → ∃ b ∈ L, b.g = k)
    (k : ∀ J, I.le J → n ≤ cap → Rd d J S xs → RL P os Q p A K B J nx L (X.eraseIdx m)) : RL P os Q p A K B I nx L X := by
  intro a w ha hs
  obtain ⟨J, h1, h2, h3, h4⟩ := hs.freeze hm hr hn hS
  exact k J h1 h2 h3 a w ha h4

/-- A known block never turns from now on: it reads as a row. -/
theorem Sat.freezeL {α : Type} {d : Ty α} {xs : List α} {i : Nat} {b : Blk} {w : World} (h : Sat B I nx L X w) (hi : L[i]? = some b) (hr : Reps d I xs b.cs) (hl : xs.length ≤ 9223372036854775807) (hB : B.w0.heap.size ≤ b.g) :
    ∃ J, I.le J ∧ Rd d J (some ⟨b.g, 0, none⟩) xs ∧ Sat B J nx (L.eraseIdx i) X w := by
  have hbm := List.mem_of_getElem? hi
  obtain ⟨hil, hie⟩ := List.getElem?_eq_some_iff.1 hi
  have hsub := h.less (List.eraseIdx_sublist L i) (List.Sublist.refl X)
  refine ⟨I.or (rowImm b.g b.cs), Imm.le_or _ _, ?_, hsub.imm (rowImm b.g b.cs) (fun a v ha => ?_) (fun a v ha b' hb' => ?_) (fun a v ha r hr2 => ?_) (fun a v ha => ?_)⟩
  · refine rd_of_reps (hr.ext (Imm.le_or _ _)) (fun j u hj => ?_) hl
    refine Imm.or_get ?_ (by rw [rowImm_get]; exact hj)
    cases hI : I ⟨b.g, j, none⟩ with
    | none => rfl
    | some v => exact absurd rfl (h.imL _ v hI b hbm)
  · obtain ⟨e4, e5⟩ := rowImm_some ha
    rw [e4]; exact (h.cell hi (a := ⟨b.g, a.off, none⟩) rfl rfl).trans e5
  · obtain ⟨e4, _⟩ := rowImm_some ha
    rw [e4]
    obtain ⟨j, hj, hne, rfl⟩ : ∃ (j : Nat) (hj : j < L.length), j ≠ i ∧ L[j] = b' := by
      obtain ⟨q, hq, hqr⟩ := List.getElem_of_mem hb'
      rw [List.length_eraseIdx_of_lt hil] at hq
      rw [List.getElem_eraseIdx] at hqr
      split at hqr
      · exact ⟨q, by omega, by omega, hqr⟩
      · exact ⟨q + 1, by omega, by omega, hqr⟩
    have hp := List.pairwise_iff_getElem.1 h.ne
    intro e6
    rcases Nat.lt_or_gt_of_ne hne with hlt | hlt
    · exact hp j i hj hil hlt (by rw [hie]; exact e6)
    · exact hp i j hil hj hlt (by rw [hie]; exact e6.symm)
  · obtain ⟨e4, _⟩ := rowImm_some ha
    rw [e4]
    exact h.rblk r hr2 b hbm
  · obtain ⟨e4, _⟩ := rowImm_some ha
    rw [e4]
    exact hB
theorem RL.freezeL {α : Type} {d : Ty α} {xs : List α} (i : Nat) {b : Blk} (hi : L[i]? = some b) (hr : Reps d I xs b.cs) (hl : xs.length ≤ 9223372036854775807) (hB : ∀ w, Sat B I nx L X w → B.w0.heap.size ≤ b.g)
    (k : ∀ J, I.le J → Rd d J (some ⟨b.g, 0, none⟩) xs → RL P os Q p A K B J nx (L.eraseIdx i) X) : RL P os Q p A K B I nx L X := by
  intro a w ha hs
  obtain ⟨J, h1, h2, h3⟩ := hs.freezeL hi hr hl (hB w hs)
  exact k J h1 h2 a w ha h3

/-- A known block becomes a row of the call's own. -/
theorem Sat.toRow {i n sz : Nat} {b : Blk} {w : World} (h : Sat B I nx L X w) (hi : L[i]? = some b) (hn : b.cs.length = n * sz) (hl : n ≤ 9223372036854775807) :
    Sat B I nx (L.eraseIdx i) (X ++ [orow b.ty sz (some ⟨b.g, 0, none⟩) n n b.cs]) w := by
  have hbm := List.mem_of_getElem? hi
  obtain ⟨hil, hie⟩ := List.getElem?_eq_some_iff.1 hi
  have hs := h.less (List.eraseIdx_sublist L i) (List.Sublist.refl X)
  have hoth : ∀ b' ∈ L.eraseIdx i, b'.g ≠ b.g := fun b' hb' => by
    obtain ⟨j, hj, hne, rfl⟩ : ∃ (j : Nat) (hj : j < L.length), j ≠ i ∧ L[j] = b' := by
      obtain ⟨q, hq, hqr⟩ := List.getElem_of_mem hb'
      rw [List.length_eraseIdx_of_lt hil] at hq
      rw [List.getElem_eraseIdx] at hqr
      split at hqr
      · exact ⟨q, by omega, by omega, hqr⟩
      · exact ⟨q + 1, by omega, by omega, hqr⟩
    have hp := List.pairwise_iff_getElem.1 h.ne
    intro e6
    rcases Nat.lt_or_gt_of_ne hne with hlt | hlt
    · exact hp j i hj hil hlt (by rw [hie]; exact e6)
    · exact hp i j hil hj hlt (by rw [hie]; exact e6.symm)
  have hfp : ∀ k, (orow b.ty sz (some ⟨b.g, 0, none⟩) n n b.cs).fp k → k = b.g := by
    rintro k ⟨a, ha, rfl⟩
    injection ha with ha
    rw [← ha]
  refine ⟨hs.evo, hs.hnx, hs.blk, hs.own, hs.ne, ?_, ?_, ?_, ?_, hs.im, hs.imL, ?_, hs.le, hs.inew⟩
  · intro r hr
    rcases List.mem_append.1 hr with hr | hr
    · exact hs.res r hr
    · rw [List.mem_singleton.1 hr]
      exact ⟨hn, .inr ⟨b.g, n, b.cs.toArray, rfl, Nat.zero_le _, h.blk b hbm, Nat.le_refl _, by simp only [maxLen]; omega, by simpa using hn, by rw [← hn]; simp⟩⟩
  · intro r hr k hk
    rcases List.mem_append.1 hr with hr | hr
    · exact hs.rown r hr k hk
    · rw [List.mem_singleton.1 hr] at hk
      rw [hfp k hk]
      exact ⟨h.lt hbm, h.own b hbm⟩
  · rw [List.pairwise_append]
    refine ⟨hs.rdis, List.pairwise_singleton _ _, fun a ha r hr k hk1 hk2 => ?_⟩
    rw [List.mem_singleton.1 hr] at hk2
    rw [hfp k hk2] at hk1
    exact h.rblk a ha b hbm hk1
  · intro r hr b' hb' hf
    rcases List.mem_append.1 hr with hr | hr
    · exact hs.rblk r hr b' hb' hf
    · rw [List.mem_singleton.1 hr] at hf
      exact hoth b' hb' (hfp _ hf)
  · intro a v ha r hr hf
    rcases List.mem_append.1 hr with hr | hr
    · exact hs.imX a v ha r hr hf
    · rw [List.mem_singleton.1 hr] at hf
      exact h.imL a v ha b hbm (hfp _ hf).symm
theorem RL.toRow (i n sz : Nat) {b : Blk} (hi : L[i]? = some b) (hn : b.cs.length = n * sz) (hl : n ≤ 9223372036854775807)
    (k : RL P os Q p A K B I nx (L.eraseIdx i) (X ++ [orow b.ty sz (some ⟨b.g, 0, none⟩) n n b.cs])) : RL P os Q p A K B I nx L X := fun a w ha hs => k a w ha (hs.toRow hi hn hl)

/-- A new row, of nothing but zeros. -/
theorem Reps.zeros {α : Type} {d : Ty α} {I : Imm} {z : α} {zc : Value} (hz : d.K I z [zc]) : ∀ n : Nat, Reps d I (List.replicate n z) (List.replicate n zc)
  | 0 => rfl
  | n + 1 => ⟨[zc], List.replicate n zc, rfl, hz, Reps.zeros hz n⟩
theorem Sat.newRow {w w' : World} (h : Sat B I nx L X w) {e : TypeId} {sz n cap : Nat} {cs : List Value} (ho : w'.ownsRow 0 e sz (.slice (some ⟨nx, 0, none⟩) n cap) n cs) (hg : w.grownBy w' none) : Sat B I w'.heap.size L (X ++ [orow e sz (some ⟨nx, 0, none⟩) n cap cs]) w' := by
  have hnx := h.hnx
  refine h.call (J := I) ⟨⟨hg.os, hg.tape, hg.output, hg.size, fun k hk _ => hg.block k hk (by simp)⟩, Imm.le_refl _, ?_, fun _ _ h => .inl h, ?_, ?_, List.pairwise_singleton _ _, ?_⟩
  · intro a v ha
    have hc := h.im a v ha
    rw [← hc]
    exact look_of_block (w := w) (hg.block _ (look_lt hc) (by simp))
  · intro r hr
    rw [List.mem_singleton.1 hr]
    exact ho
  · intro r hr k hk
    rw [List.mem_singleton.1 hr] at hk
    obtain ⟨a, ha, rfl⟩ := hk
    injection ha with ha
    rw [← ha]
    have := (ho.lt nx rfl).2
    exact ⟨by show w.heap.size ≤ nx; omega, this⟩
  · intro a v ha r hr hk
    rw [List.mem_singleton.1 hr] at hk
    obtain ⟨b, hb, e1⟩ := hk
    injection hb with hb
    have := look_lt (h.im a v ha)
    rw [← hb] at e1
    simp only at e1
    omega
theorem RL.make {T e : TypeId} (x : Int) (kl kc : IntKind) (d : Option Tmp) (zc : Value) (bytes : Nat) (hl : ready os p K d = true)
    (hx : execOp (evalK K) (os.getD p default) = toNext (Instr.makeSlice T (.int kl x) (.int kc x)))
    (hu : P.underlying T = some (.slice e)) (inf : TypeInfo) (hi : P.info? e = some inf) (hz : inf.zero = some zc) (hzc : zc.cells = #[zc]) (hsz : inf.size = 1) (hby : inf.bytes = bytes) (h0 : 0 ≤ x) (hb : bytes * x.toNat ≤ 281474976710656) (hm : x.toNat ≤ 9223372036854775807)
    (kk : ∀ nx', RL P os Q (p + 1) A (putK A K d (.slice (some ⟨nx, 0, none⟩) x.toNat x.toNat)) B I nx' L (X ++ [orow e 1 (some ⟨nx, 0, none⟩) x.toNat x.toNat (List.replicate x.toNat zc)])) : RL P os Q p A K B I nx L X := by
  refine RL.one d (fun v w' => v = .slice (some ⟨nx, 0, none⟩) x.toNat x.toNat ∧ Sat B I w'.heap.size L (X ++ [orow e 1 (some ⟨nx, 0, none⟩) x.toNat x.toNat (List.replicate x.toNat zc)]) w') hl (fun w hs => ?_) (fun v w' hK a' ha' => ?_)
  · have hx' : x = (x.toNat : Int) := by omega
    obtain ⟨w', hr, ho, hg⟩ := run_make_full (P := P) w 0 T e inf zc 1 hu hi hz hsz kl kc x.toNat (by rw [hby]; exact hb) (by simp only [maxLen]; omega) (Nat.zero_le _)
    rw [← hx', hs.hnx] at hr
    rw [hzc, Nat.mul_one, toList_madeCells_one, hs.hnx] at ho
    exact ⟨_, w', by rw [hx]; exact run_toNext hr, rfl, hs.newRow ho hg⟩
  · obtain ⟨rfl, hs⟩ := hK
    exact kk _ a' w' ha' hs

/-! ### elements of rows of the call's own -/
theorem RFacts.own {R : List (Addr × Value)} (xi : Nat) {e : TypeId} {sz : Nat} {S : Option Addr} {n cap : Nat} {cs : List Value} (hX : X[xi]? = some (orow e sz S n cap cs)) {g : Nat} (hS : S = some ⟨g, 0, none⟩) (j : Nat) {v : Value} (hv : cs[j]? = some v) (hR : RFacts B I X R) : RFacts B I X ((⟨g, 0 + j, none⟩, v) :: R) := by
  subst hS
  rw [Nat.zero_add]
  exact RFacts.row xi hX j hv hR
theorem own_addr {w : World} (hs : Sat B I nx L X w) {xi : Nat} {e : TypeId} {sz : Nat} {S : Option Addr} {n cap : Nat} {cs : List Value} (hX : X[xi]? = some (orow e sz S n cap cs)) (hn : 0 < n) : ∃ g, S = some ⟨g, 0, none⟩ ∧ n ≤ cap := by
  have ho := hs.own_P hX
  rcases ho.2 with ⟨e1, h0⟩ | ⟨g, cap', cur, e1, _, _, hc, _⟩
  · omega
  · injection e1 with e1 _ e3
    exact ⟨g, e1, by omega⟩
/-- The address of a row that isn't empty. -/
theorem RL.ownAddr (xi : Nat) {e : TypeId} {sz : Nat} {S : Option Addr} {n cap : Nat} {cs : List Value} (hX : X[xi]? = some (orow e sz S n cap cs)) (hn : 0 < n) (k : ∀ g, S = some ⟨g, 0, none⟩ → RL P os Q p A K B I nx L X) : RL P os Q p A K B I nx L X := by
  intro a w ha hs
  obtain ⟨g, hg, _⟩ := own_addr hs hX hn
  exact k g hg a w ha hs
theorem Reps.scalar_at {α : Type} (z : α) {enc : α → Value} {h1 : ∀ x, (enc x).oneCell' = true} {xs : List α} {cs : List Value} (h : Reps (Ty.scalar enc h1) I xs cs) (i : Int) (h0 : 0 ≤ i) (h2 : i < (xs.length : Int)) :
    ∀ j u, [enc (xs.getD i.toNat z)][j]? = some u → cs[i.toNat * 1 + j]? = some u := by
  have hl : i.toNat < xs.length := by omega
  obtain ⟨c, hk, hc⟩ := h.get i.toNat _ (List.getElem?_eq_getElem hl)
  have hk' : c = [enc xs[i.toNat]] := hk
  subst hk'
  rw [List.getD_eq_getElem?_getD, List.getElem?_eq_getElem hl]
  exact hc

theorem setRow_sat {w : World} (hs : Sat B I nx L X w) {xi : Nat} {e : TypeId} {sz g n cap : Nat} {cs cs' : List Value} (hX : X[xi]? = some (orow e sz (some ⟨g, 0, none⟩) n cap cs)) (cur : Array Value) (hg : w.heap[g]? = some (.cells cur e (0, 0))) (hl : cs'.length = n * sz) (rest : List Value) (hcap : cap * sz = (cs' ++ rest).length) (hn : n ≤ cap) (hm : cap ≤ maxLen) :
    Sat B I nx L (X.set xi (orow e sz (some ⟨g, 0, none⟩) n cap cs')) (w.setRow g (cs' ++ rest).toArray) := by
  have hheap : ∀ k, k ≠ g → (w.setRow g (cs' ++ rest).toArray).heap[k]? = w.heap[k]? := fun k hk => by
    simp only [World.setRow, Array.getElem?_modify]
    rw [if_neg (fun e => hk e.symm)]
  have hsz : (w.setRow g (cs' ++ rest).toArray).heap.size = w.heap.size := by simp [World.setRow]
  have := hs.replace hX (orow e sz (some ⟨g, 0, none⟩) n cap cs') (w' := w.setRow g (cs' ++ rest).toArray) rfl rfl rfl (by rw [hsz]; exact Nat.le_refl _) (fun k hk hf => hheap k (fun e1 => hf (by rw [e1]; exact ⟨_, rfl, rfl⟩)))
    ⟨hl, .inr ⟨g, cap, (cs' ++ rest).toArray, rfl, Nat.zero_le _, setRow_heap w g cur _ e _ hg, hn, hm, by simp [← hcap], by simp [← hl]⟩⟩
    (fun k hk => .inl hk) (fun k hk => by
      obtain ⟨a, ha, rfl⟩ := hk
      injection ha with ha
      rw [← ha, hsz]
      exact (Array.getElem?_eq_some_iff.1 hg).1)
  rwa [hsz, hs.hnx] at this

/-- A store into a row of the call's own. -/
theorem RL.storeRow {T e : TypeId} (sz : Nat) (xi : Nat) {S : Option Addr} {g : Nat} (hS : S = some ⟨g, 0, none⟩) (n cap i : Nat) (cs news : List Value) (v : Value)
    (hl : ready os p K none = true)
    (hx : execOp (evalK K) (os.getD p default) = (Instr.storeAt T (.pointer (some ⟨g, 0 + i * sz, none⟩)) v).bind fun _ => .pure .skip)
    (hz : (P.info? T).map (·.size) = some sz) (hv : v.cells = news.toArray) (hnl : news.length = sz) (hone : ∀ u ∈ news, u.oneCell' = true) (hX : X[xi]? = some (orow e sz S n cap cs)) (hi : i < n)
    (kk : RL P os Q (p + 1) A K B I nx L (X.set xi (orow e sz S n cap (cs.take (i * sz) ++ news ++ cs.drop (i * sz + sz))))) : RL P os Q p A K B I nx L X := by
  subst hS
  intro a w ha hs
  unfold ready at hl
  split at hl
  · cases hl
  · rename_i o ho
    simp only [Bool.and_eq_true, beq_iff_eq, List.all_eq_true] at hl
    obtain ⟨⟨hw, hk1, hk2⟩, hd⟩ := hl
    have hgo : os.getD p default = o := by rw [List.getD_eq_getElem?_getD, ho]; rfl
    rw [drop_get (by rw [ho]; rfl), hgo]
    simp only [wpList]
    rw [if_pos (wantedK_spec ha hw)]
    refine .inl ?_
    unfold Oper.wp
    rw [ha.exec hk1 (fun x hx => hk2 x (by simpa using hx))]
    rw [hgo] at hx
    rw [hx]
    have ho' := hs.own_P hX
    rcases ho'.2 with ⟨e1, h0⟩ | ⟨g', cap', cur, e1, _, hg, hc, hmx, hcs, htk⟩
    · omega
    · injection e1 with e1 _ e3
      injection e1 with e1
      injection e1 with e1
      subst e1; subst e3
      obtain ⟨inf, hinf, hsz⟩ := Option.map_eq_some_iff.1 hz
      have hle : i * sz + sz ≤ n * sz := by rw [← Nat.succ_mul]; exact Nat.mul_le_mul_right _ hi
      have hle2 : n * sz ≤ cap * sz := Nat.mul_le_mul_right _ hc
      have hst := run_storeCells_at P g (i * sz) e news 0 cur w hg (by rw [hnl, hcs]; omega) hone
      simp only [Nat.add_zero] at hst
      have hr : (Instr.storeAt T (.pointer (some ⟨g, 0 + i * sz, none⟩)) v).run P w = .ok () (w.setRow g (cur.toList.take (i * sz) ++ news ++ cur.toList.drop (i * sz + news.length)).toArray) := by
        simp only [Nat.zero_add]
        simp [Instr.storeAt, Instr.sureAddr, storeVar, sizeOf, typeInfo, hinf, hsz, hv, hnl, hst]
      rw [Sem.run_bind', hr]
      show wpList P os.toArray Q (os.drop (p + 1)) (a.put o.dst undef) _
      rw [hd]
      have hcl : cs.length = n * sz := ho'.1
      have hcur : cur.toList = cs ++ cur.toList.drop (n * sz) := by rw [← htk]; exact (List.take_append_drop _ _).symm
      have hnew : cur.toList.take (i * sz) ++ news ++ cur.toList.drop (i * sz + news.length) = (cs.take (i * sz) ++ news ++ cs.drop (i * sz + sz)) ++ cur.toList.drop (n * sz) := by
        rw [hnl]
        conv => lhs; rw [hcur]
        rw [List.take_append_of_le_length (by omega), List.drop_append_of_le_length (by omega)]
        simp only [List.append_assoc]
      rw [hnew]
      refine kk _ _ (ha.put none undef) (setRow_sat hs hX cur hg ?_ _ ?_ hc hmx)
      · simp only [List.length_append, List.length_take, List.length_drop, hnl]; omega
      · simp only [List.length_append, List.length_take, List.length_drop, hnl, Array.length_toList, hcs]; omega
end

end Go.Proofs.Ytieakigoinebdaa.RW
