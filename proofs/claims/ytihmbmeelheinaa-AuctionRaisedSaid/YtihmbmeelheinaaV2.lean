/- Words of the walk, the functions' walks and plain laws, joined; no conditions beyond those that the theorems name. -/
import Derived.Test.YtihmbmeelheinaaV1
import Derived.Scope
import Derived.Lib.AppendZeros
import Derived.Shelf.SlIterI.Nil
import Derived.Shelf.SortM.Plain
import Derived.Shelf.SortM.SortNone
import Derived.Ground.GgzProg
import Derived.Ground.SlgmProg
import Derived.Test.YtihmbmeelheinaaProg
import Derived.RangeFuncRecord
import Derived.RangeFuncIn
import Derived.RangeFuncStops
import Derived.RangeFuncCalls
import Derived.OrdersIn
import Derived.OwnWalkIn
import Derived.TacticsIn
import Derived.Laws.StructEq
import Derived.RangeFuncLeaves
import Derived.WideShapes
namespace Go.Proofs.Ytihmbmeelheinaa.RW
open Go Go.RowKit

/-- The blocks of these pieces of memory. -/
def SM (L : List Blk) (X : List Res) : Nat → Prop := fun k => (∃ b ∈ L, b.g = k) ∨ ∃ r ∈ X, r.fp k

section
variable {P : Program} {c : Code} {Q : Exit → Act → World → Prop} {A : Fr} {K : List (Nat × Value)} {B : Base} {I : Imm} {nx : Nat} {L : List Blk} {X : List Res} {os : List Oper} {p : Nat} {w : World}

theorem Sat.fin (h : Sat B I nx L X w) : Sat B I w.heap.size L X w := by rw [h.hnx]; exact h
/-- Into the callee: its part. -/
theorem Sat.into {L1 L2 : List Blk} {X1 X2 : List Res} (h : Sat B I nx (L1 ++ L2) (X1 ++ X2) w) : Sat ⟨w, SM L1 X1, I⟩ I w.heap.size L1 X1 w := by
 have hl := h.less (List.sublist_append_left L1 L2) (List.sublist_append_left X1 X2)
 exact ⟨Evo.refl _ _, rfl, hl.blk, fun b hb => .inr (.inl ⟨b, hb, rfl⟩), hl.ne, hl.res, fun r hr k hk => ⟨by rw [hl.hnx]; exact (hl.rown r hr k hk).1, .inr (.inr ⟨r, hr, hk⟩)⟩, hl.rdis, hl.rblk, hl.im, hl.imL, hl.imX, Imm.le_refl _, fun _ _ h => .inl h⟩
/-- Out of the callee: what it left, and what it never saw. -/
theorem Sat.outof {L1 L2 L1' : List Blk} {X1 X2 X1' : List Res} {J : Imm} {nx' : Nat} {w' : World} (h : Sat B I nx (L1 ++ L2) (X1 ++ X2) w) (c : Sat ⟨w, SM L1 X1, I⟩ J nx' L1' X1' w') : Sat B J nx' (L1' ++ L2) (X1' ++ X2) w' := by
 have hnx := h.hnx
 have key : ∀ k, k < nx → ¬ SM L1 X1 k → w'.heap[k]? = w.heap[k]? := fun k hk hs => c.evo.blk k (by show k < w.heap.size; rw [hnx]; exact hk) hs
 have nL : ∀ b ∈ L2, ¬ SM L1 X1 b.g := by
  rintro b hb (⟨b', hb', e⟩ | ⟨r, hr, hf⟩)
  ·exact (List.pairwise_append.1 h.ne).2.2 b' hb' b hb e
  ·exact h.rblk r (List.mem_append_left _ hr) b (List.mem_append_right _ hb) hf
 have nX : ∀ r ∈ X2, ∀ k, r.fp k → ¬ SM L1 X1 k := by
  rintro r hr k hk (⟨b', hb', e⟩ | ⟨r', hr', hf⟩)
  ·exact h.rblk r (List.mem_append_right _ hr) b' (List.mem_append_left _ hb') (by rw [e]; exact hk)
  ·exact (List.pairwise_append.1 h.rdis).2.2 r' hr' r hr k hf hk
 have old : ∀ b ∈ L2, b.g < nx := fun b hb => h.lt (List.mem_append_right _ hb)
 have oldX : ∀ r ∈ X2, ∀ k, r.fp k → k < nx := fun r hr k hk => (h.rown r (List.mem_append_right _ hr) k hk).1
 have own : ∀ k, w.heap.size ≤ k ∨ SM L1 X1 k → B.w0.heap.size ≤ k ∨ B.S k := by
  rintro k (hk | ⟨b, hb, rfl⟩ | ⟨r, hr, hf⟩)
  ·exact .inl (Nat.le_trans h.evo.size hk)
  ·exact h.own b (List.mem_append_left _ hb)
  ·exact (h.rown r (List.mem_append_left _ hr) k hf).2
 have sz : w.heap.size ≤ w'.heap.size := c.evo.size
 have cnx := c.hnx
 refine ⟨⟨c.evo.os.trans h.evo.os, c.evo.tape.trans h.evo.tape, c.evo.output.trans h.evo.output, Nat.le_trans h.evo.size c.evo.size, fun k hk hs => ?_⟩, c.hnx, ?_, ?_, ?_, ?_, ?_, ?_, ?_, c.im, ?_, ?_, Imm.le_trans h.le c.le, ?_⟩
 ·rw [key k (by rw [← hnx]; exact Nat.lt_of_lt_of_le hk h.evo.size) (fun hS => ?_)]
  ·exact h.evo.blk k hk hs
  ·rcases own k (.inr hS) with h1 | h1
   ·omega
   ·exact hs h1
 ·intro b hb
  rcases List.mem_append.1 hb with hb | hb
  ·exact c.blk b hb
  ·rw [key _ (old b hb) (nL b hb)]
   exact h.blk b (List.mem_append_right _ hb)
 ·intro b hb
  rcases List.mem_append.1 hb with hb | hb
  ·exact own b.g (c.own b hb)
  ·exact h.own b (List.mem_append_right _ hb)
 ·refine List.pairwise_append.2 ⟨c.ne, (List.pairwise_append.1 h.ne).2.1, fun a ha b hb e => ?_⟩
  rcases c.own a ha with h1 | h1
  ·have h2 := old b hb
   have h3 : w.heap.size ≤ a.g := h1
   omega
  ·exact nL b hb (by rw [← e]; exact h1)
 ·intro r hr
  rcases List.mem_append.1 hr with hr | hr
  ·exact c.res r hr
  ·exact r.ext I J w' c.le (r.stable I w w' (fun k hf => key k (oldX r hr k hf) (nX r hr k hf)) (h.res r (List.mem_append_right _ hr)))
 ·intro r hr k hk
  rcases List.mem_append.1 hr with hr | hr
  ·exact ⟨(c.rown r hr k hk).1, own k (c.rown r hr k hk).2⟩
  ·have h1 := h.rown r (List.mem_append_right _ hr) k hk
   exact ⟨by omega, h1.2⟩
 ·refine List.pairwise_append.2 ⟨c.rdis, (List.pairwise_append.1 h.rdis).2.1, fun a ha b hb k hk1 hk2 => ?_⟩
  rcases (c.rown a ha k hk1).2 with h1 | h1
  ·have h2 := oldX b hb k hk2
   have h3 : w.heap.size ≤ k := h1
   omega
  ·exact nX b hb k hk2 h1
 ·intro r hr b hb hf
  rcases List.mem_append.1 hr with hr | hr
  ·rcases List.mem_append.1 hb with hb | hb
   ·exact c.rblk r hr b hb hf
   ·rcases (c.rown r hr _ hf).2 with h1 | h1
    ·have h2 := old b hb
     have h3 : w.heap.size ≤ b.g := h1
     omega
    ·exact nL b hb h1
  ·rcases List.mem_append.1 hb with hb | hb
   ·rcases c.own b hb with h1 | h1
    ·have h2 := oldX r hr _ hf
     have h3 : w.heap.size ≤ b.g := h1
     omega
    ·exact nX r hr _ hf h1
   ·exact h.rblk r (List.mem_append_right _ hr) b (List.mem_append_right _ hb) hf
 ·intro a v ha b hb
  rcases List.mem_append.1 hb with hb | hb
  ·exact c.imL a v ha b hb
  ·rcases c.inew a v ha with h1 | h1 | h1
   ·exact h.imL a v h1 b (List.mem_append_right _ hb)
   ·have h2 := old b hb
    have h3 : w.heap.size ≤ a.block := h1
    omega
   ·exact fun e => nL b hb (by rw [e]; exact h1)
 ·intro a v ha r hr hf
  rcases List.mem_append.1 hr with hr | hr
  ·exact c.imX a v ha r hr hf
  ·rcases c.inew a v ha with h1 | h1 | h1
   ·exact h.imX a v h1 r (List.mem_append_right _ hr) hf
   ·have h2 := oldX r hr _ hf
    have h3 : w.heap.size ≤ a.block := h1
    omega
   ·exact nX r hr _ hf h1
 ·intro a v ha
  rcases c.inew a v ha with h1 | h1
  ·exact h.inew a v h1
  ·exact .inr (own _ h1)

/-- Known blocks in another order, or fewer. -/
def selB (L : List Blk) : List Nat → List Blk
 | [] => []
 | i :: r => match L[i]? with | some b => b :: selB L r | none => selB L r
theorem selB_mem {x : Blk} : ∀ {l : List Nat}, x ∈ selB L l → ∃ i ∈ l, L[i]? = some x
 | i :: r, h => by
  simp only [selB] at h
  split at h
  ·rename_i b hb
   rcases List.mem_cons.1 h with rfl | h
   ·exact ⟨i, List.mem_cons_self, hb⟩
   ·obtain ⟨j, hj, e⟩ := selB_mem h
    exact ⟨j, List.mem_cons_of_mem _ hj, e⟩
  ·obtain ⟨j, hj, e⟩ := selB_mem h
   exact ⟨j, List.mem_cons_of_mem _ hj, e⟩
theorem Sat.selB (h : Sat B I nx L X w) (l : List Nat) (hn : noN l = true) : Sat B I nx (RW.selB L l) X w := by
 have hm : ∀ b ∈ RW.selB L l, b ∈ L := fun b hb => by
  obtain ⟨i, _, e⟩ := selB_mem hb
  exact List.mem_of_getElem? e
 have hp : ∀ (l : List Nat), noN l = true → (RW.selB L l).Pairwise (fun a b => a.g ≠ b.g) := by
  intro l
  induction l with
  | nil => intro _; exact List.Pairwise.nil
  | cons i r ih =>
   intro hn
   simp only [noN, Bool.and_eq_true] at hn
   simp only [RW.selB]
   split
   ·rename_i b hb
    refine List.pairwise_cons.2 ⟨fun b' hb' => ?_, ih hn.2⟩
    obtain ⟨j, hj, e⟩ := selB_mem hb'
    have hij : i ≠ j := by
     rintro rfl
     have := hn.1
     simp only [List.all_eq_true] at this
     have h2 := this i hj
     simp at h2
    obtain ⟨hi1, hi2⟩ := List.getElem?_eq_some_iff.1 hb
    obtain ⟨hj1, hj2⟩ := List.getElem?_eq_some_iff.1 e
    have hq := List.pairwise_iff_getElem.1 h.ne
    rcases Nat.lt_or_gt_of_ne hij with hlt | hlt
    ·have := hq i j hi1 hj1 hlt
     rw [hi2, hj2] at this
     exact this
    ·have := hq j i hj1 hi1 hlt
     rw [hi2, hj2] at this
     exact this.symm
   ·exact ih hn.2
 exact ⟨h.evo, h.hnx, fun b hb => h.blk b (hm b hb), fun b hb => h.own b (hm b hb), hp l hn, h.res, h.rown, h.rdis, fun r hr b hb => h.rblk r hr b (hm b hb), h.im, fun a v ha b hb => h.imL a v ha b (hm b hb), h.imX, h.le, h.inew⟩
theorem RL.arrange {L' : List Blk} {X' : List Res} (lb lx : List Nat) (hb : noN lb = true) (hx : noN lx = true) (hL : RW.selB L lb = L') (hX : RW.sel X lx = X') (k : RL P os Q p A K B I nx L' X') : RL P os Q p A K B I nx L X := by
 subst hL; subst hX
 exact fun a w ha hs => k a w ha ((hs.selB lb hb).sel lx hx)

theorem QN.arrange {e : Exit} {L' : List Blk} {X' : List Res} (lb lx : List Nat) (hb : noN lb = true) (hx : noN lx = true) (hL : RW.selB L lb = L') (hX : RW.sel X lx = X') (k : QN Q e A K B I nx L' X') : QN Q e A K B I nx L X := by
 subst hL; subst hX
 exact fun a w ha hs => k a w ha ((hs.selB lb hb).sel lx hx)
/-- A function's body, from its start, with what it was handed. -/
theorem calls_bodyL {f : FuncId} {fn : Func} {args : List Value} {R : Ending → World → Prop} (hf : P.funcs[f]? = some fn) (hb : fn.body = some (cBody fn)) (n : Nat) (hn : fn.ntmps = n) (hle : Nat.ble args.length n = true) (B : Base) (I : Imm) (L : List Blk) (X : List Res)
  (K : List (Nat × Value)) (hK : K.map (fun p => args[p.1]?) = K.map (fun p => some p.2)) (hs : Sat B I w.heap.size L X w)
  (h : OK P (cBody fn) (bodyPost P fn R) ⟨n, []⟩ K B I w.heap.size L X) : Calls P f args.toArray w R := by
 refine calls_of_wp hf hb (h _ w ⟨?_, rfl, fun p hp => ?_⟩ hs)
 ·have := Nat.le_of_ble_eq_true hle
  simp only [Array.size_append, List.size_toArray, Array.size_replicate]
  omega
 ·obtain ⟨i, hi, rfl⟩ := List.getElem_of_mem hp
  have h1 := congrArg (·[i]?) hK
  simp only [List.getElem?_map, List.getElem?_eq_getElem hi, Option.map_some, Option.some.injEq] at h1
  have hlt := (List.getElem?_eq_some_iff.1 h1).1
  simp only
  rw [Array.getElem?_append_left (by simpa using hlt), List.getElem?_toArray]
  exact h1

/-- A call that is handed the first of the known blocks and rows. -/
theorem RL.callM {L1 L2 : List Blk} {X1 X2 : List Res} (hL : L = L1 ++ L2) (hX : X = X1 ++ X2) (f : FuncId) (xs : List Value) (d : Option Tmp) (Post : World → Value → World → Prop) (hl : ready os p K d = true)
  (h : (simQ P [] [] (execOp (evalK K) (os.getD p default)) .no []).map (·.1) = some (.enter f xs.toArray))
  (hc : ∀ w, Sat ⟨w, SM L1 X1, I⟩ I w.heap.size L1 X1 w → Calls P f xs.toArray w fun e w' => ∃ v, e = .returned v ∧ Post w v w')
  (k : ∀ w v w', Sat B I nx (L1 ++ L2) (X1 ++ X2) w → Post w v w' → ∀ a', Knows A (putK A K d v) a' → wpList P os.toArray Q (os.drop (p + 1)) a' w') : RL P os Q p A K B I nx L X := by
 subst hL; subst hX
 exact RL.callP f xs d Post hl h (fun w hs => hc w hs.into) k

/-- A row that is made, in a region that draws. -/
theorem got_newRow {J : Imm} {w w' : World} (hJ : J.at_ w) {e : TypeId} {sz n cap : Nat} {cs : List Value} (ho : w'.ownsRow 0 e sz (.slice (some ⟨w.heap.size, 0, none⟩) n cap) n cs) (hg : w.grownBy w' none) : Got w w' J J [orow e sz (some ⟨w.heap.size, 0, none⟩) n cap cs] := by
 refine ⟨⟨hg.os, hg.tape, hg.output, hg.size, fun k hk _ => hg.block k hk (by simp)⟩, Imm.le_refl _, ?_, fun _ _ h => .inl h, ?_, ?_, List.pairwise_singleton _ _, ?_⟩
 ·intro a v ha
  have hc := hJ a v ha
  rw [← hc]
  exact look_of_block (w := w) (hg.block _ (look_lt hc) (by simp))
 ·intro r hr
  rw [List.mem_singleton.1 hr]
  exact ho
 ·intro r hr k hk
  rw [List.mem_singleton.1 hr] at hk
  obtain ⟨a, ha, rfl⟩ := hk
  injection ha with ha
  rw [← ha]
  exact ⟨Nat.le_refl _, (ho.lt _ rfl).2⟩
 ·intro a v ha r hr hk
  rw [List.mem_singleton.1 hr] at hk
  obtain ⟨b, hb, e1⟩ := hk
  injection hb with hb
  have := look_lt (hJ a v ha)
  rw [← hb] at e1
  simp only at e1
  omega
theorem Does.makeL {α : Type} {T e : TypeId} {s : Sem Next} {J : Imm} (hJ : J.at_ w) (x : Int) (kl kc : IntKind) (zc : Value) (z : α) (dt : Ty α) (bytes : Nat)
  (hx : s = toNext (Instr.makeSlice T (.int kl x) (.int kc x))) (hu : P.underlying T = some (.slice e)) (hi : (P.info? e).map (fun i => (i.size, i.bytes, i.zero)) = some (1, bytes, some zc)) (hzc : zc.cells = #[zc]) (hz : dt.K J z [zc]) (h0 : 0 ≤ x) (hb : bytes * x.toNat ≤ 281474976710656) (hm : x.toNat ≤ 9223372036854775807) :
  Does P s w (fun v w' => v = .slice (some ⟨w.heap.size, 0, none⟩) (List.replicate x.toNat z).length (List.replicate x.toNat z).length ∧ Got w w' J J [orow e 1 (some ⟨w.heap.size, 0, none⟩) (List.replicate x.toNat z).length (List.replicate x.toNat z).length (List.replicate x.toNat zc)] ∧ Reps dt J (List.replicate x.toNat z) (List.replicate x.toNat zc)) := by
 obtain ⟨inf, hinf, hh⟩ := Option.map_eq_some_iff.1 hi
 simp only [Prod.mk.injEq] at hh
 obtain ⟨hsz, hby, hzr⟩ := hh
 have hx' : x = (x.toNat : Int) := by omega
 obtain ⟨w', hr, ho, hg⟩ := run_make_full (P := P) w 0 T e inf zc 1 hu hinf hzr hsz kl kc x.toNat (by rw [hby]; exact hb) (by simp only [maxLen]; omega) (Nat.zero_le _)
 rw [← hx'] at hr
 rw [hzc, Nat.mul_one, toList_madeCells_one] at ho
 refine Does.run (w' := w') (by rw [hx]; exact run_toNext hr) ⟨?_, ?_, Reps.zeros hz _⟩
 ·rw [List.length_replicate]
 ·rw [List.length_replicate]
  exact got_newRow hJ ho hg
/-- A call that was handed memory and left it as it was: it only made memory. -/
theorem Sat.quiet {L1 : List Blk} {Y : List Res} {J : Imm} {nx' : Nat} {w w' : World} (h0 : ∀ b ∈ L1, w.heap[b.g]? = some (.cells b.cs.toArray b.ty (0, 0))) (c : Sat ⟨w, SM L1 [], I⟩ J nx' L1 Y w') : Got w w' I J Y := by
 have no : ∀ k, SM L1 [] k → ∃ b ∈ L1, b.g = k := fun k hk => hk.elim id (fun ⟨r, hr, _⟩ => by cases hr)
 refine ⟨⟨c.evo.os, c.evo.tape, c.evo.output, c.evo.size, fun k hk _ => ?_⟩, c.le, c.im, fun a v ha => ?_, c.res, fun r hr k hk => ?_, c.rdis, c.imX⟩
 ·by_cases hs : SM L1 [] k
  ·obtain ⟨b, hb, rfl⟩ := no k hs
   exact (c.blk b hb).trans (h0 b hb).symm
  ·exact c.evo.blk k hk hs
 ·rcases c.inew a v ha with h1 | h1 | h1
  ·exact .inl h1
  ·exact .inr h1
  ·obtain ⟨b, hb, e⟩ := no _ h1
   exact absurd e (c.imL a v ha b hb)
 ·have h1 := c.rown r hr k hk
  have h2 := c.hnx
  refine ⟨?_, by omega⟩
  rcases h1.2 with h3 | h3
  ·exact h3
  ·obtain ⟨b, hb, e⟩ := no _ h3
   exact absurd (by rw [e]; exact hk) (c.rblk r hr b hb)
/-! ### what is lent for one call -/
theorem Got.back {w w' : World} {I' J : Imm} (hg : Got w w' I' J []) (h : I.le I') : Got w w' I I [] :=
 ⟨hg.evo, Imm.le_refl _, fun a v ha => hg.im a v (hg.le _ _ (h _ _ ha)), fun _ _ h => .inl h, (fun r hr => by cases hr), (fun r hr => by cases hr), List.Pairwise.nil, fun _ _ _ r hr => by cases hr⟩
theorem Sat.lendB (h : Sat B I nx L X w) {i : Nat} {b : Blk} (hi : L[i]? = some b) : ∃ J, I.le J ∧ (∀ j u, b.cs[j]? = some u → J ⟨b.g, j, none⟩ = some u) ∧ Sat B J nx (L.eraseIdx i) X w := by
 have hbm := List.mem_of_getElem? hi
 obtain ⟨hil, hie⟩ := List.getElem?_eq_some_iff.1 hi
 have hsub : Sat B I nx (L.eraseIdx i) X w := h.less (List.eraseIdx_sublist _ _) (List.Sublist.refl _)
 have hn : ∀ q u, rowImm b.g b.cs q = some u → q = ⟨b.g, q.off, none⟩ ∧ b.cs[q.off]? = some u := fun q u hq => rowImm_some hq
 refine ⟨I.or (rowImm b.g b.cs), Imm.le_or _ _, fun j u hj => ?_, hsub.imm (rowImm b.g b.cs) ?_ ?_ ?_ ?_⟩
 ·refine Imm.or_get ?_ (by rw [rowImm_get]; exact hj)
  cases hI : I ⟨b.g, j, none⟩ with
  | none => rfl
  | some v => exact absurd rfl (h.imL _ v hI b hbm)
 ·intro q u hq
  obtain ⟨e4, e5⟩ := hn q u hq
  rw [e4]
  exact (h.cell hi (a := ⟨b.g, q.off, none⟩) rfl rfl).trans e5
 ·intro q u hq b' hb'
  obtain ⟨e4, _⟩ := hn q u hq
  rw [e4]
  obtain ⟨y, hy, hyb⟩ := List.getElem_of_mem hb'
  rw [List.length_eraseIdx_of_lt hil] at hy
  rw [List.getElem_eraseIdx] at hyb
  have hp := List.pairwise_iff_getElem.1 h.ne
  have key : ∀ j (hj : j < L.length), j ≠ i → L[j].g ≠ b.g := fun j hj hne => by
   rcases Nat.lt_or_gt_of_ne hne with h1 | h1
   ·have := hp j i hj hil h1; rwa [hie] at this
   ·have := hp i j hil hj h1; rw [hie] at this; exact this.symm
  split at hyb
  ·rw [← hyb]; exact key y (by omega) (by omega)
  ·rw [← hyb]; exact key (y + 1) (by omega) (by omega)
 ·intro q u hq r hr
  obtain ⟨e4, _⟩ := hn q u hq
  rw [e4]
  exact h.rblk r hr b hbm
 ·intro q u hq
  obtain ⟨e4, _⟩ := hn q u hq
  rw [e4]
  exact h.own b hbm
/-! ### a row of the call's own is cut short -/
theorem Reps.take {α : Type} {d : Ty α} : ∀ {l : List α} {cs : List Value}, Reps d I l cs → ∀ m : Nat, Reps d I (l.take m) (cs.take (m * d.sz))
 | [], cs, h, m => by rw [h]; simp [Reps]
 | x :: l, cs, h, 0 => by simp [Reps]
 | x :: l, cs, h, m + 1 => by
  obtain ⟨c0, c1, rfl, h0, h1⟩ := h
  refine ⟨c0, c1.take (m * d.sz), ?_, h0, Reps.take h1 m⟩
  have e : (m + 1) * d.sz = c0.length + m * d.sz := by rw [d.len h0, Nat.succ_mul, Nat.add_comm]
  rw [e, List.take_append, List.take_of_length_le (l := c0) (by omega), Nat.add_sub_cancel_left]
theorem slA_self {S : Option Addr} {cap sz : Nat} : slA S (0 : Int).toNat cap sz = S := by
 unfold slA
 split
 ·rfl
 ·cases S with
  | none => rfl
  | some a => simp [Addr.add]
/-! ### a scope without jumps -/
theorem OK.scope (l : Code) (h : c = .scope l) (k : OK P l (Exit.noGoto Q) A K B I nx L X) : OK P c Q A K B I nx L X := by
 intro a w ha hs
 rw [h]
 exact wp_scope_straight (k a w ha hs)
theorem QN.scN (k : QN Q .normal A K B I nx L X) : QN (Exit.noGoto Q) .normal A K B I nx L X := k
/-! ### arrays in memory -/
/-- The cells of an array: n elements that are told by a list. -/
def arrV {α : Type} (enc : α → Value) (z : α) (n : Nat) (l : List α) : List Value := (List.range n).map fun i => enc (l.getD i z)
theorem arrV_length {α : Type} {enc : α → Value} {z : α} {n : Nat} {l : List α} : (arrV enc z n l).length = n := by simp [arrV]
theorem arrV_get {α : Type} {enc : α → Value} {z : α} {n : Nat} {l : List α} {i : Nat} (h : i < n) : (arrV enc z n l)[i]? = some (enc (l.getD i z)) := by
 simp [arrV, h]
theorem arrV_set {α : Type} {enc : α → Value} {z : α} {n : Nat} {l : List α} {i : Nat} (_ : i < n) (hl : n ≤ l.length) (v : α) : (arrV enc z n l).set i (enc v) = arrV enc z n (l.set i v) := by
 apply List.ext_getElem?
 intro j
 by_cases hj : j < n
 ·rw [List.getElem?_set, arrV_length, arrV_get hj, arrV_get hj]
  by_cases e : i = j
  ·subst e
   rw [if_pos rfl, if_pos hj]
   simp [List.getD_eq_getElem?_getD, Nat.lt_of_lt_of_le hj hl]
  ·rw [if_neg e]
   simp [List.getD_eq_getElem?_getD, e]
 ·rw [List.getElem?_eq_none (by rw [List.length_set, arrV_length]; omega), List.getElem?_eq_none (by rw [arrV_length]; omega)]
theorem seg_get {α : Type} {enc : α → Value} {z : α} {n : Nat} {l : List α} {pre post : List Value} {q i o : Nat} (hq : pre.length = q) (h : i < n) (ho : o = q + i) : (pre ++ (arrV enc z n l ++ post))[o]? = some (enc (l.getD i z)) := by
 subst ho; subst hq
 rw [List.getElem?_append_right (Nat.le_add_right _ _), Nat.add_sub_cancel_left, List.getElem?_append_left (by rw [arrV_length]; exact h), arrV_get h]
theorem seg_set {α : Type} {enc : α → Value} {z : α} {n : Nat} {l : List α} {pre post : List Value} {q i o : Nat} (hq : pre.length = q) (h : i < n) (hl : n ≤ l.length) (ho : o = q + i) (v : α) : (pre ++ (arrV enc z n l ++ post)).set o (enc v) = pre ++ (arrV enc z n (l.set i v) ++ post) := by
 subst ho; subst hq
 rw [List.set_append_right _ _ (Nat.le_add_right _ _), Nat.add_sub_cancel_left, List.set_append_left _ _ (by rw [arrV_length]; exact h), arrV_set h hl]

theorem RI.arr {α : Type} {R : List (Addr × Value)} {g ty : Nat} {cs : List Value} (enc : α → Value) (z : α) (n : Nat) (l : List α) (pre post : List Value) (q i li : Nat) (hi : L[li]? = some ⟨g, cs, ty⟩) (hcs : cs = pre ++ (arrV enc z n l ++ post)) (hq : pre.length = q) (hn : i < n) (o : Nat) (ho : o = q + i) (hR : RI B I L X R) : RI B I L X ((⟨g, o, none⟩, enc (l.getD i z)) :: R) :=
 RI.blk (b := ⟨g, cs, ty⟩) li hi o (by show cs[o]? = _; rw [hcs]; exact seg_get hq hn ho) hR
theorem take_len {α : Type} {n : Nat} {l : List α} (h : n ≤ l.length) : (l.take n).length = n := by rw [List.length_take]; omega
/-- An array in lent memory, as a row. -/
theorem rd_view {α : Type} {J : Imm} {g : Nat} {cs : List Value} {enc : α → Value} {z : α} {n : Nat} {l : List α} {pre post : List Value} {q : Nat} {h1 : ∀ x, (enc x).oneCell' = true} (hJ : ∀ j u, cs[j]? = some u → J ⟨g, j, none⟩ = some u) (hcs : cs = pre ++ (arrV enc z n l ++ post)) (hq : pre.length = q) (hz : n ≤ l.length) (hn : n ≤ 9223372036854775807) :
  Rd (Ty.scalar enc h1) J (some ⟨g, q, none⟩) (l.take n) := by
 refine ⟨by rw [take_len hz]; exact hn, fun _ => ⟨g, q, rfl, fun j x hj => ⟨[enc x], rfl, fun i u hu => ?_⟩⟩⟩
 have hjn : j < n := by
  have := (List.getElem?_eq_some_iff.1 hj).1
  rw [take_len hz] at this
  exact this
 cases i with
 | succ i => cases hu
 | zero =>
  injection hu with hu
  subst hu
  refine hJ _ _ ?_
  rw [hcs, seg_get hq hjn (by show q + j * 1 + 0 = q + j; omega)]
  rw [List.getElem?_take, if_pos hjn] at hj
  rw [List.getD_eq_getElem?_getD, hj]
  rfl
/-- An element of an array value. -/
theorem RL.idxAgg {α : Type} {K' : List (Nat × Value)} {T e : TypeId} {cs : Array Value} (enc : α → Value) (z : α) (n m : Nat) (l : List α) (k : IntKind) (i : Int) (d : Option Tmp) (hl : ready os p K d = true)
  (hx : execOp (evalK K) (os.getD p default) = toNext (Instr.index T (.agg cs) (.int k i))) (hcs : cs.toList = arrV enc z n l) (hu : P.underlying T = some (.array m e)) (hmn : m = n) (hz : (P.info? e).map (·.size) = some 1) (hs : (simQ P [] [] (isAgg e) .no []).map (·.1) = some false) (h0 : 0 ≤ i) (h1 : i < (n : Int))
  (hF : putK A K d (enc (l.getD i.toNat z)) = K') (kk : RL P os Q (p + 1) A K' B I nx L X) : RL P os Q p A K B I nx L X := by
 subst hmn
 refine RL.quiet d _ hl hF (fun w _ => ?_) kk
 rw [hx]
 refine run_toNext ?_
 obtain ⟨inf, hi, hsz⟩ := Option.map_eq_some_iff.1 hz
 have hag : (isAgg e).run P w = .ok false w := by
  cases hsim : simQ P [] [] (isAgg e) .no [] with
  | none => rw [hsim] at hs; cases hs
  | some x =>
   obtain ⟨x1, es1⟩ := x
   rw [hsim] at hs
   simp only [Option.map_some, Option.some.injEq] at hs
   subst hs
   exact simQ_any _ _ _ _ hsim w
 have hc : cs[i.toNat]? = some (enc (l.getD i.toNat z)) := by
  rw [← Array.getElem?_toList, hcs]
  exact arrV_get (by omega)
 simp [Instr.index, asIntOf, run_underlying hu, h0, h1, sizeOf, typeInfo, hi, hsz, part, hag, hc]
/-- One cell of a known block is read, at a place that is not a literal. -/
theorem RL.ldB {K' : List (Nat × Value)} (li : Nat) {b : Blk} (hi : L[li]? = some b) (o : Nat) (v : Value) (hv : b.cs[o]? = some v) (d : Option Tmp) (hl : ready os p K d = true)
  (h : (simQ P [(⟨b.g, o, none⟩, v)] [] (execOp (evalK K) (os.getD p default)) (.r 0) []).map (·.1) = some (.value v))
  (he : (simQ P [(⟨b.g, o, none⟩, v)] [] (execOp (evalK K) (os.getD p default)) (.r 0) []).map (fun x => x.2.map (·.1)) = (simQ P [(⟨b.g, o, none⟩, v)] [] (execOp (evalK K) (os.getD p default)) (.r 0) []).map (fun x => x.2.map (·.2)))
  (hF : putK A K d v = K') (k : RL P os Q (p + 1) A K' B I nx L X) : RL P os Q p A K B I nx L X := by
 refine RL.quiet d v hl hF (fun w hs => ?_) k
 cases hsim : simQ P [(⟨b.g, o, none⟩, v)] [] (execOp (evalK K) (os.getD p default)) (.r 0) [] with
 | none => rw [hsim] at h; cases h
 | some x =>
  obtain ⟨x1, es1⟩ := x
  rw [hsim] at h he
  simp only [Option.map_some, Option.some.injEq] at h he
  subst h
  refine simQ_at (L := []) (fun b hb => by cases hb) (fun r hr => ?_) _ _ _ _ _ hsim (eqs_of_map he)
  rw [List.mem_singleton.1 hr]
  exact (hs.cell hi rfl rfl).trans hv
/-- One cell of a known block is written, at a place that is not a literal. -/
theorem RL.stB {cs' : List Value} (li : Nat) {b : Blk} (hi : L[li]? = some b) (o : Nat) (v : Value) {u : Value} (hu : b.cs[o]? = some u) (T : TypeId) (hl : ready os p K none = true)
  (hx : execOp (evalK K) (os.getD p default) = (Instr.storeAt T (.pointer (some ⟨b.g, o, none⟩)) v).bind fun _ => .pure .skip) (hT : (P.info? T).map (·.size) = some 1) (hc : v.cells = #[v]) (hv1 : ∀ x, v ≠ .agg x) (hv2 : ∀ x, v ≠ .tuple x)
  (hs' : b.cs.set o v = cs') (k : RL P os Q (p + 1) A K B I nx (L.set li ⟨b.g, cs', b.ty⟩) X) : RL P os Q p A K B I nx L X := by
 subst hs'
 refine RL.oneS (fun w' => Sat B I nx (L.set li ⟨b.g, b.cs.set o v, b.ty⟩) X w') hl (fun w hs => ?_) (fun w' hs a' ha' => k a' w' ha' hs)
 refine ⟨_, ?_, hs.set hi (a := ⟨b.g, o, none⟩) rfl rfl v⟩
 have hcell : w.cell? ⟨b.g, o, none⟩ = some u := (hs.cell hi rfl rfl).trans hu
 have hfr := hs.frozen hi (a := ⟨b.g, o, none⟩) rfl
 obtain ⟨inf, hinf, hsz⟩ := Option.map_eq_some_iff.1 hT
 have ha : (⟨b.g, o, none⟩ : Addr).add 0 = ⟨b.g, o, none⟩ := rfl
 have hst : (store ⟨b.g, o, none⟩ v).run P w = .ok () (w.setCell ⟨b.g, o, none⟩ v) := by
  cases v
  case agg => exact absurd rfl (hv1 _)
  case tuple => exact absurd rfl (hv2 _)
  all_goals simp [store, Sem.run, hcell, hfr]
 have hr : (Instr.storeAt T (.pointer (some ⟨b.g, o, none⟩)) v).run P w = .ok () (w.setCell ⟨b.g, o, none⟩ v) := by
  simp [Instr.storeAt, Instr.sureAddr, storeVar, sizeOf, typeInfo, hinf, hsz, hc, storeCells, ha, hst]
 rw [hx, Sem.run_bind', hr]
 rfl
theorem le_set {α : Type} {n i : Nat} {l : List α} {x : α} (h : n ≤ l.length) : n ≤ (l.set i x).length := by rw [List.length_set]; exact h
/-- An element of an array in a known block is read. -/
theorem RL.ldA {α : Type} {K' : List (Nat × Value)} {g ty : Nat} {cs : List Value} (enc : α → Value) (z : α) (n : Nat) (l : List α) (pre post : List Value) (q i li : Nat) (hi : L[li]? = some ⟨g, cs, ty⟩) (hcs : cs = pre ++ (arrV enc z n l ++ post)) (hq : pre.length = q) (hn : i < n) (o : Nat) (ho : o = q + i) (d : Option Tmp) (hl : ready os p K d = true)
  (h : (simQ P [(⟨g, o, none⟩, enc (l.getD i z))] [] (execOp (evalK K) (os.getD p default)) (.r 0) []).map (·.1) = some (.value (enc (l.getD i z))))
  (he : (simQ P [(⟨g, o, none⟩, enc (l.getD i z))] [] (execOp (evalK K) (os.getD p default)) (.r 0) []).map (fun x => x.2.map (·.1)) = (simQ P [(⟨g, o, none⟩, enc (l.getD i z))] [] (execOp (evalK K) (os.getD p default)) (.r 0) []).map (fun x => x.2.map (·.2)))
  (hF : putK A K d (enc (l.getD i z)) = K') (k : RL P os Q (p + 1) A K' B I nx L X) : RL P os Q p A K B I nx L X :=
 RL.ldB (b := ⟨g, cs, ty⟩) li hi o (enc (l.getD i z)) (by show cs[o]? = _; rw [hcs]; exact seg_get hq hn ho) d hl h he hF k
/-- An element of an array in a known block is written. -/
theorem RL.stA {α : Type} {g ty : Nat} {cs cs' : List Value} (enc : α → Value) (z : α) (n : Nat) (l : List α) (x : α) (pre post : List Value) (q i li : Nat) (hi : L[li]? = some ⟨g, cs, ty⟩) (hcs : cs = pre ++ (arrV enc z n l ++ post)) (hq : pre.length = q) (hn : i < n) (hz : n ≤ l.length) (o : Nat) (ho : o = q + i) (T : TypeId) (hl : ready os p K none = true)
  (hx : execOp (evalK K) (os.getD p default) = (Instr.storeAt T (.pointer (some ⟨g, o, none⟩)) (enc x)).bind fun _ => .pure .skip) (hT : (P.info? T).map (·.size) = some 1) (hc : (enc x).cells = #[enc x]) (hv1 : ∀ y, enc x ≠ .agg y) (hv2 : ∀ y, enc x ≠ .tuple y)
  (hs' : pre ++ (arrV enc z n (l.set i x) ++ post) = cs') (k : RL P os Q (p + 1) A K B I nx (L.set li ⟨g, cs', ty⟩) X) : RL P os Q p A K B I nx L X :=
 RL.stB (b := ⟨g, cs, ty⟩) li hi o (enc x) (u := enc (l.getD i z)) (by show cs[o]? = _; rw [hcs]; exact seg_get hq hn ho) T hl hx hT hc hv1 hv2 (by show cs.set o _ = _; rw [hcs, seg_set hq hn hz ho, hs']) k
end
end Go.Proofs.Ytihmbmeelheinaa.RW
namespace Go.Proofs.Ytihmbmeelheinaa.RW
open Go Go.RowKit

abbrev pt (g o : Nat) : Value := .pointer (some ⟨g, o, none⟩)
abbrev i6 (x : Int) : Value := .int .i64 x
def isSq : Code → Bool
 | .seq _ _ => true
 | _ => false
def isRg : Code → Bool
 | .region _ _ b => !b
 | _ => false
def isCd : Code → Bool
 | .cond _ _ _ => true
 | _ => false
theorem ifs {α : Type} {c : Prop} [Decidable c] {x : Option α} {r : α} (h : (if c then x else none) = some r) : c ∧ x = some r := by
 by_cases hc : c
 ·rw [if_pos hc] at h; exact ⟨hc, h⟩
 ·rw [if_neg hc] at h; cases h
theorem bnd {α β : Type} {x : Option α} {f : α → Option β} {b : β} (h : x.bind f = some b) : ∃ a, x = some a ∧ f a = some b := Option.bind_eq_some_iff.mp h
section
variable {P : Program} {c : Code} {Q : Exit → Act → World → Prop} {A : Fr} {K : List (Nat × Value)} {B : Base} {I : Imm} {nx : Nat} {L : List Blk} {X : List Res} {os : List Oper} {p : Nat}
theorem OK.sq (k : OK P (cL c) (Exit.then ((cR c).wp P Q) Q) A K B I nx L X) (h : isSq c = true := by kernel_rfl) : OK P c Q A K B I nx L X := by
 cases c <;> first | exact OK.seq _ _ rfl k | cases h
theorem OK.rg (k : RL P (cOps c) Q 0 A K B I nx L X) (h : isRg c = true := by kernel_rfl) : OK P c Q A K B I nx L X := by
 cases c with
 | region id o b =>
  cases b
  ·exact OK.region id o.toList (by simp) k
  ·cases h
 | _ => cases h
theorem OK.sr (k : RL P (cOps (cL c)) (Exit.then ((cR c).wp P Q) Q) 0 A K B I nx L X) (h : isSq c = true := by kernel_rfl) (h2 : isRg (cL c) = true := by kernel_rfl) : OK P c Q A K B I nx L X := OK.sq (OK.rg k h2) h
theorem OK.cd (t : Bool) (k1 : t = true → OK P (cL c) Q A K B I nx L X) (k2 : t = false → OK P (cR c) Q A K B I nx L X) (h : isCd c = true := by kernel_rfl) (hk : knownO K (cOpd c) = true := by kernel_rfl) (ht : evalK K (cOpd c) = .bool t := by kernel_rfl) : OK P c Q A K B I nx L X := by
 cases c <;> first | exact OK.cond _ _ _ t rfl hk ht k1 k2 | cases h
theorem OK.bk (id : Nat) (k : OK P (cL c) (Exit.inBlock id Q) A K B I nx L X) (h : c = .block id (cL c) := by kernel_rfl) : OK P c Q A K B I nx L X := OK.block id _ h k
theorem OK.lp (Inv : Nat → St) (k : Nat) (h0 : Inv k K I nx L X) (hz : ∀ K I nx L X, ¬ Inv 0 K I nx L X)
  (step : ∀ k K I nx L X, Inv (k + 1) K I nx L X → ∀ Q' : Exit → Act → World → Prop, (∀ K' I' nx' L' X', Inv k K' I' nx' L' X' → QN Q' .normal A K' B I' nx' L' X') → (∀ e a w, e ≠ .normal → Q e a w → Q' e a w) → OK P (cL c) Q' A K B I nx L X)
  (h : c = .loop (cL c) := by kernel_rfl) : OK P c Q A K B I nx L X := OK.loopInv _ h Inv k h0 hz step
theorem OK.ex (id : Nat) (k : QN Q (.exit id) A K B I nx L X) (h : c = .exit id := by kernel_rfl) : OK P c Q A K B I nx L X := OK.exit id h k
theorem OK.re (k : QN Q .ret A K B I nx L X) (h : c = .ret := by kernel_rfl) : OK P c Q A K B I nx L X := OK.ret h k
theorem OK.sk (k : QN Q .normal A K B I nx L X) (h : c = .skip := by kernel_rfl) : OK P c Q A K B I nx L X := OK.skip h k
theorem OK.skt {d : Code} {Q' : Exit → Act → World → Prop} (k : OK P d Q A K B I nx L X) (h : c = .skip := by kernel_rfl) : OK P c (Exit.then (d.wp P Q) Q') A K B I nx L X := OK.skip h (QN.then_ k)
theorem RL.s (n : Nat) (K' : List (Nat × Value)) (k : RL P os Q (p + n) A K' B I nx L X)
  (h : (simOps P [] os A ((os.drop p).take n) [] K nx L []).map (fun x => (K'.map (fun q => lookK x.1 q.1), x.2.1, x.2.2.1, x.2.2.2)) = some (K'.map (fun q => some q.2), nx, L, []) := by kernel_rfl) : RL P os Q p A K B I nx L X := by
 cases hs : simOps P [] os A ((os.drop p).take n) [] K nx L [] with
 | none => rw [hs] at h; cases h
 | some x =>
  rw [hs] at h
  simp only [Option.map_some, Option.some.injEq, Prod.mk.injEq] at h
  obtain ⟨h1, h2, h3, h4⟩ := h
  exact RL.simK [] (RFacts.nil _ _ _) n [] (by rw [hs]; simp only [Option.map_some, h1, h2, h3]) (by rw [hs]; simp only [Option.map_some, h4, List.map_nil]) k
theorem RL.sp (n : Nat) (K' : List (Nat × Value)) (nx' : Nat) (L' : List Blk) (k : RL P os Q (p + n) A K' B I nx' L' X)
  (h : (simOps P [] os A ((os.drop p).take n) [] K nx L []).map (fun x => (K'.map (fun q => lookK x.1 q.1), x.2.1, x.2.2.1, x.2.2.2)) = some (K'.map (fun q => some q.2), nx', L', []) := by kernel_rfl) : RL P os Q p A K B I nx L X := by
 cases hs : simOps P [] os A ((os.drop p).take n) [] K nx L [] with
 | none => rw [hs] at h; cases h
 | some x =>
  rw [hs] at h
  simp only [Option.map_some, Option.some.injEq, Prod.mk.injEq] at h
  obtain ⟨h1, h2, h3, h4⟩ := h
  exact RL.simP [] (RFacts.nil _ _ _) n [] (by rw [hs]; simp only [Option.map_some, h1, h2, h3]) (by rw [hs]; simp only [Option.map_some, h4, List.map_nil]) k
theorem RL.nt {d : Code} {Q' : Exit → Act → World → Prop} (k : OK P d Q A K B I nx L X) (h : os.drop p = [] := by kernel_rfl) : RL P os (Exit.then (d.wp P Q) Q') p A K B I nx L X := RL.nil h (QN.then_ k)
theorem RL.st {d : Code} {Q' : Exit → Act → World → Prop} (n : Nat) (K' : List (Nat × Value)) (k : OK P d Q A K' B I nx L X)
  (h : (simOps P [] os A ((os.drop p).take n) [] K nx L []).map (fun x => (K'.map (fun q => lookK x.1 q.1), x.2.1, x.2.2.1, x.2.2.2)) = some (K'.map (fun q => some q.2), nx, L, []) := by kernel_rfl) (h2 : os.drop (p + n) = [] := by kernel_rfl) : RL P os (Exit.then (d.wp P Q) Q') p A K B I nx L X := RL.s n K' (RL.nt k h2) h
theorem RL.spt {d : Code} {Q' : Exit → Act → World → Prop} (n : Nat) (K' : List (Nat × Value)) (nx' : Nat) (L' : List Blk) (k : OK P d Q A K' B I nx' L' X)
  (h : (simOps P [] os A ((os.drop p).take n) [] K nx L []).map (fun x => (K'.map (fun q => lookK x.1 q.1), x.2.1, x.2.2.1, x.2.2.2)) = some (K'.map (fun q => some q.2), nx', L', []) := by kernel_rfl) (h2 : os.drop (p + n) = [] := by kernel_rfl) : RL P os (Exit.then (d.wp P Q) Q') p A K B I nx L X := RL.sp n K' nx' L' (RL.nt k h2) h
theorem QN.sb {e : Exit} {K' : List (Nat × Value)} {L' : List Blk} {X' : List Res} (k : QN Q e A K' B I nx L' X') (hL : L'.Sublist L) (hX : X'.Sublist X) (hv : K'.map (fun p => lookK K p.1) = K'.map (fun p => some p.2) := by kernel_rfl) : QN Q e A K B I nx L X := QN.sub hv hL hX k
/-! ### an element of what a call in the region returned -/
abbrev idxP (A : Option Addr) (n : Nat) : Value := .pointer (A.map fun a => ⟨a.block, a.off + n, none⟩)
/-! ### an element that is a row of the call's own, for a while -/
theorem RL.storeH {β : Type} {T e : TypeId} (xi : Nat) {S : Option Addr} {g : Nat} (hS : S = some ⟨g, 0, none⟩) (cap : Nat) (i : Int) (cs : List Value) (A2 : Option Addr) (n2 c2 : Nat) (dt : Ty β) (l : List (List β))
  (hl : ready os p K none = true)
  (hx : execOp (evalK K) (os.getD p default) = (Instr.storeAt T (.pointer (some ⟨g, 0 + i.toNat * 1, none⟩)) (.slice A2 n2 c2)).bind fun _ => .pure .skip)
  (hz : (P.info? T).map (·.size) = some 1) (hX : X[xi]? = some (orow e 1 S l.length cap cs)) (hr : Reps (Ty.slice dt) I l cs) (h0 : 0 ≤ i) (hi : i < (l.length : Int))
  (kk : ∀ cs', cs'[i.toNat * 1 + 0]? = some (.slice A2 n2 c2) → (∀ (J : Imm) (y : List β), I.le J → y.length = n2 → y.length ≤ c2 → Rd dt J A2 y → Reps (Ty.slice dt) J (l.set i.toNat y) cs') → RL P os Q (p + 1) A K B I nx L (X.set xi (orow e 1 S l.length cap cs'))) : RL P os Q p A K B I nx L X := by
 refine RL.storeRow 1 xi hS l.length cap i.toNat cs [.slice A2 n2 c2] (.slice A2 n2 c2) hl hx hz rfl rfl (by intro u hu; obtain rfl := List.mem_singleton.1 hu; rfl) hX (by omega) (kk _ ?_ ?_)
 ·have hlen : cs.length = l.length * 1 := hr.len
  have h2 : (cs.take (i.toNat * 1)).length = i.toNat * 1 := by rw [List.length_take]; omega
  show (cs.take (i.toNat * 1) ++ [Value.slice A2 n2 c2] ++ cs.drop (i.toNat * 1 + 1))[i.toNat * 1]? = _
  rw [List.append_assoc, List.getElem?_append_right (by omega), h2, Nat.sub_self]
  rfl
 ·intro J y hJ hn hc hd
  subst hn
  exact (Reps.ext hJ hr).set i.toNat y [.slice A2 y.length c2] (by omega) ⟨A2, c2, rfl, hc, hd⟩
theorem Givens.consU {an : List Nat} {vl : List (Nat × (Wt → Value))} {S : (Nat → Bool) → (Nat → Wt) → World → Prop} {i : Nat} {f : (Nat → Wt) → Value} {r : List (Nat × ((Nat → Wt) → Value))} {Kl : (Nat → Wt) → List (Nat × Value)} {Ks : List ((Nat → Wt) → List (Nat × Value))}
  (h : ∀ D u w, (∀ j, behind an i j = true → (lk vl j).isSome = true → D j = true) → S D u w → (execOp (evalK (Kl u)) (os.getD i default)).run P w = .ok (.value (f u)) w)
  (h2 : ∀ u u', (∀ j, behind an i j = true → (lk vl j).isSome = true → u j = u' j) → f u = f u') (h3 : Givens P os an vl S r Ks) : Givens P os an vl S ((i, f) :: r) (Kl :: Ks) := ⟨h, h2, h3⟩
end
end Go.Proofs.Ytihmbmeelheinaa.RW
namespace Go.Proofs.Ytihmbmeelheinaa.RW
open Go Go.RowKit

section
variable {P : Program} {c : Code} {Q : Exit → Act → World → Prop} {A : Fr} {K : List (Nat × Value)} {B : Base} {I : Imm} {nx : Nat} {L : List Blk} {X : List Res} {os : List Oper} {p : Nat} {w : World}

theorem rd_isNone {α : Type} {d : Ty α} {l : List α} (hr : Rd d I none l) : l = [] := by
 cases l with
 | nil => rfl
 | cons x r =>
  obtain ⟨g, o, e, _⟩ := hr.2 (List.cons_ne_nil _ _)
  cases e

/-! ### parts of strings -/
def sPart (s : ByteArray) (lo hi : Int) : ByteArray := s.extract lo.toNat hi.toNat
/-! ### a new row that says nothing yet, with room -/
/-! ### panics that are handed up -/
/-- What is raised: a failure with its code. -/
def pch (T : TypeId) (x : Int) : List PanicEntry := [{ v := .iface T (.agg #[.int .i64 x]), recovered := false }]
/-- Behind a panic: what is known then. -/
def QP (Q : Exit → Act → World → Prop) (ch : List PanicEntry) (A : Fr) (B : Base) (I : Imm) : Prop := ∀ a w, a.defers = A.D → Evo B.S B.w0 w → I.at_ w → Q (.panic ch) a w
/-- A result, or a failure's code. -/
def pb {α γ : Type} (x : Option (Int ⊕ α)) (h : Int → Option γ) (k : α → Option γ) : Option γ := x.bind fun t => match t with | .inl e => h e | .inr t => k t
/-- What holds of a result, or of a failure's code. -/
abbrev pan {α : Type} (r : Int ⊕ α) (f : Int → Prop) (g : α → Prop) : Prop := match r with | .inl x => f x | .inr r => g r
/-- An error that is nil or of one type. -/
def errV (T : TypeId) : Option Int → Value
 | none => .nilIface
 | some c => .iface T (.agg #[.int .i64 c])
end

section
variable {P : Program} {A : Fr} {K : List (Nat × Value)} {Q : Exit → Act → World → Prop} {c : Code} {B : Base} {I : Imm} {nx : Nat} {L : List Blk} {X : List Res} {os : List Oper} {p : Nat}
/-! ### stores into blocks that stand, in a region that draws -/
structure Eb where
 j : Nat
 g : Nat
 ty : TypeId
 old : List Value
 new : List Value
def exR (es : List Eb) (D : Nat → Bool) : List Res := es.map fun e => RW.kblk e.g e.ty (bif D e.j then e.new else e.old)
def exN (es : List Eb) : List Res := es.map fun e => RW.kblk e.g e.ty e.new
def exO (es : List Eb) : List Res := es.map fun e => RW.kblk e.g e.ty e.old
def exVl (es : List Eb) : List (Nat × (Wt → Value)) := es.map fun e => (e.j, fun _ => undef)
def EStore (P : Program) (os : List Oper) (L : List Blk) (e : Eb) (Kj : (Nat → Wt) → List (Nat × Value)) : Prop := ∀ (u : Nat → Wt) (nx : Nat),
 (simS P [] (execOp (evalK (Kj u)) (os.getD e.j default)) (.l L.length) nx (L ++ [⟨e.g, e.old, e.ty⟩]) []).map (fun x => (x.1, x.2.1, x.2.2.1)) = some (.skip, nx, L ++ [⟨e.g, e.new, e.ty⟩]) ∧
 (simS P [] (execOp (evalK (Kj u)) (os.getD e.j default)) (.l L.length) nx (L ++ [⟨e.g, e.old, e.ty⟩]) []).map (fun x => x.2.2.2.map (·.1)) = (simS P [] (execOp (evalK (Kj u)) (os.getD e.j default)) (.l L.length) nx (L ++ [⟨e.g, e.old, e.ty⟩]) []).map (fun x => x.2.2.2.map (·.2))
def EsG (P : Program) (os : List Oper) (L : List Blk) : List Eb → List ((Nat → Wt) → List (Nat × Value)) → Prop
 | [], _ => True
 | e :: r, Kj :: Ks => EStore P os L e Kj ∧ EsG P os L r Ks
 | _ :: _, [] => False
end

/-! ### what acts comes in one order, and may turn what was made before it -/
section
variable {P : Program} {A : Fr} {K : List (Nat × Value)} {Q : Exit → Act → World → Prop} {c : Code} {B : Base} {I : Imm} {nx : Nat} {L : List Blk} {X : List Res} {os : List Oper} {p : Nat}
def chainOk (an : List Nat) : List Nat → Bool
 | [] => true
 | i :: r => (r.all fun j => behind an j i && !Nat.beq j i) && chainOk an r
def Steps (P : Program) (os : List Oper) (T : Nat → (Nat → Wt) → World → Prop) : Nat → List (Nat × (Wt → Value)) → List ((Nat → Wt) → List (Nat × Value)) → Prop
 | _, [], _ => True
 | _, _ :: _, [] => False
 | q, (i, f) :: r, Kl :: Ks => (∀ u w, T q u w → Does P (execOp (evalK (Kl u)) (os.getD i default)) w (fun v w' => ∃ x, v = f x ∧ T (q + 1) (upd u i x) w')) ∧ Steps P os T (q + 1) r Ks
def SK (vl : List (Nat × (Wt → Value))) (T : Nat → (Nat → Wt) → World → Prop) (D : Nat → Bool) (u : Nat → Wt) (w : World) : Prop :=
 ∃ a b, vl = a ++ b ∧ (∀ p ∈ a, D p.1 = true) ∧ (∀ p ∈ b, D p.1 = false) ∧ T a.length u w
theorem sk_split {D : Nat → Bool} {x : Nat × (Wt → Value)} (hx : D x.1 = false) : ∀ (pre a b r : List (Nat × (Wt → Value))), pre ++ x :: r = a ++ b → (∀ p ∈ pre, D p.1 = true) → (∀ p ∈ a, D p.1 = true) → (∀ p ∈ b, D p.1 = false) → a = pre ∧ b = x :: r
 | [], [], b, r, e, _, _, _ => ⟨rfl, by simpa using e.symm⟩
 | [], y :: a, b, r, e, _, h2, _ => by
  simp only [List.nil_append, List.cons_append, List.cons.injEq] at e
  rw [← e.1] at h2
  rw [h2 x List.mem_cons_self] at hx
  cases hx
 | y :: pre, [], b, r, e, h1, _, h3 => by
  simp only [List.nil_append, List.cons_append] at e
  have h4 := h3 y (by rw [← e]; exact List.mem_cons_self)
  rw [h1 y List.mem_cons_self] at h4
  cases h4
 | y :: pre, z :: a, b, r, e, h1, h2, h3 => by
  simp only [List.cons_append, List.cons.injEq] at e
  obtain ⟨rfl, e⟩ := e
  obtain ⟨rfl, rfl⟩ := sk_split hx pre a b r e (fun p hp => h1 p (List.mem_cons_of_mem _ hp)) (fun p hp => h2 p (List.mem_cons_of_mem _ hp)) h3
  exact ⟨rfl, rfl⟩
theorem chain_get {an : List Nat} : ∀ {pre : List (Nat × (Wt → Value))} {x : Nat × (Wt → Value)} {r : List (Nat × (Wt → Value))}, chainOk an ((pre ++ x :: r).map (·.1)) = true → (∀ p ∈ pre, behind an x.1 p.1 = true ∧ p.1 ≠ x.1) ∧ (∀ p ∈ r, p.1 ≠ x.1)
 | [], x, r, h => by
  simp only [List.nil_append, List.map_cons, chainOk, Bool.and_eq_true, List.all_eq_true] at h
  refine ⟨fun p hp => (by cases hp), fun p hp e => ?_⟩
  have h1 := (h.1 p.1 (List.mem_map.2 ⟨p, hp, rfl⟩)).2
  rw [e, beq_self] at h1
  cases h1
 | y :: pre, x, r, h => by
  simp only [List.cons_append, List.map_cons, chainOk, Bool.and_eq_true, List.all_eq_true] at h
  obtain ⟨h1, h2⟩ := chain_get (pre := pre) h.2
  refine ⟨fun p hp => ?_, h2⟩
  rcases List.mem_cons.1 hp with rfl | hp
  ·have h3 := h.1 x.1 (List.mem_map.2 ⟨x, List.mem_append_right _ List.mem_cons_self, rfl⟩)
   refine ⟨h3.1, fun e => ?_⟩
   rw [e, beq_self] at h3
   exact absurd h3.2 (by decide)
  ·exact h1 p hp
/-- An append to a row of the call's own, as it runs. -/
theorem Sat.append_run {α : Type} {T e : TypeId} {S S2 : Option Addr} {w : World} (hs : Sat B I nx L X w) (sz bytes : Nat) (ty : TypeId) (cap c2 : Nat) (cs news : List Value) (dt : Ty α) (l ys : List α) (xi : Nat)
  (hu : P.underlying T = some (.slice e)) (hinf : (P.info? e).map (fun i => (i.size, i.bytes, i.zero.map (·.cells.size))) = some (sz, bytes, some sz)) (hd : dt.sz = sz) (hsz0 : 0 < sz)
  (hX : X[xi]? = some (orow e sz S l.length cap cs)) (hr : Reps dt I l cs) (hr2 : Reps dt I ys news) (hn : ∃ a : Addr, S2 = some a ∧ ∀ j u, news[j]? = some u → w.cell? (a.add j) = some u)
  (hbytes : (l.length + ys.length) * bytes ≤ 140737488355328) (hmax : l.length + ys.length ≤ 9223372036854775807) :
  ∃ (S' : Option Addr) (c' : Nat) (cs' : List Value) (w' : World), (Builtin.append_ #[T, T] ty #[.slice S l.length cap, .slice S2 ys.length c2]).run P w = .ok (.slice S' (l ++ ys).length c') w' ∧ Reps dt I (l ++ ys) cs' ∧ Sat B I w'.heap.size L (X.set xi (orow e sz S' (l ++ ys).length c' cs')) w' := by
 obtain ⟨inf, z, hi, hz, hsz, hby, hzs⟩ := info_of hinf
 obtain ⟨a, rfl, hcells⟩ := hn
 obtain ⟨v', w', hrun, ho, hg, _, hb⟩ := run_append_own_at (P := P) w 0 T ty e inf z sz bytes hu hi hz hsz hby hzs hsz0 (.slice S l.length cap) l.length cs (hs.own_P hX) a ys.length c2 news (by rw [hr2.len, hd]) hcells (fun u hu => hr2.one u hu) (by simp only [maxLen]; omega) hbytes (Nat.zero_le _)
 have hv : ∃ S' c', v' = .slice S' (l.length + ys.length) c' := by
  rcases ho.2 with ⟨h1, h2⟩ | ⟨g, cap', cur, h1, _⟩
  ·exact ⟨none, 0, by rw [h1, h2]⟩
  ·exact ⟨_, _, h1⟩
 obtain ⟨S', c', rfl⟩ := hv
 refine ⟨S', c', cs ++ news, w', by rw [List.length_append]; exact hrun, hr.append hr2, ?_⟩
 rw [List.length_append]
 have hfp : ∀ k, (orow e sz S' (l.length + ys.length) c' (cs ++ news)).fp k → (Value.slice S' (l.length + ys.length) c').ownBlock = some k := by
  rintro k ⟨a', rfl, rfl⟩
  rfl
 refine hs.replace hX (orow e sz S' (l.length + ys.length) c' (cs ++ news)) hg.os hg.tape hg.output hg.size (fun k hk hf => hg.block k (by rw [hs.hnx]; exact hk) ?_) ho (fun k hk => ?_) (fun k hk => (ho.lt k (hfp k hk)).2)
 ·intro e1
  apply hf
  cases S with
  | none => simp [Value.ownBlock] at e1
  | some a' =>
   simp only [Value.ownBlock, Option.some.injEq] at e1
   exact ⟨a', rfl, e1.symm⟩
 ·have h1 := hfp k hk
  rcases hb with h2 | h2
  ·left
   rw [h1] at h2
   cases S with
   | none => simp [Value.ownBlock] at h2
   | some a' =>
    simp only [Value.ownBlock, Option.some.injEq] at h2
    exact ⟨a', rfl, h2.symm⟩
  ·right
   rw [h1] at h2
   injection h2 with h2
   rw [h2, hs.hnx]
   exact Nat.le_refl _
end

section
variable {P : Program} {A : Fr} {K : List (Nat × Value)} {Q : Exit → Act → World → Prop} {c : Code} {B : Base} {I : Imm} {nx : Nat} {L : List Blk} {X : List Res} {os : List Oper} {p : Nat}
theorem Sat.append_runR {α : Type} {T e : TypeId} {S S2 : Option Addr} {w : World} (hs : Sat B I nx L X w) (sz bytes : Nat) (ty : TypeId) (cap c2 : Nat) (cs : List Value) (dt : Ty α) (l ys : List α) (xi : Nat)
  (hu : P.underlying T = some (.slice e)) (hinf : (P.info? e).map (fun i => (i.size, i.bytes, i.zero.map (·.cells.size))) = some (sz, bytes, some sz)) (hd : dt.sz = sz) (hsz0 : 0 < sz)
  (hX : X[xi]? = some (orow e sz S l.length cap cs)) (hr : Reps dt I l cs) (hy : Rd dt I S2 ys)
  (hbytes : (l.length + ys.length) * bytes ≤ 140737488355328) (hmax : l.length + ys.length ≤ 9223372036854775807) :
  ∃ (S' : Option Addr) (c' : Nat) (cs' : List Value) (w' : World), (Builtin.append_ #[T, T] ty #[.slice S l.length cap, .slice S2 ys.length c2]).run P w = .ok (.slice S' (l ++ ys).length c') w' ∧ Reps dt I (l ++ ys) cs' ∧ Sat B I w'.heap.size L (X.set xi (orow e sz S' (l ++ ys).length c' cs')) w' := by
 by_cases hne : ys = []
 ·subst hne
  obtain ⟨inf, z, hi, hz, hsz, hby, hzs⟩ := info_of hinf
  have hcap : l.length ≤ cap := by
   have ho := hs.own_P hX
   rcases ho.2 with ⟨e1, h0⟩ | ⟨g', cap', cur, e1, _, hg, hc, _⟩
   ·omega
   ·injection e1 with _ _ e3; omega
  refine ⟨S, cap, cs, w, ?_, by rw [List.append_nil]; exact hr, ?_⟩
  ·rw [List.append_nil]
   exact run_append_nothing w T T ty e inf hu hi S l.length cap hcap _ (src_none hu S2 c2 w)
  ·have hset : X.set xi (orow e sz S l.length cap cs) = X := by
    obtain ⟨h1, h2⟩ := List.getElem?_eq_some_iff.1 hX
    rw [← h2]
    exact List.set_getElem_self h1
   rw [List.append_nil, hset, hs.hnx]
   exact hs
 ·obtain ⟨news, hr2, hn⟩ := news_rd hs hy hne
  exact hs.append_run sz bytes ty cap c2 cs news dt l ys xi hu hinf hd hsz0 hX hr hr2 hn hbytes hmax
end

section
variable {P : Program} {A : Fr} {K : List (Nat × Value)} {Q : Exit → Act → World → Prop} {c : Code} {B : Base} {I : Imm} {nx : Nat} {L : List Blk} {X : List Res} {os : List Oper} {p : Nat}
def TK (B : Base) (I : Imm) (L : List Blk) (Xs : Nat → (Nat → Wt) → List Res) (Fs : Nat → (Nat → Wt) → Imm → Prop) : Nat → (Nat → Wt) → World → Prop := fun q u w => ∃ J, Imm.le I J ∧ Sat B J w.heap.size L (Xs q u) w ∧ Fs q u J
end

section
variable {P : Program} {A : Fr} {K : List (Nat × Value)} {Q : Exit → Act → World → Prop} {c : Code} {B : Base} {I : Imm} {nx : Nat} {L : List Blk} {X : List Res} {os : List Oper} {p : Nat}
/-! ### the bytes of a constant string -/
end
end Go.Proofs.Ytihmbmeelheinaa.RW
namespace Go.Proofs.Ytihmbmeelheinaa.RW
open Go Go.RowKit

section
variable {P : Program} {A : Fr} {K : List (Nat × Value)} {Q : Exit → Act → World → Prop} {c : Code} {B : Base} {I : Imm} {nx : Nat} {L : List Blk} {X : List Res} {os : List Oper} {p : Nat}
theorem lk_hit {α : Type} {y : Nat × α} : ∀ (l : List (Nat × α)), y ∈ l → (lk l y.1).isSome = true := by
 intro l
 induction l with
 | nil => intro h; cases h
 | cons z l ih =>
  intro h
  obtain ⟨j, g⟩ := z
  simp only [lk]
  cases hb : Nat.beq j y.1 with
  | true => rfl
  | false =>
   rcases List.mem_cons.1 h with rfl | h
   ·rw [beq_self] at hb; cases hb
   ·exact ih h
theorem fs_other {D : Nat → Bool} {u : Nat → Wt} {i : Nat} {x : Wt} {J : Imm} : ∀ {ld : List Ld}, (∀ l ∈ ld, l.i ≠ i) → fs ld D u J → fs ld (dset D i) (upd u i x) J
 | [], _, _ => trivial
 | l :: r, h, f => by
  have h1 := h l List.mem_cons_self
  refine ⟨?_, fs_other (fun l' hl' => h l' (List.mem_cons_of_mem _ hl')) f.2⟩
  rw [dset_ne _ h1, upd_ne _ _ h1]
  exact f.1
theorem fs_zero {u : Nat → Wt} {J : Imm} : ∀ {ld : List Ld}, fs ld (fun _ => false) u J
 | [] => trivial
 | _ :: _ => ⟨fun h => (by cases h), fs_zero⟩
/-- What holds in between: what came in one order, and the literals' facts. -/
def SB (B : Base) (I : Imm) (L : List Blk) (ch : List (Nat × (Wt → Value))) (lt : List Ld) (Xs : Nat → (Nat → Wt) → List Res) (Fs : Nat → (Nat → Wt) → Imm → Prop) (D : Nat → Bool) (u : Nat → Wt) (w : World) : Prop :=
 ∃ a b, ch = a ++ b ∧ (∀ p ∈ a, D p.1 = true) ∧ (∀ p ∈ b, D p.1 = false) ∧ ∃ J, I.le J ∧ Sat B J w.heap.size L (Xs a.length u) w ∧ Fs a.length u J ∧ fs lt D u J
def StepsB (P : Program) (os : List Oper) (an : List Nat) (B : Base) (I : Imm) (L : List Blk) (vl : List (Nat × (Wt → Value))) (lt : List Ld) (Xs : Nat → (Nat → Wt) → List Res) (Fs : Nat → (Nat → Wt) → Imm → Prop) : Nat → List (Nat × (Wt → Value)) → List ((Nat → Wt) → List (Nat × Value)) → Prop
 | _, [], _ => True
 | _, _ :: _, [] => False
 | q, (i, f) :: r, Kl :: Ks => (∀ D u w J, (∀ j, behind an i j = true → (lk vl j).isSome = true → D j = true) → I.le J → Sat B J w.heap.size L (Xs q u) w → Fs q u J → fs lt D u J →
   Does P (execOp (evalK (Kl u)) (os.getD i default)) w (fun v w' => ∃ x, v = f x ∧ ∃ J', J.le J' ∧ Sat B J' w'.heap.size L (Xs (q + 1) (upd u i x)) w' ∧ Fs (q + 1) (upd u i x) J')) ∧ StepsB P os an B I L vl lt Xs Fs (q + 1) r Ks
section
variable {an : List Nat} {vl : List (Nat × (Wt → Value))} {lt : List Ld} {Xs : Nat → (Nat → Wt) → List Res} {Fs : Nat → (Nat → Wt) → Imm → Prop}
theorem StepsB.nil {q : Nat} : StepsB P os an B I L vl lt Xs Fs q [] [] := trivial
theorem StepsB.cons {q i : Nat} {f : Wt → Value} {r : List (Nat × (Wt → Value))} {Kl : (Nat → Wt) → List (Nat × Value)} {Ks : List ((Nat → Wt) → List (Nat × Value))}
  (h : ∀ D u w J, (∀ j, behind an i j = true → (lk vl j).isSome = true → D j = true) → I.le J → Sat B J w.heap.size L (Xs q u) w → Fs q u J → fs lt D u J →
   Does P (execOp (evalK (Kl u)) (os.getD i default)) w (fun v w' => ∃ x, v = f x ∧ ∃ J', J.le J' ∧ Sat B J' w'.heap.size L (Xs (q + 1) (upd u i x)) w' ∧ Fs (q + 1) (upd u i x) J'))
  (h2 : StepsB P os an B I L vl lt Xs Fs (q + 1) r Ks) : StepsB P os an B I L vl lt Xs Fs q ((i, f) :: r) (Kl :: Ks) := ⟨h, h2⟩
end
def LitsB (P : Program) (os : List Oper) (B : Base) (I : Imm) (L : List Blk) : List Ld → List ((Nat → Wt) → List (Nat × Value)) → Prop
 | [], _ => True
 | _ :: _, [] => False
 | l :: r, Kl :: Ks => (∀ u w J X, I.le J → Sat B J w.heap.size L X w → Does P (execOp (evalK (Kl u)) (os.getD l.i default)) w (fun v w' => ∃ x, v = l.val x ∧ ∃ J', J.le J' ∧ Sat B J' w'.heap.size L X w' ∧ l.F x J')) ∧ LitsB P os B I L r Ks
theorem LitsB.nil : LitsB P os B I L [] [] := trivial
theorem LitsB.cons {l : Ld} {r : List Ld} {Kl : (Nat → Wt) → List (Nat × Value)} {Ks : List ((Nat → Wt) → List (Nat × Value))} (h : ∀ u w J X, I.le J → Sat B J w.heap.size L X w → Does P (execOp (evalK (Kl u)) (os.getD l.i default)) w (fun v w' => ∃ x, v = l.val x ∧ ∃ J', J.le J' ∧ Sat B J' w'.heap.size L X w' ∧ l.F x J'))
  (h2 : LitsB P os B I L r Ks) : LitsB P os B I L (l :: r) (Kl :: Ks) := ⟨h, h2⟩

theorem sb_chain {an : List Nat} {ch : List (Nat × (Wt → Value))} {lt : List Ld} {Xs : Nat → (Nat → Wt) → List Res} {Fs : Nat → (Nat → Wt) → Imm → Prop} (hch : chainOk an (ch.map (·.1)) = true) (hne : ∀ p ∈ ch, ∀ l ∈ lt, l.i ≠ p.1) : ∀ (r pre : List (Nat × (Wt → Value))) (Ks Kr : List ((Nat → Wt) → List (Nat × Value))) (rest : List (Nat × (Wt → Value))), ch = pre ++ r →
  StepsB P os an B I L (ch ++ Ld.vl lt) lt Xs Fs pre.length r Ks → Louds P os an (ch ++ Ld.vl lt) (SB B I L ch lt Xs Fs) rest Kr → Ks.length = r.length → Louds P os an (ch ++ Ld.vl lt) (SB B I L ch lt Xs Fs) (r ++ rest) (Ks ++ Kr)
 | [], _, [], _, _, _, _, hr, _ => hr
 | [], _, _ :: _, _, _, _, _, _, hl => by cases hl
 | _ :: _, _, [], _, _, _, h, _, _ => h.elim
 | (i, f) :: r, pre, Kl :: Ks, Kr, rest, e, h, hr, hl => by
  refine ⟨fun D u w hD hp hS => ?_, sb_chain hch hne r (pre ++ [(i, f)]) Ks Kr rest (by simp [e]) (by simpa using h.2) hr (by simpa using hl)⟩
  obtain ⟨a, b, e2, ha, hb, J, hJ, hs, hF, hf⟩ := hS
  have hcg := chain_get (an := an) (pre := pre) (x := (i, f)) (r := r) (by rw [← e]; exact hch)
  have hpre : ∀ p ∈ pre, D p.1 = true := fun p hpp => hp p.1 (hcg.1 p hpp).1 (lk_append (lk_hit ch (by rw [e]; exact List.mem_append_left _ hpp)))
  obtain ⟨rfl, rfl⟩ := sk_split (x := (i, f)) hD pre a b r (by rw [← e, e2]) hpre ha hb
  refine (h.1 D u w J hp hJ hs hF hf).mono ?_
  rintro v w' ⟨x, rfl, J', hJ', hs', hF'⟩
  refine ⟨x, rfl, a ++ [(i, f)], r, by simp [e], fun p hpp => ?_, fun p hpp => ?_, J', Imm.le_trans hJ hJ', by simpa using hs', by simpa using hF', fs_other (fun l hl' => ?_) (fs.ext hJ' hf)⟩
  ·rcases List.mem_append.1 hpp with hpp | hpp
   ·exact dset_true (ha p hpp)
   ·rw [List.mem_singleton.1 hpp]; exact dset_self D i
  ·rw [dset_ne D (hcg.2 p hpp)]
   exact hb p (List.mem_cons_of_mem _ hpp)
  ·exact hne (i, f) (by rw [e]; exact List.mem_append_right _ List.mem_cons_self) l hl'
theorem sb_lits {an : List Nat} {ch : List (Nat × (Wt → Value))} {lt : List Ld} {Xs : Nat → (Nat → Wt) → List Res} {Fs : Nat → (Nat → Wt) → Imm → Prop} (hne : ∀ p ∈ ch, ∀ l ∈ lt, l.i ≠ p.1) (hn : nodupN (lt.map (·.i)) = true)
  (hX : ∀ l ∈ lt, ∀ q u x, Xs q (upd u l.i x) = Xs q u) (hF : ∀ l ∈ lt, ∀ q u x J J', J.le J' → Fs q u J → Fs q (upd u l.i x) J') : ∀ (r : List Ld) (Ks : List ((Nat → Wt) → List (Nat × Value))), (∀ l ∈ r, l ∈ lt) → LitsB P os B I L r Ks → Louds P os an (ch ++ Ld.vl lt) (SB B I L ch lt Xs Fs) (Ld.vl r) Ks
 | [], _, _, _ => trivial
 | _ :: _, [], _, h => h.elim
 | l :: r, Kl :: Ks, hm, h => by
  have hl := hm l List.mem_cons_self
  refine ⟨fun D u w hD hp hS => ?_, sb_lits hne hn hX hF r Ks (fun l' h' => hm l' (List.mem_cons_of_mem _ h')) h.2⟩
  obtain ⟨a, b, e2, ha, hb, J, hJ, hs, hFs, hf⟩ := hS
  refine (h.1 u w J _ hJ hs).mono ?_
  rintro v w' ⟨x, rfl, J', hJ', hs', hF'⟩
  refine ⟨x, rfl, a, b, e2, fun p hpp => dset_true (ha p hpp), fun p hpp => ?_, J', Imm.le_trans hJ hJ', by rw [hX l hl]; exact hs', hF l hl _ _ _ _ _ hJ' hFs, fs_set hn hl (fs.ext hJ' hf) hF'⟩
  rw [dset_ne D (fun e => hne p (by rw [e2]; exact List.mem_append_right _ hpp) l hl e.symm)]
  exact hb p hpp
theorem OK.drawnB (id t : Nat) (os : List Oper) (an : List Nat) (h : c = .region id os.toArray true) (hm : P.follows .mixedOrders = true) (ch : List (Nat × (Wt → Value))) (lt : List Ld) (gl : List (Nat × ((Nat → Wt) → Value))) (Xs : Nat → (Nat → Wt) → List Res) (Fs : Nat → (Nat → Wt) → Imm → Prop) (R : List (Addr × Value)) (hR : RI B I L [] R) (locs : List Loc)
  (han : ancs os [] = an) (hok : drawOk os an t = true) (hlt : ((ch ++ Ld.vl lt).all fun p => decide (p.1 < t)) = true) (hch : chainOk an (ch.map (·.1)) = true) (hn : nodupN (lt.map (·.i)) = true) (hne : (ch.all fun p => lt.all fun l => !Nat.beq l.i p.1) = true) (vs : (Nat → Wt) → List Value) (K' : (Nat → Wt) → List (Nat × Value))
  (hv : ∀ u, (qSim P R L os A (ch ++ Ld.vl lt) gl u locs 0 (os.take t) K).map (fun x => (x.1, x.2.1)) = some (vs u, K' u))
  (he : ∀ u, (qSim P R L os A (ch ++ Ld.vl lt) gl u locs 0 (os.take t) K).map (fun x => x.2.2.map (·.1)) = (qSim P R L os A (ch ++ Ld.vl lt) gl u locs 0 (os.take t) K).map (fun x => x.2.2.map (·.2)))
  (hX : ∀ u, Xs 0 u = X) (hF : ∀ u, Fs 0 u I) (hXl : ∀ l ∈ lt, ∀ q u x, Xs q (upd u l.i x) = Xs q u) (hFl : ∀ l ∈ lt, ∀ q u x J J', J.le J' → Fs q u J → Fs q (upd u l.i x) J')
  (Ks Kt : List ((Nat → Wt) → List (Nat × Value))) (hlen : Ks.length = ch.length) (hf : framesOk A K os vs (ch ++ Ld.vl lt) (Ks ++ Kt)) (hst : StepsB P os an B I L (ch ++ Ld.vl lt) lt Xs Fs 0 ch Ks) (hli : LitsB P os B I L lt Kt)
  (Kg : List ((Nat → Wt) → List (Nat × Value))) (hfg : framesOk A K os vs gl Kg) (hg : Givens P os an (ch ++ Ld.vl lt) (SB B I L ch lt Xs Fs) gl Kg)
  (k : ∀ (u : Nat → Wt) (J : Imm) (nx' : Nat), I.le J → Fs ch.length u J → RL P os Q t A (K' u) B J nx' L (Xs ch.length u)) : OK P c Q A K B I nx L X := by
 obtain ⟨e, h1, h2⟩ := vsOf_eq hv
 subst e
 have hne' : ∀ p ∈ ch, ∀ l ∈ lt, l.i ≠ p.1 := fun p hp l hl e => by
  have h3 := List.all_eq_true.1 (List.all_eq_true.1 hne p hp) l hl
  rw [e, beq_self] at h3
  cases h3
 refine OK.drawn id t os an h hm (ch ++ Ld.vl lt) gl R L locs han hok hlt h1 he (SB B I L ch lt Xs Fs) ?_ ?_ (Ks ++ Kt) hf (sb_chain hch hne' ch [] Ks Kt (Ld.vl lt) rfl hst (sb_lits hne' hn hXl hFl lt Kt (fun _ h => h) hli) hlen) Kg hfg hg K' h2 ?_
 ·rintro D u w ⟨a, b, e, _, _, J, hJ, hs, _⟩
  exact ⟨hs.blk, fun r hr => hR J _ _ w hJ hs r hr⟩
 ·intro u w hs
  exact ⟨[], ch, rfl, fun p hp => (by cases hp), fun p _ => rfl, I, Imm.le_refl _, by rw [hs.hnx]; rw [show Xs ([] : List (Nat × (Wt → Value))).length u = X from hX u]; exact hs, hF u, fs_zero⟩
 ·rintro u a w ⟨a1, b1, e, ha1, hb1, J, hJ, hs, hFs, _⟩ ha
  have hb0 : b1 = [] := by
   cases b1 with
   | nil => rfl
   | cons y b2 =>
    have h3 := hb1 y List.mem_cons_self
    have h4 : Dall (ch ++ Ld.vl lt) y.1 = true := lk_append (lk_hit ch (by rw [e]; exact List.mem_append_right _ List.mem_cons_self))
    rw [h3] at h4
    cases h4
  subst hb0
  rw [List.append_nil] at e
  rw [e] at k
  exact (k u J _ hJ hFs).go ha hs
end
end Go.Proofs.Ytihmbmeelheinaa.RW
namespace Go.Proofs.Ytihmbmeelheinaa.RW
open Go Go.RowKit

section
variable {P : Program} {c : Code} {Q : Exit → Act → World → Prop} {A : Fr} {K : List (Nat × Value)} {B : Base} {I : Imm} {nx : Nat} {L : List Blk} {X : List Res} {os : List Oper} {p : Nat}
theorem run_slice3 {T e : TypeId} {sz : Nat} (hu : P.underlying T = some (.slice e)) (hz : (P.info? e).map (·.size) = some sz) {S : Option Addr} {n cap : Nat} {lo hi mx : Int} (h0 : 0 ≤ lo) (h1 : lo ≤ hi) (h2 : hi ≤ mx) (h3 : mx ≤ (cap : Int)) (w : World) (kl kh km : IntKind) :
  (Instr.sliceAt T (.slice S n cap) (some (.int kl lo)) (some (.int kh hi)) (some (.int km mx))).run P w = .ok (.slice (slA S lo.toNat mx.toNat sz) (hi.toNat - lo.toNat) (mx.toNat - lo.toNat)) w := by
 obtain ⟨inf, hi', hsz⟩ := Option.map_eq_some_iff.1 hz
 obtain ⟨hu1, he⟩ := elem_of hu
 rw [run_sliceAt_slice w T _ _ _ _ hu1, run_slice_lhm w T S n cap hu1 kl kh km lo hi mx h0 h1 h2 h3, he]
 simp only [sizeOf, typeInfo, Sem.run_bind, Result.andThen]
 simp [hi', hsz, sliced, slA]
theorem run_slice2 {T e : TypeId} {sz : Nat} (hu : P.underlying T = some (.slice e)) (hz : (P.info? e).map (·.size) = some sz) {S : Option Addr} {n cap : Nat} {lo hi : Int} (h0 : 0 ≤ lo) (h1 : lo ≤ hi) (h2 : hi ≤ (cap : Int)) (w : World) (kl kh : IntKind) :
  (Instr.sliceAt T (.slice S n cap) (some (.int kl lo)) (some (.int kh hi)) none).run P w = .ok (.slice (slA S lo.toNat cap sz) (hi.toNat - lo.toNat) (cap - lo.toNat)) w := by
 obtain ⟨inf, hi', hsz⟩ := Option.map_eq_some_iff.1 hz
 obtain ⟨hu1, he⟩ := elem_of hu
 rw [run_sliceAt_slice w T _ _ _ _ hu1, run_slice_lh w T S n cap hu1 kl kh lo hi h0 h1 h2, he]
 simp only [sizeOf, typeInfo, Sem.run_bind, Result.andThen]
 simp [hi', hsz, sliced, slA]
theorem RL.slice3 {T e : TypeId} (sz : Nat) {S : Option Addr} {n cap : Nat} {lo hi mx : Int} (kl kh km : IntKind) (d : Option Tmp) (hl : ready os p K d = true)
  (hx : execOp (evalK K) (os.getD p default) = toNext (Instr.sliceAt T (.slice S n cap) (some (.int kl lo)) (some (.int kh hi)) (some (.int km mx))))
  (hu : P.underlying T = some (.slice e)) (hz : (P.info? e).map (·.size) = some sz) (h0 : 0 ≤ lo) (h1 : lo ≤ hi) (h2 : hi ≤ mx) (h3 : ∀ w, Sat B I nx L X w → mx ≤ (cap : Int)) {K' : List (Nat × Value)} (hF : putK A K d (.slice (slA S lo.toNat mx.toNat sz) (hi.toNat - lo.toNat) (mx.toNat - lo.toNat)) = K')
  (kk : RL P os Q (p + 1) A K' B I nx L X) : RL P os Q p A K B I nx L X :=
 RL.quiet d _ hl hF (fun w hs => by rw [hx]; exact run_toNext (run_slice3 hu hz h0 h1 h2 (h3 w hs) w kl kh km)) kk
theorem RL.slice2 {T e : TypeId} (sz : Nat) {S : Option Addr} {n cap : Nat} {lo hi : Int} (kl kh : IntKind) (d : Option Tmp) (hl : ready os p K d = true)
  (hx : execOp (evalK K) (os.getD p default) = toNext (Instr.sliceAt T (.slice S n cap) (some (.int kl lo)) (some (.int kh hi)) none))
  (hu : P.underlying T = some (.slice e)) (hz : (P.info? e).map (·.size) = some sz) (h0 : 0 ≤ lo) (h1 : lo ≤ hi) (h2 : ∀ w, Sat B I nx L X w → hi ≤ (cap : Int)) {K' : List (Nat × Value)} (hF : putK A K d (.slice (slA S lo.toNat cap sz) (hi.toNat - lo.toNat) (cap - lo.toNat)) = K')
  (kk : RL P os Q (p + 1) A K' B I nx L X) : RL P os Q p A K B I nx L X :=
 RL.quiet d _ hl hF (fun w hs => by rw [hx]; exact run_toNext (run_slice2 hu hz h0 h1 (h2 w hs) w kl kh)) kk

theorem giv_ownH {α : Type} {T e : TypeId} (sz : Nat) {l : List α} {S : Option Addr} {cap : Nat} {hi : Int} (kh : IntKind)
  (hx : execOp (evalK K) (os.getD p default) = toNext (Instr.sliceAt T (.slice S l.length cap) none (some (.int kh hi)) none))
  (hu : P.underlying T = some (.slice e)) (hz : (P.info? e).map (·.size) = some sz) (hc : l.length ≤ cap) (h1 : 0 ≤ hi) (h2 : hi ≤ (l.length : Int)) (w : World) :
  (execOp (evalK K) (os.getD p default)).run P w = .ok (.value (.slice S hi.toNat cap)) w := by
 have h := run_subH (P := P) hu hz (l := l) (S := S) (cap := cap) hc h1 h2 w kh
 rw [slA_self, part_length (Int.le_refl 0) h1 h2] at h
 rw [hx]
 exact run_toNext (by simpa using h)
theorem giv_ownL {α : Type} {T e : TypeId} (sz : Nat) {l : List α} {S : Option Addr} {cap : Nat} {lo : Int} (kl : IntKind)
  (hx : execOp (evalK K) (os.getD p default) = toNext (Instr.sliceAt T (.slice S l.length cap) (some (.int kl lo)) none none))
  (hu : P.underlying T = some (.slice e)) (hz : (P.info? e).map (·.size) = some sz) (h0 : 0 ≤ lo) (h1 : lo ≤ (l.length : Int)) (w : World) :
  (execOp (evalK K) (os.getD p default)).run P w = .ok (.value (.slice (slA S lo.toNat cap sz) (l.length - lo.toNat) (cap - lo.toNat))) w := by
 have h := run_subL (P := P) hu hz (l := l) (S := S) (cap := cap) h0 h1 w kl
 rw [part_length h0 h1 (Int.le_refl _)] at h
 rw [hx]
 exact run_toNext (by simpa using h)
/-- What a row's room is. -/
theorem Sat.own_le {w : World} (hs : Sat B I nx L X w) {xi : Nat} {e : TypeId} {sz : Nat} {S : Option Addr} {n cap : Nat} {cs : List Value} (hX : X[xi]? = some (orow e sz S n cap cs)) : n ≤ cap := by
 rcases (hs.own_P hX).2 with ⟨e1, h0⟩ | ⟨g, cap', cur, e1, hb, hg, hc, _⟩
 ·omega
 ·injection e1 with _ _ e3
  omega
theorem Sat.own_le' {w : World} (hs : Sat B I nx L X w) (xi : Nat) {e : TypeId} {sz : Nat} {S : Option Addr} {n cap : Nat} {cs : List Value} (hX : X[xi]? = some (orow e sz S n cap cs)) {m : Int} (h : m ≤ (n : Int)) : m ≤ (cap : Int) := by
 have := hs.own_le hX
 omega
theorem slA_at {g lo cap sz : Nat} (h : lo < cap) : slA (some ⟨g, 0, none⟩) lo cap sz = some ⟨g, lo * sz, none⟩ := by
 unfold slA
 rw [if_neg (by omega), Option.map_some]
 congr 1
 unfold Addr.add
 split
 ·rename_i h; rw [h]
 ·simp
theorem setRow_short {w : World} (hs : Sat B I nx L X w) {xi : Nat} {e : TypeId} {sz g n n' cap : Nat} {cs cs' : List Value} (hX : X[xi]? = some (orow e sz (some ⟨g, 0, none⟩) n cap cs)) (cur : Array Value) (hg : w.heap[g]? = some (.cells cur e (0, 0))) (hl : cs'.length = n' * sz) (rest : List Value) (hcap : cap * sz = (cs' ++ rest).length) (hn : n' ≤ cap) (hm : cap ≤ maxLen) :
  Sat B I (w.setRow g (cs' ++ rest).toArray).heap.size L (X.set xi (orow e sz (some ⟨g, 0, none⟩) n' cap cs')) (w.setRow g (cs' ++ rest).toArray) := by
 have hheap : ∀ k, k ≠ g → (w.setRow g (cs' ++ rest).toArray).heap[k]? = w.heap[k]? := fun k hk => by
  simp only [World.setRow, Array.getElem?_modify]
  rw [if_neg (fun e => hk e.symm)]
 have hsz : (w.setRow g (cs' ++ rest).toArray).heap.size = w.heap.size := by simp [World.setRow]
 exact hs.replace hX (orow e sz (some ⟨g, 0, none⟩) n' cap cs') (w' := w.setRow g (cs' ++ rest).toArray) rfl rfl rfl (by rw [hsz]; exact Nat.le_refl _) (fun k hk hf => hheap k (fun e1 => hf (by rw [e1]; exact ⟨_, rfl, rfl⟩)))
  ⟨hl, .inr ⟨g, cap, (cs' ++ rest).toArray, rfl, Nat.zero_le _, setRow_heap w g cur _ e _ hg, hn, hm, by simp [← hcap], by simp [← hl]⟩⟩
  (fun k hk => .inl hk) (fun k hk => by
   obtain ⟨a, ha, rfl⟩ := hk
   injection ha with ha
   rw [← ha, hsz]
   exact (Array.getElem?_eq_some_iff.1 hg).1)
/-- A part of a row of the call's own is laid over another place of it. -/
theorem Sat.del_run {α : Type} {T e : TypeId} {S : Option Addr} {w : World} (hs : Sat B I nx L X w) (sz : Nat) (ty : TypeId) (cap : Nat) (cs : List Value) (dt : Ty α) (l : List α) (xi : Nat)
  (hu : P.underlying T = some (.slice e)) (hz : (P.info? e).map (·.size) = some sz) (hd : dt.sz = sz) (hX : X[xi]? = some (orow e sz S l.length cap cs)) (hr : Reps dt I l cs) (i j : Nat) (hij : i ≤ j) (hj : j ≤ l.length) :
  ∃ (cs' : List Value) (w' : World), (Builtin.append_ #[T, T] ty #[.slice S i cap, .slice (slA S j cap sz) (l.length - j) (cap - j)]).run P w = .ok (.slice S (l.take i ++ l.drop j).length cap) w' ∧ Reps dt I (l.take i ++ l.drop j) cs' ∧ Sat B I w'.heap.size L (X.set xi (orow e sz S (l.take i ++ l.drop j).length cap cs')) w' := by
 subst hd
 obtain ⟨inf, hinf, hsz⟩ := Option.map_eq_some_iff.1 hz
 have hlen : (l.take i ++ l.drop j).length = i + (l.length - j) := by rw [List.length_append, List.length_take, List.length_drop]; omega
 have ho := hs.own_P hX
 have hcs : cs.length = l.length * dt.sz := ho.1
 have hrep : Reps dt I (l.take i ++ l.drop j) (cs.take (i * dt.sz) ++ cs.drop (j * dt.sz)) := (hr.take i).append (by
  have h1 : ∀ (j : Nat) {l : List α} {cs : List Value}, Reps dt I l cs → Reps dt I (l.drop j) (cs.drop (j * dt.sz)) := by
   intro j
   induction j with
   | zero => intro l cs h; simpa using h
   | succ j ih =>
    intro l cs h
    cases l with
    | nil => obtain rfl : cs = [] := h; simp; exact rfl
    | cons x l =>
     obtain ⟨c, ds, rfl, hk, hr2⟩ := h
     have hc := dt.len hk
     rw [List.drop_succ_cons, Nat.succ_mul, Nat.add_comm, ← List.drop_drop, show dt.sz = c.length from hc.symm, List.drop_left]
     rw [hc]
     exact ih hr2
  exact h1 j hr)
 refine ⟨cs.take (i * dt.sz) ++ cs.drop (j * dt.sz), ?_⟩
 have hle1 : i * dt.sz ≤ l.length * dt.sz := Nat.mul_le_mul_right _ (by omega)
 have hle2 : j * dt.sz ≤ l.length * dt.sz := Nat.mul_le_mul_right _ hj
 have hle3 : i * dt.sz ≤ j * dt.sz := Nat.mul_le_mul_right _ hij
 have hcl : (cs.take (i * dt.sz) ++ cs.drop (j * dt.sz)).length = (i + (l.length - j)) * dt.sz := by
  rw [List.length_append, List.length_take, List.length_drop, hcs, Nat.add_mul, Nat.sub_mul]; omega
 rcases ho.2 with ⟨e1, h0⟩ | ⟨g, cap', cur, e1, _, hg, hc, hmx, hsz2, htk⟩
 ·injection e1 with e1 _ e3
  subst e1; subst e3
  obtain rfl : i = 0 := by omega
  obtain rfl : j = 0 := by omega
  have hl0 : l = [] := List.eq_nil_of_length_eq_zero h0
  subst hl0
  have hc0 : cs = [] := List.eq_nil_of_length_eq_zero (by simpa using hcs)
  subst hc0
  refine ⟨w, ?_, by simpa using hrep, ?_⟩
  ·simp [Builtin.append_, run_underlying hu, sizeOf, typeInfo, hinf, Builtin.lenOf, slA, Builtin.firstCells, Sem.run_bind]
  ·have hset : X.set xi (orow e dt.sz none 0 0 []) = X := by
    obtain ⟨h1, h2⟩ := List.getElem?_eq_some_iff.1 hX
    have : X[xi] = orow e dt.sz none 0 0 [] := h2
    rw [← this]
    exact List.set_getElem_self h1
   simp only [List.take_nil, List.drop_nil, List.append_nil, List.length_nil, Nat.zero_mul]
   rw [hset, hs.hnx]
   exact hs
 ·injection e1 with e1 _ e3
  subst e1; subst e3
  have hle4 : l.length * dt.sz ≤ cap * dt.sz := Nat.mul_le_mul_right _ hc
  have hcur : cur.toList = cs ++ cur.toList.drop (l.length * dt.sz) := by
   conv => lhs; rw [← List.take_append_drop (l.length * dt.sz) cur.toList]
   rw [htk]
  -- what is read
  have hread : ∀ w : World, w.heap[g]? = some (.cells cur e (0, 0)) → (Builtin.firstCells dt.sz (l.length - j) (.slice (slA (some ⟨g, 0, none⟩) j cap dt.sz) (l.length - j) (cap - j))).run P w = .ok (cs.drop (j * dt.sz)).toArray w := by
   intro w hg
   by_cases hjl : j = l.length
   ·subst hjl
    have hz0 : cs.drop (l.length * dt.sz) = [] := List.drop_eq_nil_of_le (by omega)
    rw [hz0, Nat.sub_self]
    unfold slA
    split
    ·exact run_loadCells_list (P := P) w _ [] (by simp) |> fun h => by simpa [Builtin.firstCells] using h
    ·exact run_loadCells_list (P := P) w _ [] (by simp) |> fun h => by simpa [Builtin.firstCells] using h
   ·rw [slA_at (by omega)]
    have hl2 : (cs.drop (j * dt.sz)).length = (l.length - j) * dt.sz := by rw [List.length_drop, hcs, Nat.sub_mul]
    have := run_loadCells_list (P := P) w ⟨g, j * dt.sz, none⟩ (cs.drop (j * dt.sz)) (fun q v hv => by
     have hadd : (⟨g, j * dt.sz, none⟩ : Addr).add q = ⟨g, j * dt.sz + q, none⟩ := by
      unfold Addr.add
      split
      ·rename_i h; rw [h]; rfl
      ·rfl
     rw [hadd]
     simp only [World.cell?, hg]
     rw [List.getElem?_drop] at hv
     have h5 : cur.toList[j * dt.sz + q]? = some v := by
      rw [hcur, List.getElem?_append_left (List.getElem?_eq_some_iff.1 hv).1]
      exact hv
     simpa using h5)
    rw [hl2] at this
    exact this
  have hone : ∀ v ∈ cs.drop (j * dt.sz), v.oneCell' = true := fun v hv => hr.one v (List.mem_of_mem_drop hv)
  have hst := run_storeCells_at P g (i * dt.sz) e (cs.drop (j * dt.sz)) 0 cur w hg (by rw [List.length_drop, hcs, hsz2]; omega) hone
  simp only [Nat.add_zero] at hst
  refine ⟨w.setRow g (cur.toList.take (i * dt.sz) ++ cs.drop (j * dt.sz) ++ cur.toList.drop (i * dt.sz + (cs.drop (j * dt.sz)).length)).toArray, ?_, hrep, ?_⟩
  ·have hneed : i + (l.length - j) ≤ cap := by omega
   have hadd : (⟨g, 0, none⟩ : Addr).add (i * dt.sz) = ⟨g, i * dt.sz, none⟩ := by
    unfold Addr.add
    split
    ·rename_i h; rw [h]
    ·simp
   have hzr : ∀ w : World, (underlying T).run P w = .ok (.slice e) w := run_underlying hu
   rw [hlen]
   simp [Builtin.append_, hzr, sizeOf, typeInfo, hinf, hsz, Builtin.lenOf, hneed, hread w hg, hadd, hst, Sem.run_bind]
  ·have hnew : cur.toList.take (i * dt.sz) ++ cs.drop (j * dt.sz) ++ cur.toList.drop (i * dt.sz + (cs.drop (j * dt.sz)).length) = (cs.take (i * dt.sz) ++ cs.drop (j * dt.sz)) ++ cur.toList.drop (i * dt.sz + (cs.drop (j * dt.sz)).length) := by
    conv => lhs; rw [hcur]
    rw [List.take_append_of_le_length (by omega), ← hcur]
   rw [hnew]
   have h6 := setRow_short hs hX cur hg (n' := (l.take i ++ l.drop j).length) (cs' := cs.take (i * dt.sz) ++ cs.drop (j * dt.sz)) (by rw [hlen]; exact hcl) (cur.toList.drop (i * dt.sz + (cs.drop (j * dt.sz)).length)) (by
    simp only [List.length_append, List.length_take, List.length_drop, Array.length_toList, hcs, hsz2]
    omega) (by rw [hlen]; omega) hmx
   exact h6
theorem RL.delA {α : Type} {T e : TypeId} (sz : Nat) (ty : TypeId) {S : Option Addr} (cap : Nat) (cs : List Value) (dt : Ty α) (l : List α) (xi i j : Nat) (d : Option Tmp) (hl : ready os p K d = true)
  (hx : execOp (evalK K) (os.getD p default) = toNext (Builtin.append_ #[T, T] ty #[.slice S i cap, .slice (slA S j cap sz) (l.length - j) (cap - j)]))
  (hu : P.underlying T = some (.slice e)) (hz : (P.info? e).map (·.size) = some sz) (hd : dt.sz = sz) (hX : X[xi]? = some (orow e sz S l.length cap cs)) (hr : Reps dt I l cs) (hij : i ≤ j) (hj : j ≤ l.length)
  (kk : ∀ (cs' : List Value) (nx' : Nat), Reps dt I (l.take i ++ l.drop j) cs' → RL P os Q (p + 1) A (putK A K d (.slice S (l.take i ++ l.drop j).length cap)) B I nx' L (X.set xi (orow e sz S (l.take i ++ l.drop j).length cap cs'))) : RL P os Q p A K B I nx L X := by
 refine RL.one d (fun v w' => v = .slice S (l.take i ++ l.drop j).length cap ∧ ∃ cs', Reps dt I (l.take i ++ l.drop j) cs' ∧ Sat B I w'.heap.size L (X.set xi (orow e sz S (l.take i ++ l.drop j).length cap cs')) w') hl (fun w hs => ?_) (fun v w' hN a' ha' => ?_)
 ·obtain ⟨cs', w', h1, h2, h3⟩ := hs.del_run (P := P) (T := T) (e := e) (S := S) sz ty cap cs dt l xi hu hz hd hX hr i j hij hj
  exact ⟨_, w', by rw [hx]; exact run_toNext h1, rfl, cs', h2, h3⟩
 ·obtain ⟨rfl, cs', h2, hs⟩ := hN
  exact kk cs' _ h2 a' w' ha' hs
theorem OK.ownLe (xi : Nat) {e : TypeId} {sz : Nat} {S : Option Addr} {n cap : Nat} {cs : List Value} (hX : X[xi]? = some (orow e sz S n cap cs)) (k : n ≤ cap → OK P c Q A K B I nx L X) : OK P c Q A K B I nx L X := fun a w ha hs => k (hs.own_le hX) a w ha hs
theorem zeroCells_len (z : Array Value) (n : Nat) : (Builtin.zeroCells z n).toList.length = n * z.size := by
 unfold Builtin.zeroCells
 simp
theorem zeroCells_one' {z : Array Value} (h : ∀ v ∈ z.toList, v.oneCell' = true) (n : Nat) : ∀ v ∈ (Builtin.zeroCells z n).toList, v.oneCell' = true := by
 intro v hv
 unfold Builtin.zeroCells at hv
 simp only [Array.toList_map, Array.toList_range, List.mem_map, List.mem_range] at hv
 obtain ⟨i, hi, rfl⟩ := hv
 have hz : 0 < z.size := by
  rcases Nat.eq_zero_or_pos z.size with h0 | h0
  ·rw [h0, Nat.mul_zero] at hi; omega
  ·exact h0
 have hlt := Nat.mod_lt i hz
 rw [getElem!_pos z (i % z.size) hlt]
 exact h _ (by simp)
/-- What lies behind a row of the call's own is cleared. -/
theorem RL.clearT {T e : TypeId} (sz xi m : Nat) (ty : TypeId) {S : Option Addr} {n cap : Nat} {cs : List Value} (zv : Value) (hl : ready os p K none = true)
  (hx : execOp (evalK K) (os.getD p default) = toNext (Builtin.clear_ #[T] ty #[.slice (slA S n cap sz) m (cap - n)]))
  (hu : P.underlying T = some (.slice e)) (hz : (P.info? e).map (fun i => (i.size, i.zero)) = some (sz, some zv)) (hzs : zv.cells.size = sz) (hone : ∀ v ∈ zv.cells.toList, v.oneCell' = true) (hX : X[xi]? = some (orow e sz S n cap cs)) (hm : n + m ≤ cap)
  (kk : RL P os Q (p + 1) A (putK A K none (.tuple #[])) B I nx L X) : RL P os Q p A K B I nx L X := by
 subst hzs
 obtain ⟨inf, hinf, hh⟩ := Option.map_eq_some_iff.1 hz
 simp only [Prod.mk.injEq] at hh
 obtain ⟨hsz, hzr⟩ := hh
 have hset : X.set xi (orow e zv.cells.size S n cap cs) = X := by
  obtain ⟨h1, h2⟩ := List.getElem?_eq_some_iff.1 hX
  rw [← h2]
  exact List.set_getElem_self h1
 have hzv : ∀ w : World, (zeroValue e).run P w = .ok zv w := fun w => by simp [zeroValue, typeInfo, hinf, hzr]
 refine RL.one none (fun v w' => v = .tuple #[] ∧ Sat B I nx L X w') hl (fun w hs => ?_) (fun v w' hK a' ha' => ?_)
 ·have ho := hs.own_P hX
  rcases ho.2 with ⟨e1, h0⟩ | ⟨g, cap', cur, e1, _, hg, hc, hmx, hcs, htk⟩
  ·injection e1 with e1 _ e3
   subst e1
   refine ⟨_, w, ?_, rfl, hs⟩
   rw [hx]
   refine run_toNext ?_
   unfold slA
   split <;> simp [Builtin.clear_, run_underlying hu]
  ·injection e1 with e1 _ e3
   subst e1; subst e3
   by_cases hm0 : m = 0
   ·subst hm0
    refine ⟨_, w, ?_, rfl, hs⟩
    rw [hx]
    refine run_toNext ?_
    unfold slA
    split <;> simp [Builtin.clear_, run_underlying hu]
   ·have hlen := zeroCells_len zv.cells m
    have hle : n * zv.cells.size + m * zv.cells.size ≤ cap * zv.cells.size := by rw [← Nat.add_mul]; exact Nat.mul_le_mul_right _ hm
    have hst := run_storeCells_at P g (n * zv.cells.size) e (Builtin.zeroCells zv.cells m).toList 0 cur w hg (by rw [hlen, hcs]; omega) (zeroCells_one' hone m)
    simp only [Nat.add_zero] at hst
    refine ⟨.tuple #[], w.setRow g (cur.toList.take (n * zv.cells.size) ++ (Builtin.zeroCells zv.cells m).toList ++ cur.toList.drop (n * zv.cells.size + (Builtin.zeroCells zv.cells m).toList.length)).toArray, ?_, rfl, ?_⟩
    ·rw [hx]
     refine run_toNext ?_
     rw [slA_at (by omega)]
     obtain ⟨m', rfl⟩ : ∃ m', m = m' + 1 := ⟨m - 1, by omega⟩
     simp [Builtin.clear_, run_underlying hu, Sem.run_bind, hzv, hst]
    ·rw [htk, List.append_assoc]
     have h6 := setRow_sat hs hX cur hg (cs' := cs) ho.1 ((Builtin.zeroCells zv.cells m).toList ++ cur.toList.drop (n * zv.cells.size + (Builtin.zeroCells zv.cells m).toList.length)) (by
      simp only [List.length_append, List.length_drop, Array.length_toList, hcs, ho.1, hlen]
      simp only [Array.length_toList] at hlen
      omega) hc hmx
     rw [hset] at h6
     exact h6
 ·obtain ⟨rfl, hs⟩ := hK
  exact kk a' w' ha' hs
/-- A store into one cell of an element of a row of the call's own. -/
theorem RL.storeF {α : Type} {T e : TypeId} (sz xi : Nat) {S : Option Addr} {g : Nat} (hS : S = some ⟨g, 0, none⟩) (cap : Nat) (i : Int) (j : Nat) (cs old : List Value) (v : Value) (dt : Ty α) (l : List α) (x : α)
  (hl : ready os p K none = true)
  (hx : execOp (evalK K) (os.getD p default) = (Instr.storeAt T (.pointer (some ⟨g, 0 + i.toNat * sz + j, none⟩)) v).bind fun _ => .pure .skip)
  (hz : (P.info? T).map (·.size) = some 1) (hd : dt.sz = sz) (hv : v.cells = #[v]) (hone : v.oneCell' = true) (hj : j < sz) (hol : old.length = sz) (hold : ∀ q u, old[q]? = some u → cs[i.toNat * sz + q]? = some u) (hk : dt.K I x (old.set j v)) (hX : X[xi]? = some (orow e sz S l.length cap cs)) (hr : Reps dt I l cs) (h0 : 0 ≤ i) (hi : i < (l.length : Int))
  (kk : ∀ cs', Reps dt I (l.set i.toNat x) cs' → RL P os Q (p + 1) A K B I nx L (X.set xi (orow e sz S (l.set i.toNat x).length cap cs'))) : RL P os Q p A K B I nx L X := by
 subst hd
 subst hS
 have hcl : cs.length = l.length * dt.sz := hr.len
 have hle : i.toNat * dt.sz + dt.sz ≤ l.length * dt.sz := by rw [← Nat.succ_mul]; exact Nat.mul_le_mul_right _ (by omega)
 have hset : cs.set (i.toNat * dt.sz + j) v = cs.take (i.toNat * dt.sz) ++ old.set j v ++ cs.drop (i.toNat * dt.sz + dt.sz) := by
  apply List.ext_getElem?
  intro q
  rw [List.getElem?_set]
  by_cases h1 : q < i.toNat * dt.sz
  ·rw [if_neg (by omega), List.append_assoc, List.getElem?_append_left (by rw [List.length_take]; omega), List.getElem?_take_of_lt h1]
  ·by_cases h2 : q < i.toNat * dt.sz + dt.sz
   ·rw [List.append_assoc, List.getElem?_append_right (by rw [List.length_take]; omega), List.length_take, Nat.min_eq_left (by omega), List.getElem?_append_left (by rw [List.length_set]; omega), List.getElem?_set]
    by_cases h3 : i.toNat * dt.sz + j = q
    ·rw [if_pos h3, if_pos (by omega), if_pos (by omega), if_pos (by omega)]
    ·rw [if_neg h3, if_neg (by omega)]
     have h4 := hold (q - i.toNat * dt.sz) _ (List.getElem?_eq_getElem (by omega))
     rw [show i.toNat * dt.sz + (q - i.toNat * dt.sz) = q from by omega] at h4
     rw [h4, List.getElem?_eq_getElem (by omega)]
   ·rw [if_neg (by omega), List.getElem?_append_right (by simp only [List.length_append, List.length_take, List.length_set]; omega)]
    simp only [List.length_append, List.length_take, List.length_set, List.getElem?_drop]
    congr 1
    omega
 have hreps := hr.set i.toNat x (old.set j v) (by omega) hk
 rw [← hset] at hreps
 have hlen : (l.set i.toNat x).length = l.length := List.length_set
 refine RL.oneS (fun w' => Sat B I nx L (X.set xi (orow e dt.sz (some ⟨g, 0, none⟩) (l.set i.toNat x).length cap (cs.set (i.toNat * dt.sz + j) v))) w') hl (fun w hs => ?_) (fun w' hs a' ha' => kk _ hreps a' w' ha' hs)
 have ho := hs.own_P hX
 rcases ho.2 with ⟨e1, h5⟩ | ⟨g', cap', cur, e1, _, hg, hc, hmx, hcs, htk⟩
 ·omega
 ·injection e1 with e1 _ e3
  injection e1 with e1
  injection e1 with e1
  subst e1; subst e3
  obtain ⟨inf, hinf, hsz⟩ := Option.map_eq_some_iff.1 hz
  have hle2 : l.length * dt.sz ≤ cap * dt.sz := Nat.mul_le_mul_right _ hc
  have hst := run_storeCells_at P g (i.toNat * dt.sz + j) e [v] 0 cur w hg (by rw [hcs]; simp only [List.length_singleton]; omega) (by intro u hu; rw [List.mem_singleton.1 hu]; exact hone)
  simp only [Nat.add_zero] at hst
  have hcur : cur.toList = cs ++ cur.toList.drop (l.length * dt.sz) := by
   conv => lhs; rw [← List.take_append_drop (l.length * dt.sz) cur.toList]
   rw [htk]
  have hnew : cur.toList.take (i.toNat * dt.sz + j) ++ [v] ++ cur.toList.drop (i.toNat * dt.sz + j + [v].length) = cs.set (i.toNat * dt.sz + j) v ++ cur.toList.drop (l.length * dt.sz) := by
   conv => lhs; rw [hcur]
   rw [List.take_append_of_le_length (by omega), List.drop_append_of_le_length (by simp only [List.length_singleton]; omega), List.set_eq_take_append_cons_drop, if_pos (by omega)]
   simp only [List.append_assoc, List.cons_append, List.nil_append, List.length_singleton]
  refine ⟨w.setRow g (cs.set (i.toNat * dt.sz + j) v ++ cur.toList.drop (l.length * dt.sz)).toArray, ?_, ?_⟩
  ·rw [hx, Sem.run_bind']
   have hr : (Instr.storeAt T (.pointer (some ⟨g, 0 + i.toNat * dt.sz + j, none⟩)) v).run P w = .ok () (w.setRow g (cur.toList.take (i.toNat * dt.sz + j) ++ [v] ++ cur.toList.drop (i.toNat * dt.sz + j + [v].length)).toArray) := by
    simp only [Nat.zero_add]
    have hv' : v.cells.toList = [v] := by rw [hv]
    simp [Instr.storeAt, Instr.sureAddr, storeVar, sizeOf, typeInfo, hinf, hsz, hv]
    simpa using hst
   rw [hr, hnew]
   rfl
  ·rw [hlen]
   exact setRow_sat hs hX cur hg (by rw [List.length_set]; exact hcl) (cur.toList.drop (l.length * dt.sz)) (by simp only [List.length_append, List.length_set, List.length_drop, Array.length_toList, hcs]; omega) hc hmx
end
end Go.Proofs.Ytihmbmeelheinaa.RW
namespace Go.Proofs
open Go.Shelf
def Try.keysA_ren : Go.Shelf.Ren := ⟨fun | 7 => 44 | 10 => 54 | n => n, fun | 23 => 76 | 26 => 3 | 3 => 4 | 28 => 79 | 0 => 0 | 27 => 78 | 33 => 97 | 4 => 4 | n => n, fun | n => n⟩
theorem Try.keysA : Go.Proofs.SlLaysZI.n7 Try.prog Try.keysA_ren := {
 mixed := by kernel_rfl
 f7 := ⟨Try.f44.name, by decide, Try.func44.trans (congrArg some (by kernel_rfl))⟩
 f10 := ⟨Try.f54.name, by decide, Try.func54.trans (congrArg some (by kernel_rfl))⟩
 t0 := Try.underlying0
 a0 := Try.isAgg0
 z0 := Try.sizeOf0
 v0 := Try.zeroValue0
 t4 := Try.underlying4
 a4 := Try.isAgg4
 z4 := Try.sizeOf4
 v4 := Try.zeroValue4
 t23 := Try.underlying76
 a23 := Try.isAgg76
 z23 := Try.sizeOf76
 v23 := Try.zeroValue76
 t26 := Try.underlying3
 a26 := Try.isAgg3
 z26 := Try.sizeOf3
 v26 := Try.zeroValue3
 t27 := Try.underlying78
 a27 := Try.isAgg78
 z27 := Try.sizeOf78
 v27 := Try.zeroValue78
 t28 := Try.underlying79
 a28 := Try.isAgg79
 z28 := Try.sizeOf79
 v28 := Try.zeroValue79
 t33 := Try.underlying97
 a33 := Try.isAgg97
 z33 := Try.sizeOf97
 v33 := Try.zeroValue97 }
def Try.sortedA_ren : Go.Shelf.Ren := ⟨fun | 6 => 43 | 8 => 52 | 9 => 53 | 11 => 57 | 13 => 59 | 12 => 58 | 23 => 70 | 24 => 71 | 14 => 61 | 15 => 62 | 16 => 63 | 17 => 64 | 18 => 65 | 19 => 66 | 20 => 67 | 21 => 68 | 22 => 69 | 25 => 72 | 26 => 73 | 27 => 74 | 28 => 75 | 29 => 76 | 30 => 77 | 31 => 78 | n => n, fun | 26 => 3 | 28 => 79 | 24 => 26 | 0 => 0 | 3 => 3 | 37 => 103 | 48 => 116 | 50 => 118 | 4 => 4 | 40 => 108 | 39 => 107 | 45 => 113 | 5 => 5 | 9 => 9 | 51 => 119 | 55 => 123 | 57 => 125 | 58 => 126 | 33 => 97 | n => n, fun | n => n⟩
theorem Try.sortedA : Go.Proofs.SlLaysZI.n6 Try.prog Try.sortedA_ren := {
 mixed := by kernel_rfl
 f6 := ⟨Try.f43.name, by decide, Try.func43.trans (congrArg some (by kernel_rfl))⟩
 f8 := ⟨Try.f52.name, by decide, Try.func52.trans (congrArg some (by kernel_rfl))⟩
 f11 := ⟨Try.f57.name, by decide, Try.func57.trans (congrArg some (by kernel_rfl))⟩
 t0 := Try.underlying0
 a0 := Try.isAgg0
 z0 := Try.sizeOf0
 v0 := Try.zeroValue0
 t24 := Try.underlying26
 a24 := Try.isAgg26
 z24 := Try.sizeOf26
 v24 := Try.zeroValue26
 t26 := Try.underlying3
 a26 := Try.isAgg3
 z26 := Try.sizeOf3
 v26 := Try.zeroValue3
 t28 := Try.underlying79
 a28 := Try.isAgg79
 z28 := Try.sizeOf79
 v28 := Try.zeroValue79
 i26 := by kernel_rfl }
def Try.sortA_ren : Go.Shelf.Ren := ⟨fun | 5 => 53 | 8 => 59 | 7 => 58 | 19 => 70 | 20 => 71 | 10 => 61 | 11 => 62 | 12 => 63 | 13 => 64 | 14 => 65 | 15 => 66 | 16 => 67 | 17 => 68 | 18 => 69 | 30 => 72 | 31 => 73 | 32 => 74 | 33 => 75 | 34 => 76 | 35 => 77 | 40 => 78 | n => n, fun | 23 => 26 | 25 => 3 | 3 => 3 | 32 => 103 | 22 => 26 | 0 => 0 | 44 => 116 | 46 => 118 | 4 => 4 | 36 => 108 | 35 => 107 | 41 => 113 | 5 => 5 | 9 => 9 | 53 => 119 | 57 => 123 | 63 => 125 | 64 => 126 | n => n, fun | n => n⟩
theorem Try.sortA : Go.Proofs.SlLaysM.n5 Try.prog Try.sortA_ren := {
 mixed := by kernel_rfl
 f5 := ⟨Try.f53.name, by decide, Try.func53.trans (congrArg some (by kernel_rfl))⟩
 f7 := ⟨Try.f58.name, by decide, Try.func58.trans (congrArg some (by kernel_rfl))⟩
 f8 := Try.func59.trans (congrArg some (by kernel_rfl))
 f10 := ⟨Try.f61.name, by decide, Try.func61.trans (congrArg some (by kernel_rfl))⟩
 f11 := ⟨Try.f62.name, by decide, Try.func62.trans (congrArg some (by kernel_rfl))⟩
 f12 := ⟨Try.f63.name, by decide, Try.func63.trans (congrArg some (by kernel_rfl))⟩
 f13 := ⟨Try.f64.name, by decide, Try.func64.trans (congrArg some (by kernel_rfl))⟩
 f14 := ⟨Try.f65.name, by decide, Try.func65.trans (congrArg some (by kernel_rfl))⟩
 f15 := ⟨Try.f66.name, by decide, Try.func66.trans (congrArg some (by kernel_rfl))⟩
 f16 := ⟨Try.f67.name, by decide, Try.func67.trans (congrArg some (by kernel_rfl))⟩
 f17 := ⟨Try.f68.name, by decide, Try.func68.trans (congrArg some (by kernel_rfl))⟩
 f18 := ⟨Try.f69.name, by decide, Try.func69.trans (congrArg some (by kernel_rfl))⟩
 f19 := Try.func70.trans (congrArg some (by kernel_rfl))
 f20 := Try.func71.trans (congrArg some (by kernel_rfl))
 f30 := ⟨Try.f72.name, by decide, Try.func72.trans (congrArg some (by kernel_rfl))⟩
 f31 := Try.func73.trans (congrArg some (by kernel_rfl))
 f32 := Try.func74.trans (congrArg some (by kernel_rfl))
 f33 := ⟨Try.f75.name, by decide, Try.func75.trans (congrArg some (by kernel_rfl))⟩
 f34 := ⟨Try.f76.name, by decide, Try.func76.trans (congrArg some (by kernel_rfl))⟩
 f35 := ⟨Try.f77.name, by decide, Try.func77.trans (congrArg some (by kernel_rfl))⟩
 f40 := ⟨Try.f78.name, by decide, Try.func78.trans (congrArg some (by kernel_rfl))⟩
 t0 := Try.underlying0
 a0 := Try.isAgg0
 z0 := Try.sizeOf0
 v0 := Try.zeroValue0
 t3 := Try.underlying3
 a3 := Try.isAgg3
 z3 := Try.sizeOf3
 v3 := Try.zeroValue3
 t4 := Try.underlying4
 a4 := Try.isAgg4
 z4 := Try.sizeOf4
 v4 := Try.zeroValue4
 t5 := Try.underlying5
 a5 := Try.isAgg5
 z5 := Try.sizeOf5
 v5 := Try.zeroValue5
 t9 := Try.underlying9
 a9 := Try.isAgg9
 z9 := Try.sizeOf9
 v9 := Try.zeroValue9
 t22 := Try.underlying26
 a22 := Try.isAgg26
 z22 := Try.sizeOf26
 v22 := Try.zeroValue26
 t23 := Try.underlying26
 a23 := Try.isAgg26
 z23 := Try.sizeOf26
 v23 := Try.zeroValue26
 t25 := Try.underlying3
 a25 := Try.isAgg3
 z25 := Try.sizeOf3
 v25 := Try.zeroValue3
 t32 := Try.underlying103
 a32 := Try.isAgg103
 z32 := Try.sizeOf103
 v32 := Try.zeroValue103
 t35 := Try.underlying107
 a35 := Try.isAgg107
 z35 := Try.sizeOf107
 v35 := Try.zeroValue107
 t36 := Try.underlying108
 a36 := Try.isAgg108
 z36 := Try.sizeOf108
 v36 := Try.zeroValue108
 t41 := Try.underlying113
 a41 := Try.isAgg113
 z41 := Try.sizeOf113
 v41 := Try.zeroValue113
 t44 := Try.underlying116
 a44 := Try.isAgg116
 z44 := Try.sizeOf116
 v44 := Try.zeroValue116
 t46 := Try.underlying118
 a46 := Try.isAgg118
 z46 := Try.sizeOf118
 v46 := Try.zeroValue118
 t53 := Try.underlying119
 a53 := Try.isAgg119
 z53 := Try.sizeOf119
 v53 := Try.zeroValue119
 t57 := Try.underlying123
 a57 := Try.isAgg123
 z57 := Try.sizeOf123
 v57 := Try.zeroValue123
 t63 := Try.underlying125
 a63 := Try.isAgg125
 z63 := Try.sizeOf125
 v63 := Try.zeroValue125
 t64 := Try.underlying126
 a64 := Try.isAgg126
 z64 := Try.sizeOf126
 v64 := Try.zeroValue126 }
end Go.Proofs
namespace Go.Proofs.Ytihmbmeelheinaa.RW
open Go Go.RowKit

/-! ### pairs, as a map holds them -/
section
variable {α β : Type} [DecidableEq α]
def mfind : List (α × β) → α → Nat → Option (Nat × β)
 | [], _, _ => none
 | (x, b) :: r, a, i => if a = x then some (i, b) else mfind r a (i + 1)
def mget : List (α × β) → α → Option β
 | [], _ => none
 | (x, b) :: r, a => if a = x then some b else mget r a
def mput : List (α × β) → α → β → List (α × β)
 | [], a, b => [(a, b)]
 | (x, c) :: r, a, b => if a = x then (x, b) :: r else (x, c) :: mput r a b
/-- The pairs, with one at a. -/
def mens : List (α × β) → α → β → List (α × β)
 | [], a, z => [(a, z)]
 | (x, c) :: r, a, z => if a = x then (x, c) :: r else (x, c) :: mens r a z
def mat : List (α × β) → α → Nat
 | [], _ => 0
 | (x, _) :: r, a => if a = x then 0 else mat r a + 1
theorem mfind_get : ∀ (l : List (α × β)) (a : α) (i : Nat), (mfind l a i).map (·.2) = mget l a
 | [], _, _ => rfl
 | (x, b) :: r, a, i => by
  simp only [mfind, mget]
  split
  ·rfl
  ·exact mfind_get r a (i + 1)
theorem mfind_at : ∀ (l : List (α × β)) (a : α) (i j : Nat) (b : β), mfind l a i = some (j, b) → j = i + mat l a
 | [], _, _, _, _, h => by cases h
 | (x, c) :: r, a, i, j, b, h => by
  simp only [mfind, mat] at h ⊢
  split at h
  ·injection h with h
   injection h with h1 h2
   rw [if_pos ‹_›, ← h1]; rfl
  ·rw [if_neg ‹_›, mfind_at r a (i + 1) j b h]
   omega
theorem mput_none : ∀ (l : List (α × β)) (a : α) (b : β) (i : Nat), mfind l a i = none → mput l a b = l ++ [(a, b)] ∧ mens l a b = l ++ [(a, b)] ∧ mat l a = l.length
 | [], _, _, _, _ => ⟨rfl, rfl, rfl⟩
 | (x, c) :: r, a, b, i, h => by
  simp only [mfind, mput, mens, mat] at h ⊢
  split at h
  ·cases h
  ·rw [if_neg ‹_›, if_neg ‹_›, if_neg ‹_›]
   obtain ⟨h1, h2, h3⟩ := mput_none r a b (i + 1) h
   exact ⟨by rw [h1]; rfl, by rw [h2]; rfl, by rw [h3]; rfl⟩
theorem mput_get : ∀ (l : List (α × β)) (a : α) (b : β), mget (mput l a b) a = some b
 | [], a, b => by simp [mput, mget]
 | (x, c) :: r, a, b => by
  simp only [mput]
  split
  ·rename_i h
   simp [mget, h]
  ·rename_i h
   simp only [mget, if_neg h]
   exact mput_get r a b
theorem mput_other : ∀ (l : List (α × β)) (a a' : α) (b : β), a' ≠ a → mget (mput l a b) a' = mget l a'
 | [], a, a', b, h => by simp [mput, mget, h]
 | (x, c) :: r, a, a', b, h => by
  simp only [mput]
  split
  ·rename_i hax
   subst hax
   simp [mget, h]
  ·simp only [mget]
   rw [mput_other r a a' b h]
end

def ents {α β : Type} (kE : α → Value) (vE : β → Value) : Nat → List (α × β) → List MapEntry
 | _, [] => []
 | i, (a, b) :: r => ⟨kE a, vE b, i⟩ :: ents kE vE (i + 1) r
theorem ents_length {α β : Type} {kE : α → Value} {vE : β → Value} : ∀ (l : List (α × β)) (i : Nat), (ents kE vE i l).length = l.length
 | [], _ => rfl
 | (_, _) :: r, i => by simp [ents, ents_length r]
theorem ents_append {α β : Type} {kE : α → Value} {vE : β → Value} (p : α × β) : ∀ (l : List (α × β)) (i : Nat), ents kE vE i (l ++ [p]) = ents kE vE i l ++ [⟨kE p.1, vE p.2, i + l.length⟩]
 | [], i => by obtain ⟨a, b⟩ := p; rfl
 | (_, _) :: r, i => by
  simp only [List.cons_append, ents, ents_append p r, List.length_cons]
  rw [show i + 1 + r.length = i + (r.length + 1) from by omega]
theorem ents_modify {α β : Type} [DecidableEq α] {kE : α → Value} {vE : β → Value} (b : β) : ∀ (l : List (α × β)) (a : α) (i j : Nat) (c : β), mfind l a i = some (i + j, c) → ∀ q,
  ((ents kE vE q l).modify j fun e => { e with key := kE a, val := vE b }) = ents kE vE q (mput l a b)
 | [], _, _, _, _, h => by cases h
 | (x, d) :: r, a, i, j, c, h => by
  intro q
  simp only [mfind] at h
  split at h
  ·rename_i hax
   injection h with h
   injection h with h1 h2
   obtain rfl : j = 0 := by omega
   subst hax
   simp only [ents, mput, if_true, List.modify_zero_cons]
  ·rename_i hax
   obtain ⟨j', rfl⟩ : ∃ j', j = j' + 1 := by
    have := mfind_at r a (i + 1) _ _ h
    exact ⟨j - 1, by omega⟩
   simp only [ents, mput, if_neg hax, List.modify_succ_cons]
   rw [ents_modify b r a (i + 1) j' c (by rw [h]; congr 2; omega)]
theorem ents_get {α β : Type} [DecidableEq α] {kE : α → Value} {vE : β → Value} : ∀ (l : List (α × β)) (a : α) (i j : Nat) (c : β), mfind l a i = some (i + j, c) → ∀ q, (ents kE vE q l)[j]? = some ⟨kE a, vE c, q + j⟩
 | [], _, _, _, _, h => by cases h
 | (x, d) :: r, a, i, j, c, h => by
  intro q
  simp only [mfind] at h
  split at h
  ·rename_i hax
   injection h with h
   injection h with h1 h2
   obtain rfl : j = 0 := by omega
   simp only [ents, List.getElem?_cons_zero, hax, h2]; rfl
  ·obtain ⟨j', rfl⟩ : ∃ j', j = j' + 1 := by
    have := mfind_at r a (i + 1) _ _ h
    exact ⟨j - 1, by omega⟩
   simp only [ents, List.getElem?_cons_succ]
   rw [ents_get r a (i + 1) j' c (by rw [h]; congr 2; omega), show q + 1 + j' = q + (j' + 1) from by omega]

/-- A map's type, with what it takes to look into such a map. -/
structure MT (P : Program) (T Kt Et : TypeId) {α β : Type} [DecidableEq α] (kE : α → Value) (vE : β → Value) (z : β) : Prop where
 und : P.underlying T = some (.map Kt Et)
 find : ∀ (w : World) (a : α) (l : List (α × β)) (q : Nat), (Instr.findKey Kt (kE a) (ents kE vE q l)).run P w = .ok ((mfind l a 0).map fun p => (p.1, vE p.2)) w
 chk : ∀ em w a, (Instr.checkKey em 10000 Kt (kE a)).run P w = .ok () w
 stay : ∀ w a, (Instr.keyThatStays (kE a) (kE a)).run P w = .ok (kE a) w
 zero : ∀ w, (zeroValue Et).run P w = .ok (vE z) w

section
variable {P : Program} {T Kt Et : TypeId} {α β : Type} [DecidableEq α] {kE : α → Value} {vE : β → Value} {z : β} {w : World}
theorem ask_at (eq : ∀ w a b, (Op.equal Kt (kE a) (kE b)).run P w = .ok (decide (a = b)) w) (a : α) : ∀ (l : List (α × β)) (q i : Nat), (Instr.findAsking Kt (kE a) (ents kE vE q l) i).run P w = .ok ((mfind l a i).map fun p => (p.1, vE p.2)) w
 | [], q, i => by simp [ents, Instr.findAsking, mfind]
 | (x, b) :: r, q, i => by
  simp only [ents, Instr.findAsking, mfind, Sem.run_bind, eq, Result.andThen_ok]
  by_cases hax : a = x
  ·simp [hax]
  ·simp only [hax, decide_false, Bool.false_eq_true, if_false]
   exact ask_at eq a r (q + 1) (i + 1)
/-- Keys that are structs. -/
theorem MT.ofStruct (und : P.underlying T = some (.map Kt Et)) (str : ∃ fs, P.underlying Kt = some (.struct fs)) (agg : ∀ a, ∃ xs, kE a = .agg xs) (eq : ∀ w a b, (Op.equal Kt (kE a) (kE b)).run P w = .ok (decide (a = b)) w)
  (chk : ∀ em w a, (Instr.checkKey em 10000 Kt (kE a)).run P w = .ok () w) (stay : ∀ w a, (Instr.keyThatStays (kE a) (kE a)).run P w = .ok (kE a) w) (zero : ∀ w, (zeroValue Et).run P w = .ok (vE z) w) : MT P T Kt Et kE vE z := by
 refine ⟨und, fun w a l q => ?_, chk, stay, zero⟩
 obtain ⟨fs, hfs⟩ := str
 obtain ⟨xs, hxs⟩ := agg a
 have hu : ∀ w : World, (underlying Kt).run P w = .ok (.struct fs) w := run_underlying hfs
 unfold Instr.findKey
 simp only [Sem.run_bind, hu, Result.andThen_ok]
 cases l with
 | nil => simp [ents, Instr.findNow, mfind]
 | cons p r =>
  obtain ⟨x, b⟩ := p
  have : Instr.findNow (.struct fs) (kE a) (ents kE vE q ((x, b) :: r)) 0 = none := by
   simp [ents, Instr.findNow, Instr.sameNow]
  rw [this]
  exact ask_at eq a ((x, b) :: r) q 0
theorem now_at (k : IntKind) {vE : β → Value} (a : Int) : ∀ (l : List (Int × β)) (q i : Nat), Instr.findNow (.int k) (.int k a) (ents (Value.int k) vE q l) i = some ((mfind l a i).map fun p => (p.1, vE p.2))
 | [], q, i => by simp [ents, Instr.findNow, mfind]
 | (x, b) :: r, q, i => by
  simp only [ents, Instr.findNow, mfind, Instr.sameNow, if_true]
  by_cases hax : a = x
  ·simp [hax]
  ·have : (a == x) = false := beq_eq_false_iff_ne.2 hax
   simp only [this, hax, if_false]
   exact now_at k a r (q + 1) (i + 1)
/-- Keys that are integers. -/
theorem MT.ofInt {k : IntKind} {vE : β → Value} {z : β} (und : P.underlying T = some (.map Kt Et)) (ku : P.underlying Kt = some (.int k)) (zero : ∀ w, (zeroValue Et).run P w = .ok (vE z) w) : MT P T Kt Et (Value.int k) vE z := by
 have hu : ∀ w : World, (underlying Kt).run P w = .ok (.int k) w := run_underlying ku
 refine ⟨und, fun w a l q => ?_, fun em w a => ?_, fun w a => ?_, zero⟩
 ·unfold Instr.findKey
  simp only [Sem.run_bind, hu, Result.andThen_ok, now_at]
  rfl
 ·have key : ∀ n, (Instr.checkKey em (n + 1) Kt (.int k a)).run P w = .ok () w := fun n => by
   rw [Instr.checkKey, Sem.run_bind, hu]
   rfl
  exact key 9999
 ·unfold Instr.keyThatStays
  have key : ∀ n, Instr.sameBits (n + 1) (.int k a) (.int k a) = true := fun n => by simp [Instr.sameBits]
  rw [if_pos (key 9999)]
  rfl
theorem run_getMap {g : Nat} {es : Array MapEntry} {c : Nat} (hg : w.heap[g]? = some (.map es c)) : (getObj g).run P w = .ok (.map es c) w := by simp [getObj, Sem.run, hg]
theorem run_setMap {g : Nat} {es : Array MapEntry} {c : Nat} (hg : w.heap[g]? = some (.map es c)) (o : Obj) : (setObj g o).run P w = .ok () (w.putObj g o) := by simp [setObj, Sem.run, hg, World.putObj]
theorem MT.lookup (h : MT P T Kt Et kE vE z) {g c : Nat} {es : Array MapEntry} {q : Nat} {l : List (α × β)} (hes : es.toList = ents kE vE q l) (hg : w.heap[g]? = some (.map es c)) (a : α) (ok : Bool) :
  (Instr.lookup T (.map (some g)) (kE a) ok).run P w = .ok (if ok = true then .tuple #[vE ((mget l a).getD z), .bool (mget l a).isSome] else vE ((mget l a).getD z)) w := by
 have hu : ∀ w : World, (underlying T).run P w = .ok (.map Kt Et) w := run_underlying h.und
 have hf : (mfind l a 0).map (·.2) = mget l a := mfind_get l a 0
 unfold Instr.lookup
 simp only [Sem.run_bind, hu, Result.andThen_ok, run_getMap hg, Sem.run_pure, h.chk, hes, h.find w a l q]
 cases hm : mfind l a 0 with
 | none => rw [hm] at hf; simp only [Option.map_none] at hf; simp [← hf, h.zero]
 | some p => rw [hm] at hf; simp only [Option.map_some] at hf; simp [← hf]
/-- Put at a. -/
theorem MT.update (h : MT P T Kt Et kE vE z) {g : Nat} {l : List (α × β)} (hg : w.heap[g]? = some (.map (ents kE vE 0 l).toArray l.length)) (a : α) (b : β) :
  (Instr.mapUpdate T (.map (some g)) (kE a) (vE b)).run P w = .ok () (w.putObj g (.map (ents kE vE 0 (mput l a b)).toArray (mput l a b).length)) := by
 have hu : ∀ w : World, (underlying T).run P w = .ok (.map Kt Et) w := run_underlying h.und
 unfold Instr.mapUpdate
 simp only [Sem.run_bind, hu, Result.andThen_ok, run_getMap hg, h.chk, h.find w a l 0]
 cases hm : mfind l a 0 with
 | none =>
  obtain ⟨h1, _, _⟩ := mput_none l a b 0 hm
  simp only [Option.map_none, run_setMap hg, h1, ents_append, List.push_toArray, List.length_append, List.length_cons, List.length_nil, Nat.zero_add]
 | some p =>
  obtain ⟨j, c⟩ := p
  have hj : mfind l a 0 = some (0 + j, c) := by rw [hm, Nat.zero_add]
  have hget : ((ents kE vE 0 l).toArray[j]?.map (·.key)).getD (kE a) = kE a := by
   rw [List.getElem?_toArray, ents_get l a 0 j c hj 0]; rfl
  have hlen : (mput l a b).length = l.length := by
   have := congrArg List.length (ents_modify (kE := kE) (vE := vE) b l a 0 j c hj 0)
   rw [List.length_modify, ents_length, ents_length] at this
   exact this.symm
  simp only [Option.map_some, hget, Sem.run_bind, h.stay, Result.andThen_ok, run_setMap hg, List.modify_toArray, ents_modify b l a 0 j c hj, hlen]
end
end Go.Proofs.Ytihmbmeelheinaa.RW
namespace Go.Proofs.Ytihmbmeelheinaa.RW
open Go Go.RowKit

/-- A map as a piece of memory. -/
def mres {α β : Type} (kE : α → Value) (vE : β → Value) (g : Nat) (l : List (α × β)) : Res where
 fp := fun k => k = g
 P := fun _ w => w.heap[g]? = some (.map (ents kE vE 0 l).toArray l.length)
 stable := fun _ w w' h hp => by rw [h g rfl]; exact hp
 ext := fun _ _ _ _ h => h

theorem Got.newRes {w : World} {I : Imm} (hI : I.at_ w) (o : Obj) (r : Res) (hfp : ∀ k, r.fp k → k = w.heap.size) (hP : r.P I (w.alloc o)) : Got w (w.alloc o) I I [r] := by
 have hold : ∀ k, k < w.heap.size → (w.alloc o).heap[k]? = w.heap[k]? := fun k hk => by
  show (w.heap.push o)[k]? = _
  rw [Array.getElem?_push, if_neg (by omega)]
 refine ⟨⟨rfl, rfl, rfl, by simp, fun k hk _ => hold k hk⟩, Imm.le_refl _, ?_, fun _ _ h => .inl h, ?_, ?_, List.pairwise_singleton _ _, ?_⟩
 ·intro a v ha
  have hc := hI a v ha
  rw [← hc]
  exact look_of_block (w := w) (hold _ (look_lt hc))
 ·intro q hq
  rw [List.mem_singleton.1 hq]
  exact hP
 ·intro q hq k hk
  rw [List.mem_singleton.1 hq] at hk
  have := hfp k hk
  simp
  omega
 ·intro a v ha q hq hk
  rw [List.mem_singleton.1 hq] at hk
  have h1 := hfp _ hk
  have := look_lt (hI a v ha)
  omega

section
variable {P : Program} {c : Code} {Q : Exit → Act → World → Prop} {A : Fr} {K : List (Nat × Value)} {B : Base} {I : Imm} {nx : Nat} {L : List Blk} {X : List Res} {os : List Oper} {p : Nat}
variable {T Kt Et : TypeId} {α β : Type} [DecidableEq α] {kE : α → Value} {vE : β → Value} {z : β}

omit [DecidableEq α] in
theorem Sat.putMap {w : World} (hs : Sat B I nx L X w) {m g : Nat} {l l' : List (α × β)} (hm : X[m]? = some (mres kE vE g l)) : Sat B I nx L (X.set m (mres kE vE g l')) (w.putObj g (.map (ents kE vE 0 l').toArray l'.length)) := by
 have hg : w.heap[g]? = some (.map (ents kE vE 0 l).toArray l.length) := hs.res _ (List.mem_of_getElem? hm)
 have hlt := (Array.getElem?_eq_some_iff.1 hg).1
 have := hs.replace hm (mres kE vE g l') (w' := w.putObj g (.map (ents kE vE 0 l').toArray l'.length)) rfl rfl rfl (by simp)
  (fun k _ hf => World.putObj_heap_other (fun e => hf e)) (World.putObj_heap_same hlt) (fun k hk => .inl hk) (fun k hk => by
   obtain rfl : k = g := hk
   simpa using hlt)
 simpa [hs.hnx] using this

omit [DecidableEq α] in
theorem RL.makeMap (kE : α → Value) (vE : β → Value) (d : Option Tmp) (hl : ready os p K d = true) (hx : execOp (evalK K) (os.getD p default) = toNext (Instr.makeMap T none))
  (k : RL P os Q (p + 1) A (putK A K d (.map (some nx))) B I (nx + 1) L (X ++ [mres kE vE nx []])) : RL P os Q p A K B I nx L X := by
 refine RL.one d (fun v w' => v = .map (some nx) ∧ Sat B I (nx + 1) L (X ++ [mres kE vE nx []]) w') hl (fun w hs => ?_) (fun v w' hN a' ha' => ?_)
 ·refine ⟨.map (some nx), w.alloc (.map #[] 0), ?_, rfl, ?_⟩
  ·rw [hx]
   have hr : (Instr.makeMap T none).run P w = .ok (.map (some w.heap.size)) (w.alloc (.map #[] 0)) := by
    simp [Instr.makeMap]
   rw [hs.hnx] at hr
   exact run_toNext hr
  ·have := hs.call (Got.newRes hs.im (.map #[] 0) (mres kE vE w.heap.size []) (fun k hk => hk) (World.alloc_heap_new w _))
   rw [World.size_alloc, hs.hnx] at this
   exact this
 ·obtain ⟨rfl, hs⟩ := hN
  exact k a' w' ha' hs

theorem RL.putM (hM : MT P T Kt Et kE vE z) (a : α) (b : β) (m : Nat) {g : Nat} {l : List (α × β)} (hl : ready os p K none = true) (hm : X[m]? = some (mres kE vE g l))
  (hx : execOp (evalK K) (os.getD p default) = (Instr.mapUpdate T (.map (some g)) (kE a) (vE b)).bind fun _ => .pure .skip)
  (k : RL P os Q (p + 1) A K B I nx L (X.set m (mres kE vE g (mput l a b)))) : RL P os Q p A K B I nx L X :=
 RL.oneS (fun w' => Sat B I nx L (X.set m (mres kE vE g (mput l a b))) w') hl (fun w hs => ⟨_, by rw [hx, Sem.run_bind', hM.update (hs.res _ (List.mem_of_getElem? hm)) a b]; rfl, hs.putMap hm⟩) (fun w' hs a' ha' => k a' w' ha' hs)
end

/-! ### a round's frame -/
def noDefer (o : Oper) : Bool := match o.op with | .defer _ => false | _ => true
section
variable {P : Program} {Q : Exit → Act → World → Prop} {ops : Array Oper}
def Fence.ro (r : Option Nat) : Fence := { Fence.wide with round := r }
end

def OKr (r : Nat) (P : Program) (c : Code) (Q : Exit → Act → World → Prop) (A : Fr) (K : List (Nat × Value)) (B : Base) (I : Imm) (nx : Nat) (L : List Blk) (X : List Res) : Prop :=
 ∀ a w, Knows A K a → Sat B I nx L X w → c.wpIn (Fence.ro (some r)) 0 P Q a w
def thenI (r : Nat) (P : Program) (y : Code) (Q : Exit → Act → World → Prop) : Exit → Act → World → Prop := Exit.then (y.wpIn (Fence.ro (some r)) 0 P Q) Q
section
variable {r : Nat} {P : Program} {c : Code} {Q : Exit → Act → World → Prop} {A : Fr} {K : List (Nat × Value)} {B : Base} {I : Imm} {nx : Nat} {L : List Blk} {X : List Res}
end

/-! ### a region with a call of yield -/
def RLi (P : Program) (os : List Oper) (Q : Exit → Act → World → Prop) (p : Nat) (A : Fr) (K : List (Nat × Value)) (B : Base) (I : Imm) (nx : Nat) (L : List Blk) (X : List Res) : Prop :=
 ∀ a w, Knows A K a → Sat B I nx L X w → wpListIn (Fence.ro none) 0 P os.toArray Q (os.drop p) a w
section
variable {P : Program} {c : Code} {Q : Exit → Act → World → Prop} {A : Fr} {K : List (Nat × Value)} {B : Base} {I : Imm} {nx : Nat} {L : List Blk} {X X' : List Res} {os : List Oper} {p : Nat}
end
end Go.Proofs.Ytihmbmeelheinaa.RW
namespace Go.Proofs.Ytihmbmeelheinaa.RW
open Go Go.RowKit

/-- Below n nothing has turned. -/
structure LowEq (n : Nat) (A B : World) : Prop where
 os : B.os = A.os
 tape : B.tape = A.tape
 output : B.output = A.output
 blk : ∀ k, k < n → B.heap[k]? = A.heap[k]?
variable {P : Program}
/-! ### what is asked around such a loop -/
/-- What others hold and may turn: told by a world that is the same there. -/
def jres (S : Nat → Prop) (W0 : World) (J : World → Prop) : Res where
 fp := S
 P := fun _ w => ∃ W', J W' ∧ Evo S W0 W' ∧ ∀ k, S k → w.heap[k]? = W'.heap[k]?
 stable := fun _ _ _ h ⟨W', h1, h2, h3⟩ => ⟨W', h1, h2, fun k hk => (h k hk).trans (h3 k hk)⟩
 ext := fun _ _ _ _ h => h
/-- The block of the rounds' deferred calls. -/
def dres (D : Nat) (o : Option (List Deferred)) : Res where
 fp := fun k => k = D
 P := fun _ w => w.heap[D]? = some (.deferred o)
 stable := fun _ w w' h hp => by rw [h D rfl]; exact hp
 ext := fun _ _ _ _ h => h
/-- A map's own mark. -/
def mapImm (g : Nat) (v : Value) : Imm := fun a => if a = ⟨g, 0, some 0⟩ then some v else none
def Mp {α β : Type} (kE : α → Value) (vE : β → Value) (I : Imm) (g : Nat) (l : List (α × β)) : Prop := I ⟨g, 0, some 0⟩ = some (codeM (ents kE vE 0 l).toArray)
theorem codeM_inj {a b : Array MapEntry} (h : codeM a = codeM b) : a = b := by
 unfold codeM at h
 injection h with h
 have h1 := congrArg Array.toList h
 simp only [List.cons.injEq, Value.agg.injEq, and_true] at h1
 obtain ⟨h1, h2, h3⟩ := h1
 have hs : a.size = b.size := by have := congrArg Array.size h1; simpa using this
 apply Array.ext hs
 intro i hi hj
 have g1 := congrArg (·[i]?) h1
 have g2 := congrArg (·[i]?) h2
 have g3 := congrArg (·[i]?) h3
 simp only [Array.getElem?_map, Array.getElem?_eq_getElem hi, Array.getElem?_eq_getElem hj, Option.map_some, Option.some.injEq, Value.int.injEq, true_and, Int.ofNat_inj] at g1 g2 g3
 cases ha : a[i]
 cases hb : b[i]
 rw [ha, hb] at g1 g2 g3
 simp only at g1 g2 g3
 rw [g1, g2, g3]
section
variable {T Kt Et : TypeId} {α β : Type} [DecidableEq α] {kE : α → Value} {vE : β → Value} {z : β}
omit [DecidableEq α] in
theorem Mp.ext {I J : Imm} {g : Nat} {l : List (α × β)} (h : I.le J) (hm : Mp kE vE I g l) : Mp kE vE J g l := h _ _ hm
theorem run_lookF (hM : MT P T Kt Et kE vE z) {I : Imm} {g : Nat} {l : List (α × β)} (hm : Mp kE vE I g l) {w : World} (hI : I.at_ w) (a : α) (ok : Bool) :
  (Instr.lookup T (.map (some g)) (kE a) ok).run P w = .ok (if ok = true then .tuple #[vE ((mget l a).getD z), .bool (mget l a).isSome] else vE ((mget l a).getD z)) w := by
 have h := hI _ _ hm
 simp only [look] at h
 split at h
 ·rename_i es c hg
  have he := codeM_inj (Option.some.inj h)
  subst he
  exact hM.lookup (q := 0) (by simp) hg a ok
 ·cases h
variable {Q : Exit → Act → World → Prop} {A : Fr} {K : List (Nat × Value)} {B : Base} {I : Imm} {nx : Nat} {L : List Blk} {X : List Res} {os : List Oper} {p : Nat}
end
end Go.Proofs.Ytihmbmeelheinaa.RW
namespace Go.Proofs.Ytihmbmeelheinaa.RW
open Go Go.RowKit

section
variable {P : Program} {c : Code} {Q : Exit → Act → World → Prop} {A : Fr} {K : List (Nat × Value)} {B : Base} {I : Imm} {nx : Nat} {L : List Blk} {X : List Res} {os : List Oper} {p : Nat}
variable {T Kt Et : TypeId} {α β : Type} [DecidableEq α] {kE : α → Value} {vE : β → Value} {z : β}

omit [DecidableEq α] in
theorem RL.makeMapH (kE : α → Value) (vE : β → Value) (k : IntKind) (n : Int) (d : Option Tmp) (hl : ready os p K d = true) (hu : P.underlying T = some (.map Kt Et)) (hx : execOp (evalK K) (os.getD p default) = toNext (Instr.makeMap T (some (.int k n))))
  (kk : RL P os Q (p + 1) A (putK A K d (.map (some nx))) B I (nx + 1) L (X ++ [mres kE vE nx []])) : RL P os Q p A K B I nx L X := by
 refine RL.one d (fun v w' => v = .map (some nx) ∧ Sat B I (nx + 1) L (X ++ [mres kE vE nx []]) w') hl (fun w hs => ?_) (fun v w' hN a' ha' => ?_)
 ·refine ⟨.map (some nx), w.alloc (.map #[] 0), ?_, rfl, ?_⟩
  ·rw [hx]
   have hr : (Instr.makeMap T (some (.int k n))).run P w = .ok (.map (some w.heap.size)) (w.alloc (.map #[] 0)) := by
    have hi : ∀ w : World, (asInt (.int k n)).run P w = .ok n w := fun _ => rfl
    simp [Instr.makeMap, Sem.run_bind, run_underlying hu, hi]
   rw [hs.hnx] at hr
   exact run_toNext hr
  ·have := hs.call (Got.newRes hs.im (.map #[] 0) (mres kE vE w.heap.size []) (fun k hk => hk) (World.alloc_heap_new w _))
   rw [World.size_alloc, hs.hnx] at this
   exact this
 ·obtain ⟨rfl, hs⟩ := hN
  exact kk a' w' ha' hs

/-! ### a map that never turns from now on -/
theorem mapImm_some {g : Nat} {v v' : Value} {a : Addr} (h : mapImm g v a = some v') : a = ⟨g, 0, some 0⟩ ∧ v' = v := by
 unfold mapImm at h
 split at h
 ·rename_i e; exact ⟨e, (Option.some.inj h).symm⟩
 ·cases h
omit [DecidableEq α] in
theorem Sat.freezeM {w : World} (h : Sat B I nx L X w) {m g : Nat} {l : List (α × β)} (hm : X[m]? = some (mres kE vE g l)) :
  ∃ J, I.le J ∧ Mp kE vE J g l ∧ Sat B J nx L (X.eraseIdx m) w := by
 have hmm := List.mem_of_getElem? hm
 obtain ⟨hml, hme⟩ := List.getElem?_eq_some_iff.1 hm
 have hg : w.heap[g]? = some (.map (ents kE vE 0 l).toArray l.length) := h.res _ hmm
 have hsub : Sat B I nx L (X.eraseIdx m) w := h.less (List.Sublist.refl _) (List.eraseIdx_sublist _ _)
 refine ⟨I.or (mapImm g (codeM (ents kE vE 0 l).toArray)), Imm.le_or _ _, Imm.or_get ?_ (by unfold mapImm; rw [if_pos rfl]), hsub.imm _ ?_ ?_ ?_ ?_⟩
 ·cases hI : I ⟨g, 0, some 0⟩ with
  | none => rfl
  | some v => exact absurd (rfl : g = g) (h.imX _ v hI (mres kE vE g l) hmm)
 ·intro a v ha
  obtain ⟨rfl, rfl⟩ := mapImm_some ha
  show look w ⟨g, 0, some 0⟩ = _
  simp only [look, hg]
 ·intro a v ha b hb
  obtain ⟨rfl, rfl⟩ := mapImm_some ha
  intro e
  exact h.rblk _ hmm b hb e
 ·intro a v ha r hr
  obtain ⟨rfl, rfl⟩ := mapImm_some ha
  intro hf
  obtain ⟨y, hy, hyb⟩ := List.getElem_of_mem hr
  rw [List.length_eraseIdx_of_lt hml] at hy
  rw [List.getElem_eraseIdx] at hyb
  have hp := List.pairwise_iff_getElem.1 h.rdis
  have key : ∀ j (hj : j < X.length), j ≠ m → ¬ X[j].fp g := fun j hj hne hf' => by
   rcases Nat.lt_or_gt_of_ne hne with h1 | h1
   ·have h2 := hp j m hj hml h1 g hf'
    rw [hme] at h2
    exact h2 rfl
   ·have h2 := hp m j hml hj h1 g (by rw [hme]; rfl)
    exact h2 hf'
  split at hyb
  ·rw [← hyb] at hf; exact key y (by omega) (by omega) hf
  ·rw [← hyb] at hf; exact key (y + 1) (by omega) (by omega) hf
 ·intro a v ha
  obtain ⟨rfl, rfl⟩ := mapImm_some ha
  exact (h.rown _ hmm g rfl).2
omit [DecidableEq α] in
theorem QN.freezeM {e : Exit} {m g : Nat} {l : List (α × β)} (hm : X[m]? = some (mres kE vE g l)) (k : ∀ J, I.le J → Mp kE vE J g l → QN Q e A K B J nx L (X.eraseIdx m)) : QN Q e A K B I nx L X := fun a w ha hs => by
 obtain ⟨J, h1, h2, h3⟩ := hs.freezeM hm
 exact k J h1 h2 a w ha h3

/-! ### what it holds -/
omit [DecidableEq α] in
theorem run_lenF {ty : TypeId} (hu : P.underlying T = some (.map Kt Et)) {g : Nat} {l : List (α × β)} (hm : Mp kE vE I g l) {w : World} (hI : I.at_ w) :
  (Builtin.len_ #[T] ty #[.map (some g)]).run P w = .ok (.int .i64 (l.length : Int)) w := by
 have h := hI _ _ hm
 simp only [look] at h
 split at h
 ·rename_i es c hg
  have he := codeM_inj (Option.some.inj h)
  subst he
  simp [Builtin.len_, run_underlying hu, run_getMap hg, ents_length, goInt]
 ·cases h
theorem RL.lookF2 (hM : MT P T Kt Et kE vE z) (a : α) {g : Nat} {l : List (α × β)} (d : Option Tmp) (hl : ready os p K d = true) (hm : Mp kE vE I g l)
  (hx : execOp (evalK K) (os.getD p default) = toNext (Instr.lookup T (.map (some g)) (kE a) false)) {K' : List (Nat × Value)}
  (hF : putK A K d (vE ((mget l a).getD z)) = K') (k : RL P os Q (p + 1) A K' B I nx L X) : RL P os Q p A K B I nx L X :=
 RL.quiet d _ hl hF (fun w hs => by rw [hx]; exact run_toNext (run_lookF hM hm hs.im a false)) k
theorem giv_look2 (hM : MT P T Kt Et kE vE z) (a : α) {g : Nat} {l : List (α × β)} (hm : Mp kE vE I g l) {w : World} (hI : I.at_ w)
  (hx : execOp (evalK K) (os.getD p default) = toNext (Instr.lookup T (.map (some g)) (kE a) false)) : (execOp (evalK K) (os.getD p default)).run P w = .ok (.value (vE ((mget l a).getD z))) w := by
 rw [hx]; exact run_toNext (run_lookF hM hm hI a false)
omit [DecidableEq α] in
theorem RL.lenF {ty : TypeId} (hu : P.underlying T = some (.map Kt Et)) {g : Nat} {l : List (α × β)} (d : Option Tmp) (hl : ready os p K d = true) (hm : Mp kE vE I g l)
  (hx : execOp (evalK K) (os.getD p default) = toNext (Builtin.len_ #[T] ty #[.map (some g)])) {K' : List (Nat × Value)}
  (hF : putK A K d (.int .i64 (l.length : Int)) = K') (k : RL P os Q (p + 1) A K' B I nx L X) : RL P os Q p A K B I nx L X :=
 RL.quiet d _ hl hF (fun w hs => by rw [hx]; exact run_toNext (run_lenF hu hm hs.im)) k
omit [DecidableEq α] in
end
end Go.Proofs.Ytihmbmeelheinaa.RW
namespace Go.Proofs.Ytihmbmeelheinaa
open Go Go.RowKit Go.Maps Go.Sort Go.Shelf Go.Proofs.Ytihmbmeelheinaa.RW
set_option linter.unusedVariables false
set_option maxRecDepth 100000

/-! ### keys that are pairs -/
theorem part_any {P : Program} {t : TypeId} {xs : Array Value} {o : Nat} {v : Value} (h : (simQ P [] [] (part t xs o) .no []).map (·.1) = some v) (w : World) : (part t xs o).run P w = .ok v w := by
 cases hs : simQ P [] [] (part t xs o) .no [] with
 | none => rw [hs] at h; cases h
 | some x =>
  obtain ⟨x1, es1⟩ := x
  rw [hs] at h
  simp only [Option.map_some, Option.some.injEq] at h
  subst h
  exact simQ_any _ _ _ _ hs w
theorem any_run {α : Type} {s : Sem α} {v : α} (h : (simQ Try.prog [] [] s .no []).map (·.1) = some v) (w : World) : s.run Try.prog w = .ok v w := by
 cases hs : simQ Try.prog [] [] s .no [] with
 | none => rw [hs] at h; cases h
 | some x =>
  obtain ⟨x1, es1⟩ := x
  rw [hs] at h
  simp only [Option.map_some, Option.some.injEq] at h
  subst h
  exact simQ_any _ _ _ _ hs w
def kK (a : Int × Int) : Value := .agg #[.int .i64 a.1, .int .i64 a.2]
theorem f74 : (Try.prog.fieldsOf 74).toList.map (fun f => (f.type, f.offset, f.name != "_")) = [(3, 0, true), (3, 1, true)] := by kernel_rfl
theorem eqF {P : Program} {w : World} (d : Nat) (xs ys : Array Value) (f : Field) (fs : List Field) {t : TypeId} {o : Nat} (ht : (f.type, f.offset, f.name != "_") = (t, o, true)) {a b : Value} {r r2 : Bool} (h1 : (part t xs o).run P w = .ok a w) (h2 : (part t ys o).run P w = .ok b w) (h3 : (Op.equalIn d t a b).run P w = .ok r w)
  (h4 : (Op.eqFields d xs ys fs).run P w = .ok r2 w) : (Op.eqFields d xs ys (f :: fs)).run P w = .ok (r && r2) w := by
 injection ht with e1 ht
 injection ht with e2 e3
 subst e1; subst e2
 have hn : f.name ≠ "_" := by simpa using e3
 simp only [Op.eqFields, if_pos hn, Sem.run_bind, h1, h2, h3, Result.andThen_ok, Sem.run_ite]
 cases r
 ·simp
 ·simp [h4]
theorem two_of {α β : Type} {g : α → β} {l : List α} {x y : β} (h : l.map g = [x, y]) : ∃ f1 f2, l = [f1, f2] ∧ g f1 = x ∧ g f2 = y := by
 cases l with
 | nil => cases h
 | cons f1 l => cases l with
  | nil => cases h
  | cons f2 l => cases l with
   | nil => simp only [List.map_cons, List.map_nil, List.cons.injEq] at h; exact ⟨f1, f2, rfl, h.1, h.2.1⟩
   | cons f3 l => simp at h
theorem eq74 (w : World) (a b : Int × Int) : (Op.equal 74 (kK a) (kK b)).run Try.prog w = .ok (a.1 == b.1 && (a.2 == b.2 && true)) w := by
 unfold kK Op.equal Op.maxDepth
 rw [run_equalIn_struct w 9999 74 _ _ (by kernel_rfl) (by kernel_rfl)]
 obtain ⟨f1, f2, e, h1, h2⟩ := two_of f74
 rw [e]
 exact eqF _ _ _ _ _ h1 (part_any (by kernel_rfl) w) (part_any (by kernel_rfl) w) (run_equalIn_int w 9998 3 .i64 .i64 a.1 b.1 (by kernel_rfl)) (eqF _ _ _ _ _ h2 (part_any (by kernel_rfl) w) (part_any (by kernel_rfl) w) (run_equalIn_int w 9998 3 .i64 .i64 a.2 b.2 (by kernel_rfl)) rfl)
theorem kK_dec (a b : Int × Int) : (a.1 == b.1 && (a.2 == b.2 && true)) = decide (a = b) := by
 obtain ⟨a1, a2⟩ := a
 obtain ⟨b1, b2⟩ := b
 by_cases h1 : a1 = b1 <;> by_cases h2 : a2 = b2 <;> simp [h1, h2]
theorem stays_of {v : Value} (h : Instr.sameBits 10000 v v = true) (w : World) : (Instr.keyThatStays v v).run Try.prog w = .ok v w := by
 unfold Instr.keyThatStays
 rw [if_pos h]
 rfl
theorem bits_agg (n : Nat) (l : List Value) (h : ∀ x ∈ l, Instr.sameBits n x x = true) : Instr.sameBits (n + 1) (.agg l.toArray) (.agg l.toArray) = true := by
 have hz : ∀ l : List Value, (∀ x ∈ l, Instr.sameBits n x x = true) → ((l.zip l).all fun (x, y) => Instr.sameBits n x y) = true := by
  intro l
  induction l with
  | nil => intro _; rfl
  | cons x l ih =>
   intro h
   simp only [List.zip_cons_cons, List.all_cons, h x List.mem_cons_self, Bool.true_and]
   exact ih (fun y hy => h y (List.mem_cons_of_mem _ hy))
 simp only [Instr.sameBits, beq_self_eq_true, Bool.true_and]
 exact hz l h
theorem bits_int (n : Nat) (k : IntKind) (a : Int) : Instr.sameBits n (.int k a) (.int k a) = true := by
 cases n <;> simp [Instr.sameBits]
theorem chk74 (em : Bool) (w : World) (a : Int × Int) : (Instr.checkKey em 10000 74 (kK a)).run Try.prog w = .ok () w := any_run (by unfold kK; kernel_rfl) w
theorem stay74 (w : World) (a : Int × Int) : (Instr.keyThatStays (kK a) (kK a)).run Try.prog w = .ok (kK a) w :=
 stays_of (bits_agg 9999 [.int .i64 a.1, .int .i64 a.2] (fun x hx => by simp only [List.mem_cons, List.not_mem_nil, or_false] at hx; rcases hx with rfl | rfl <;> exact bits_int _ _ _)) w
theorem str74 : ∃ fs, Try.prog.underlying 74 = some (.struct fs) := ⟨_, (show Try.prog.underlying 74 = some (.struct (Try.prog.fieldsOf 74)) by kernel_rfl)⟩
theorem mt54 : MT Try.prog 54 74 2 kK (Value.int .i64) 0 := MT.ofStruct (by kernel_rfl) str74 (fun a => ⟨_, rfl⟩) (fun w a b => by rw [eq74, kK_dec]) chk74 stay74 (any_run (by kernel_rfl))
theorem mt76 : MT Try.prog 76 3 4 (Value.int .i64) Value.bool false := MT.ofInt (by kernel_rfl) (by kernel_rfl) (any_run (by kernel_rfl))

/-! ### the keys of a set, sorted -/
def inI (x : Int) : Prop := -9223372036854775808 ≤ x ∧ x ≤ 9223372036854775807
instance (x : Int) : Decidable (inI x) := by unfold inI; exact inferInstance
def keysOk (l : List (Int × Bool)) : Prop := (l.map (·.1)).Nodup ∧ (∀ x ∈ l, inI x.1) ∧ l.length ≤ 1000000
instance (l : List (Int × Bool)) : Decidable (keysOk l) := by unfold keysOk; exact inferInstance
def srt (l : List (Int × Bool)) : List Int := (l.map (·.1)).mergeSort (fun x y => decide (x ≤ y))

theorem keysCall76 (I : Imm) (g : Nat) (w : World) (hI : I.at_ w) : Calls Try.prog 44 #[.map (some g)] w fun e w' => ∃ v, e = .returned v ∧ v = .func (.func 54) #[] #[.pointer (some ⟨w.heap.size, 0, none⟩)] ∧ Got w w' I I [RW.kblk w.heap.size 76 [.map (some g)]] := by
 refine (callsIn_wide (n := 5)).1 ?_
 refine CallsIn.mono (AnyZI.keys_in Try.keysA Fence.wide 5 trivial rfl (some g) w) ?_
 rintro e w' ⟨rfl, rfl⟩
 exact ⟨_, rfl, rfl, Got.newRes hI _ (RW.kblk w.heap.size 76 [.map (some g)]) (fun k hk => hk) (World.alloc_heap_new w _)⟩

def rAny : Value → Option (DataW Unit × List MemPlace) := fun _ => some (.lit (.bool true), [])
theorem ents_mem {α β : Type} {kE : α → Value} {vE : β → Value} : ∀ (l : List (α × β)) (q : Nat) (x : MapEntry), x ∈ ents kE vE q l → ∃ p ∈ l, x.key = kE p.1 ∧ q ≤ x.born ∧ x.born < q + l.length
 | [], _, _, h => by cases h
 | p :: r, q, x, h => by
  rcases List.mem_cons.1 h with rfl | h
  ·exact ⟨p, List.mem_cons_self, rfl, Nat.le_refl _, by simp⟩
  ·obtain ⟨p', h1, h2, h3, h4⟩ := ents_mem r (q + 1) x h
   exact ⟨p', List.mem_cons_of_mem _ h1, h2, by omega, by simp only [List.length_cons]; omega⟩
theorem ents_born {α β : Type} {kE : α → Value} {vE : β → Value} : ∀ (l : List (α × β)) (q : Nat), ((ents kE vE q l).map (·.born)).Nodup
 | [], _ => List.nodup_nil
 | p :: r, q => by
  refine List.nodup_cons.2 ⟨fun h => ?_, ents_born r (q + 1)⟩
  obtain ⟨x, hx, hb⟩ := List.mem_map.1 h
  obtain ⟨_, _, _, h3, _⟩ := ents_mem r (q + 1) x hx
  have : x.born = q := hb
  omega
theorem ents_keys {α β : Type} {kE : α → Value} {vE : β → Value} : ∀ (l : List (α × β)) (q : Nat), (ents kE vE q l).map (·.key) = l.map fun p => kE p.1
 | [], _ => rfl
 | p :: r, q => by
  show kE p.1 :: (ents kE vE (q + 1) r).map (·.key) = _
  rw [ents_keys r (q + 1)]
  rfl
theorem nodup_keys {l : List (Int × Bool)} (h : (l.map (·.1)).Nodup) : (l.map fun p => Value.int .i64 p.1).Nodup := by
 have : (l.map fun p => Value.int .i64 p.1) = (l.map (·.1)).map (Value.int .i64) := by rw [List.map_map]; rfl
 rw [this]
 exact List.pairwise_map.2 (List.Pairwise.imp (fun {a b} hab hv => by injection hv with _ h; exact hab h) h)
theorem und3 : Try.prog.underlying 3 = some (.int .i64) := by kernel_rfl
theorem rg_at {p : Int × Bool} (h : inI p.1) (x : MapEntry) (hx : x.key = .int .i64 p.1) : WideElems.rd Try.prog 3 rAny x = some (.int .i64 p.1, .lit (.bool true)) := by
 unfold WideElems.rd
 rw [hx, Go.Maps.keyOf_int_mk und3 (by
  unfold inI at h
  simp [Lit.wf, IntKind.min, IntKind.max, IntKind.signed, IntKind.bits]
  omega)]
 rfl
theorem owns76 {g : Nat} {l : List (Int × Bool)} {w : World} (hm : w.heap[g]? = some (.map (ents (Value.int .i64) Value.bool 0 l).toArray l.length)) (hk : keysOk l) :
  ∃ D : DataW Unit, w.ownsMap Try.prog 3 rAny g l.length D ∧ (intKeys D).Perm (l.map (·.1)) ∧ Maps.size D = l.length := by
 obtain ⟨hnd, hin, hsz⟩ := hk
 have hrd : ∀ x ∈ ents (Value.int .i64) Value.bool 0 l, ∃ p ∈ l, WideElems.rd Try.prog 3 rAny x = some (.int .i64 p.1, .lit (.bool true)) := fun x hx => by
  obtain ⟨p, h1, h2, _, _⟩ := ents_mem l 0 x hx
  exact ⟨p, h1, rg_at (hin p h1) x h2⟩
 have hrg : ∀ (l : List (Int × Bool)) (q : Nat), (∀ x ∈ l, inI x.1) → (ents (Value.int .i64) Value.bool q l).map (WideElems.rg Try.prog 3 rAny) = l.map fun p => ((.int .i64 p.1 : Lit), (.lit (.bool true) : DataW Unit)) := by
  intro l
  induction l with
  | nil => intro q _; rfl
  | cons p r ih =>
   intro q h
   show WideElems.rg Try.prog 3 rAny _ :: (ents (Value.int .i64) Value.bool (q + 1) r).map _ = _
   rw [ih (q + 1) (fun x hx => h x (List.mem_cons_of_mem _ hx))]
   have : WideElems.rg Try.prog 3 rAny ⟨.int .i64 p.1, .bool p.2, q⟩ = ((.int .i64 p.1 : Lit), (.lit (.bool true) : DataW Unit)) := by
    unfold WideElems.rg
    rw [rg_at (h p List.mem_cons_self) _ rfl]
    rfl
   rw [this]
   rfl
 have hp := WideShapes.sorted_perm (l.map fun p => ((.int .i64 p.1 : Lit), (.lit (.bool true) : DataW Unit)))
 refine ⟨.map ((l.map fun p => ((.int .i64 p.1 : Lit), (.lit (.bool true) : DataW Unit))).foldr DataW.insert []), ⟨_, _, hm, ⟨?_, ⟨fun x hx => ?_, ?_, ?_⟩, fun x hx => ?_⟩, ?_, ?_⟩, ?_, ?_⟩
 ·simp only [List.size_toArray, ents_length, maxLen]; omega
 ·obtain ⟨_, _, _, _, h4⟩ := ents_mem l 0 x (by simpa using hx)
  simpa using h4
 ·exact ents_born l 0
 ·show ((ents (Value.int .i64) Value.bool 0 l).map (·.key)).Nodup
  rw [ents_keys]
  exact nodup_keys hnd
 ·obtain ⟨p, _, h⟩ := hrd x (by simpa using hx)
  exact ⟨_, h⟩
 ·simp only [List.size_toArray, ents_length]; exact Nat.le_refl _
 ·show DataW.map _ = DataW.map (((ents (Value.int .i64) Value.bool 0 l).map _).foldr _ _)
  rw [hrg l 0 hin]
 ·have := hp.map (fun p : Lit × DataW Unit => _root_.Go.intOf p.1)
  rw [List.map_map] at this
  exact this
 ·show List.length _ = _
  rw [hp.length_eq, List.length_map]

theorem sortsIn (m : Nat) : AnyZI.SortsIn Try.prog Try.sortedA_ren Fence.wide m :=
 ⟨fun blk off cap ss W hH hblk hsz => callsIn_wide.2 (AnyM.slices_Sort_int Try.sortA blk off cap ss W hH hblk hsz),
   fun p cap W => callsIn_wide.2 (AnyM.slices_Sort_int_none Try.sortA p cap W)⟩
theorem below_got {w w' : World} (h : Below w.heap.size w w') {I : Imm} (hI : I.at_ w) (r : Res) (hfp : ∀ k, r.fp k → w.heap.size ≤ k ∧ k < w'.heap.size) (hP : r.P I w') : Got w w' I I [r] := by
 refine ⟨⟨h.os, h.tape, h.output, h.size, fun k hk _ => h.block k hk⟩, Imm.le_refl _, ?_, fun _ _ h => .inl h, ?_, ?_, List.pairwise_singleton _ _, ?_⟩
 ·intro a v ha
  have hc := hI a v ha
  rw [← hc]
  exact look_of_block (w := w) (h.block _ (look_lt hc))
 ·intro q hq
  rw [List.mem_singleton.1 hq]
  exact hP
 ·intro q hq k hk
  rw [List.mem_singleton.1 hq] at hk
  exact hfp k hk
 ·intro a v ha q hq hk
  rw [List.mem_singleton.1 hq] at hk
  have h1 := hfp _ hk
  have := look_lt (hI a v ha)
  omega
theorem reps_ints (I : Imm) : ∀ l : List Int, Reps (Ty.int .i64) I l (l.map (Value.int .i64))
 | [] => rfl
 | x :: r => ⟨[.int .i64 x], r.map (Value.int .i64), rfl, rfl, reps_ints I r⟩
theorem sortedCall76 (I : Imm) (gb g : Nat) (l : List (Int × Bool)) (w : World) (hI : I.at_ w) (hb : w.heap[gb]? = some (.cells #[.map (some g)] 76 (0, 0))) (hm : w.heap[g]? = some (.map (ents (Value.int .i64) Value.bool 0 l).toArray l.length)) (hk : keysOk l) :
  Calls Try.prog 43 #[.func (.func 54) #[] #[.pointer (some ⟨gb, 0, none⟩)]] w fun e w' => ∃ v, e = .returned v ∧ ∃ (A : Option Addr) (c : Nat) (cs : List Value), v = .slice A (srt l).length c ∧ Got w w' I I [orow 3 1 A (srt l).length c cs] ∧ Reps (Ty.int .i64) I (srt l) cs := by
 obtain ⟨D, hown, hperm, hsize⟩ := owns76 hm hk
 refine (callsIn_wide (n := 6)).1 ?_
 have hlt : gb < w.heap.size := (Array.getElem?_eq_some_iff.1 hb).1
 have hseq : SeqGives Fence.wide 3 Try.prog 54 #[.pointer (some ⟨gb, 0, none⟩)] encZ (fun ss => ss.Perm (intKeys D)) (Maps.size D) w :=
  AnyZI.keys_gives (ρ := Try.keysA_ren) { Try.keysA with } Fence.wide _ trivial rfl (by omega) gb g l.length D w hlt (by simp [World.cell?, hb]) hown
 have cS := AnyZI.sorted_in Try.sortedA Fence.wide 6 trivial trivial trivial trivial rfl (by omega) (sortsIn _) (enters_of Try.func53 (by kernel_rfl) rfl) 54 #[.pointer (some ⟨gb, 0, none⟩)] trivial (enters_of Try.func54 (by kernel_rfl) rfl) _ _ (by rw [hsize]; have := hk.2.2; simp only [maxLen]; omega) (by rw [hsize]; have := hk.2.2; omega) w hseq
 refine CallsIn.mono cS ?_
 rintro e w' ⟨v, ss, rfl, hS, hrow, hnil, hbl⟩
 have hss : ss.mergeSort (fun x y => decide (x ≤ y)) = srt l := mergeSort_of_perm_i (hS.trans hperm)
 have hlen : ss.length = (srt l).length := by rw [← hss, List.length_mergeSort]
 rw [hss, hlen] at hrow
 have hv : ∃ A c, v = .slice A (srt l).length c := by
  rcases hrow.2 with ⟨h1, h2⟩ | ⟨g', cap', cur, h1, _⟩
  ·exact ⟨none, 0, by rw [h1, h2]⟩
  ·exact ⟨_, _, h1⟩
 obtain ⟨A, c, rfl⟩ := hv
 refine ⟨_, rfl, A, c, (srt l).map encZ, rfl, below_got hbl hI _ ?_ ?_, reps_ints I _⟩
 ·rintro k ⟨a, rfl, rfl⟩
  rcases hrow.2 with ⟨h1, h2⟩ | ⟨g', cap', cur, h1, h3, h4, _⟩
  ·cases h1
  ·injection h1 with h1
   injection h1 with h1
   rw [h1]
   exact ⟨h3, (Array.getElem?_eq_some_iff.1 h4).1⟩
 ·exact ⟨hrow.1, hrow.2.imp id fun ⟨g', cap', cur, h1, _, h2⟩ => ⟨g', cap', cur, h1, Nat.zero_le _, h2⟩⟩
end Go.Proofs.Ytihmbmeelheinaa
namespace Go.Proofs.Ytihmbmeelheinaa
open Go Go.Proofs.Ytihmbmeelheinaa.RW
set_option linter.unusedVariables false
set_option maxRecDepth 100000
set_option maxHeartbeats 8000000

structure S48 where
 f0 : Int
 f1 : Int
 f2 : Int
def z48 : S48 := ⟨0, 0, 0⟩
def t48 : Ty S48 := Ty.iso (Ty.pair (Ty.int .i64) (Ty.pair (Ty.int .i64) (Ty.int .i64))) (fun x => (x.f0, x.f1, x.f2))
theorem t48_open {I : Imm} {x : S48} {cs : List Value} (h : t48.K I x cs) : ∃ (_ : Unit), cs = [.int .i64 x.f0, .int .i64 x.f1, .int .i64 x.f2] := by
 obtain ⟨_, _, rfl, rfl, ⟨_, _, rfl, rfl, rfl⟩⟩ := h
 exact ⟨(), rfl⟩
theorem t48_mk (I : Imm) (x : S48) : t48.K I x [.int .i64 x.f0, .int .i64 x.f1, .int .i64 x.f2] := ⟨_, _, rfl, rfl, ⟨_, _, rfl, rfl, rfl⟩⟩
theorem t48_at {I : Imm} {A : Option Addr} {xs : List S48} (h : Rd t48 I A xs) (i : Int) (h0 : 0 ≤ i) (h1 : i < (xs.length : Int)) : ∃ g o, A = some ⟨g, o, none⟩ ∧  (∀ j u, [.int .i64 (xs.getD i.toNat z48).f0, .int .i64 (xs.getD i.toNat z48).f1, .int .i64 (xs.getD i.toNat z48).f2][j]? = some u → I ⟨g, o + i.toNat * 3 + j, none⟩ = some u) := by
 obtain ⟨g, o, c, e, hk, hc⟩ := h.get z48 i h0 h1
 obtain ⟨_, rfl⟩ := t48_open hk
 exact ⟨g, o, e, hc⟩
theorem t48_own {I : Imm} {cs : List Value} {xs : List S48} (h : Reps t48 I xs cs) (i : Int) (h0 : 0 ≤ i) (h1 : i < (xs.length : Int)) : (∀ j u, [.int .i64 (xs.getD i.toNat z48).f0, .int .i64 (xs.getD i.toNat z48).f1, .int .i64 (xs.getD i.toNat z48).f2][j]? = some u → cs[i.toNat * 3 + j]? = some u) := by
 obtain ⟨c, hk, hc⟩ := h.getE z48 i h0 h1
 obtain ⟨_, rfl⟩ := t48_open hk
 exact hc
structure S74 where
 f0 : Int
 f1 : Int
def z74 : S74 := ⟨0, 0⟩
def t74 : Ty S74 := Ty.iso (Ty.pair (Ty.int .i64) (Ty.int .i64)) (fun x => (x.f0, x.f1))
structure S56 where
 f0 : Int
 f1 : Int
def z56 : S56 := ⟨0, 0⟩
def t56 : Ty S56 := Ty.iso (Ty.pair (Ty.int .i64) (Ty.int .i64)) (fun x => (x.f0, x.f1))
structure S89 where
 f0 : List Int
 f1 : List Int
 f2 : List Int
def z89 : S89 := ⟨[], [], []⟩
def t89 : Ty S89 := Ty.iso (Ty.pair (Ty.arr (Ty.int .i64) 12) (Ty.pair (Ty.arr (Ty.int .i64) 12) (Ty.arr (Ty.int .i64) 12))) (fun x => (x.f0, x.f1, x.f2))
structure S62 where
 f0 : List Int
 f1 : List Int
def z62 : S62 := ⟨[], []⟩
def t62 : Ty S62 := Ty.iso (Ty.pair (Ty.slice (Ty.int .i64)) (Ty.slice (Ty.int .i64))) (fun x => (x.f0, x.f1))
structure S29 where
 f0 : List Int
 f1 : List Int
 f2 : List Int
def z29 : S29 := ⟨[], [], []⟩
def t29 : Ty S29 := Ty.iso (Ty.pair (Ty.slice (Ty.int .i64)) (Ty.pair (Ty.slice (Ty.int .i64)) (Ty.slice (Ty.int .i64)))) (fun x => (x.f0, x.f1, x.f2))
structure S41 where
 f0 : Int
 f1 : Int
 f2 : Int
 f3 : Int
 f4 : Int
 f5 : Int
 f6 : Int
 f7 : Int
 f8 : Int
 f9 : Int
 f10 : Int
 f11 : Int
def z41 : S41 := ⟨0, 0, 0, 0, 0, 0, 0, 0, 0, 0, 0, 0⟩
def t41 : Ty S41 := Ty.iso (Ty.pair (Ty.int .u8) (Ty.pair (Ty.int .u8) (Ty.pair (Ty.int .u8) (Ty.pair (Ty.int .u8) (Ty.pair (Ty.int .u8) (Ty.pair (Ty.int .u8) (Ty.pair (Ty.int .u8) (Ty.pair (Ty.int .u8) (Ty.pair (Ty.int .u8) (Ty.pair (Ty.int .u8) (Ty.pair (Ty.int .u8) (Ty.int .u8)))))))))))) (fun x => (x.f0, x.f1, x.f2, x.f3, x.f4, x.f5, x.f6, x.f7, x.f8, x.f9, x.f10, x.f11))
end Go.Proofs.Ytihmbmeelheinaa
namespace Go.Proofs.Ytihmbmeelheinaa
open Go Go.Proofs.Ytihmbmeelheinaa.RW
set_option linter.unusedVariables false
set_option maxRecDepth 100000
set_option maxHeartbeats 8000000

/-! ### auction_values: function 28, armillary/auction.values -/
noncomputable def K28_0 : Code := cBody Try.f28
def auction_values.k1  (x1 : (List ((Int × Int) × Int))) : Option ((List ((Int × Int) × Int))) := (some x1)
def auction_values.l1 (a0 : List S48) : Nat → (List ((Int × Int) × Int)) → Int → Option ((List ((Int × Int) × Int)))
 | 0, _, _ => none
 | k + 1, x2, x3 => (if x3 < (a0.length : Int) then (if 0 ≤ x3 then (if x3 < (a0.length : Int) then (auction_values.l1 a0 k (mput x2 ((a0.getD (x3).toNat z48).f0, (a0.getD (x3).toNat z48).f1) ((a0.getD (x3).toNat z48).f2)) (W .i64 (x3 + 1))) else none) else none) else (some x2))
def auction_values.f (k : Nat) (a0 : List S48) : Option ((List ((Int × Int) × Int))) := ((auction_values.l1 a0 k ([] : List ((Int × Int) × Int)) 0).bind (auction_values.k1))
def auction_values.Post (I : Imm) (w : World) (r : (List ((Int × Int) × Int))) (v : Value) (w' : World) : Prop :=
 ∃ (J : Imm) (g0 : Nat), v = .map (some g0) ∧ Got w w' I J [] ∧ Mp kK (Value.int .i64) J g0 r
theorem auction_values.calls (k : Nat) (I0 : Imm) (a0 : List S48) (Ap0 : Option Addr) (cp0 : Nat) (w : World) (hI : I0.at_ w) (hlp0 : a0.length ≤ cp0) (hrp0 : Rd t48 I0 Ap0 a0) (r : (List ((Int × Int) × Int))) (h : auction_values.f k a0 = some r) :
  Calls Try.prog 28 [.slice Ap0 a0.length cp0].toArray w fun e w' => ∃ v, e = .returned v ∧ auction_values.Post I0 w r v w' := by
 have H : ((auction_values.l1 a0 k ([] : List ((Int × Int) × Int)) 0).bind (auction_values.k1)) = some r := h
 clear h
 refine calls_body Try.func28 (by kernel_rfl) 25 (by kernel_rfl) (by kernel_rfl) ⟨w, fun _ => False, I0⟩ I0 [] [(0, .slice Ap0 a0.length cp0)] (by kernel_rfl) (Sat.start w _ I0 hI) ?_
 generalize w.heap.size = nx0
 show OK _ K28_0 _ _ _ _ _ _ _ _
 refine OK.sr ?_
 refine RL.st 1 [(0, .slice Ap0 a0.length cp0)] ?_
 refine OK.sr ?_
 refine RL.s 2 [(7, i6 (a0.length : Int)), (0, .slice Ap0 a0.length cp0)] ?_
 refine RL.makeMapH (T := 54) kK (Value.int .i64) .i64 (a0.length : Int) (some 8) (by kernel_rfl) (mt54).und (by kernel_rfl) ?_
 refine RL.norm (K' := [(8, .map (some nx0)), (7, i6 (a0.length : Int)), (0, .slice Ap0 a0.length cp0)]) (X' := [mres kK (Value.int .i64) nx0 ([] : List ((Int × Int) × Int))]) (by kernel_rfl) rfl rfl rfl ?_
 refine RL.st 1 [(3, .map (some nx0)), (0, .slice Ap0 a0.length cp0)] ?_
 refine OK.sq ?_
 refine OK.sr ?_
 refine RL.st 3 [(11, i6 0), (10, i6 (a0.length : Int)), (9, .slice Ap0 a0.length cp0), (3, .map (some nx0))] ?_
 refine OK.join (fun K' I' _ L' X' => ∃ (x1 : List ((Int × Int) × Int)), K' = [(3, .map (some nx0))] ∧ L' = [] ∧ X' = [mres kK (Value.int .i64) nx0 x1] ∧ Imm.le I0 I' ∧ auction_values.k1 x1 = some r) ?_ ?_
 ·rintro _ I1 nx1 _ _ ⟨x1, rfl, rfl, rfl, hi1, H⟩
  rw [auction_values.k1] at H
  refine QN.then_ ?_
  refine OK.sr ?_
  refine RL.st 2 [(2, .map (some nx0))] ?_
  refine OK.re ?_
  refine QN.freezeM (kE := kK) (vE := (Value.int .i64)) (m := 0) (g := nx0) (l := x1) (by kernel_rfl) (fun I2 hi2 hm1 => ?_)
  obtain rfl := Option.some.inj H
  refine QN.body rfl [] (RFacts.nil _ _ _) (.no) (.map (some nx0)) (by kernel_rfl) (by kernel_rfl) (by kernel_rfl) ?_ _ (.inr rfl)
  exact fun w' hs' => ⟨_, rfl, I2, nx0, rfl, hs'.got _ .slnil, hm1⟩
 ·intro Q_1 hJ1 hQ1
  obtain ⟨y1, H, HK1⟩ := bnd H
  refine OK.bk 0 ?_
  refine OK.sub (K' := [(3, .map (some nx0)), (9, .slice Ap0 a0.length cp0), (10, i6 (a0.length : Int)), (11, i6 0)]) (L' := []) (by kernel_rfl) .slnil (.refl _) ?_
  refine OK.lp (fun n_ K' I' _ L' X' => ∃ (x2 : List ((Int × Int) × Int)) (x3 : Int), K' = [(3, .map (some nx0)), (9, .slice Ap0 a0.length cp0), (10, i6 (a0.length : Int)), (11, i6 x3)] ∧ L' = [] ∧ X' = [mres kK (Value.int .i64) nx0 x2] ∧ Imm.le I0 I' ∧ auction_values.l1 a0 n_ x2 x3 = some y1) k ⟨([] : List ((Int × Int) × Int)), 0, rfl, rfl, rfl, (Imm.le_refl _), H⟩ ?_ ?_
  ·rintro _ _ _ _ _ ⟨x2, x3, rfl, rfl, rfl, _, H⟩
   cases H
  ·rintro kq1 _ I3 nx2 _ _ ⟨x2, x3, rfl, rfl, rfl, hi3, H⟩ Q_l1 hJ2 hQ2
   rw [auction_values.l1] at H
   refine OK.sr ?_
   refine RL.st 1 [(12, .bool (decide (x3 < (a0.length : Int)))), (3, .map (some nx0)), (9, .slice Ap0 a0.length cp0), (10, i6 (a0.length : Int)), (11, i6 x3)] ?_
   refine OK.sq ?_
   refine OK.cd (decide (x3 < (a0.length : Int))) (fun hb => ?_) (fun hb => ?_)
   ·skip
    have hc := (of_decide_eq_true hb)
    rw [if_pos hc] at H
    clear hb
    refine OK.skt ?_
    refine OK.sq ?_
    refine OK.bk 1 ?_
    refine OK.sr ?_
    obtain ⟨hib0, H⟩ := ifs H
    obtain ⟨hib1, H⟩ := ifs H
    obtain ⟨g1_, o1_, hA1_, hc1_⟩ := t48_at (Rd.ext hi3 hrp0) x3 hib0 hib1
    refine RL.idx 3 .i64 x3 hA1_ a0.length cp0 (some 13) (by kernel_rfl) (by kernel_rfl) (T := 22) (e := 48) (by kernel_rfl) (by kernel_rfl) hib0 hib1 (K' := [(13, pt g1_ (o1_ + (x3).toNat * 3)), (12, .bool (decide (x3 < (a0.length : Int)))), (3, .map (some nx0)), (9, .slice Ap0 a0.length cp0), (10, i6 (a0.length : Int)), (11, i6 x3)]) (by kernel_rfl) ?_
    refine RL.simP (K' := [(5, pt nx2 0), (3, .map (some nx0)), (9, .slice Ap0 a0.length cp0), (10, i6 (a0.length : Int)), (11, i6 x3)]) (nx' := nx2 + 1) (L' := [⟨nx2, [i6 ((a0.getD (x3).toNat z48).f0), i6 ((a0.getD (x3).toNat z48).f1), i6 ((a0.getD (x3).toNat z48).f2)], 48⟩]) [(⟨g1_, o1_ + (x3).toNat * 3, none⟩, i6 ((a0.getD (x3).toNat z48).f0)), (⟨g1_, o1_ + (x3).toNat * 3 + 1, none⟩, i6 ((a0.getD (x3).toNat z48).f1)), (⟨g1_, o1_ + (x3).toNat * 3 + 2, none⟩, i6 ((a0.getD (x3).toNat z48).f2))] (RFacts.imm (hc1_ 0 _ rfl) (RFacts.imm (hc1_ 1 _ rfl) (RFacts.imm (hc1_ 2 _ rfl) (RFacts.nil _ _ _)))) 3 [.r 0, .no, .l 0] (by kernel_rfl) (by kernel_rfl) ?_
    refine RL.nt ?_
    refine OK.rg ?_
    refine RL.simK (K' := [(22, i6 ((a0.getD (x3).toNat z48).f2)), (20, .agg #[i6 ((a0.getD (x3).toNat z48).f0), i6 ((a0.getD (x3).toNat z48).f1)]), (15, .map (some nx0)), (3, .map (some nx0)), (9, .slice Ap0 a0.length cp0), (10, i6 (a0.length : Int)), (11, i6 x3)]) [] (RFacts.nil _ _ _) 8 [.no, .no, .l 0, .no, .l 0, .no, .no, .l 0] (by kernel_rfl) (by kernel_rfl) ?_
    refine RL.putM mt54 ((a0.getD (x3).toNat z48).f0, (a0.getD (x3).toNat z48).f1) ((a0.getD (x3).toNat z48).f2) 0 (g := nx0) (l := x2) (by kernel_rfl) (by kernel_rfl) (by kernel_rfl) ?_
    refine RL.norm (K' := [(22, i6 ((a0.getD (x3).toNat z48).f2)), (20, .agg #[i6 ((a0.getD (x3).toNat z48).f0), i6 ((a0.getD (x3).toNat z48).f1)]), (15, .map (some nx0)), (3, .map (some nx0)), (9, .slice Ap0 a0.length cp0), (10, i6 (a0.length : Int)), (11, i6 x3)]) (X' := [mres kK (Value.int .i64) nx0 (mput x2 ((a0.getD (x3).toNat z48).f0, (a0.getD (x3).toNat z48).f1) ((a0.getD (x3).toNat z48).f2))]) rfl rfl rfl rfl ?_
    refine RL.nil (by kernel_rfl) ?_
    refine QN.sub (K' := [(3, .map (some nx0)), (9, .slice Ap0 a0.length cp0), (10, i6 (a0.length : Int)), (11, i6 x3)]) (L' := [⟨nx2, [i6 ((a0.getD (x3).toNat z48).f0), i6 ((a0.getD (x3).toNat z48).f1), i6 ((a0.getD (x3).toNat z48).f2)], 48⟩]) (by kernel_rfl) (.cons_cons _ .slnil) (.refl _) ?_
    refine QN.blkN ?_
    refine QN.then_ ?_
    refine OK.rg ?_
    refine RL.s 2 [(11, i6 (W .i64 (x3 + 1))), (3, .map (some nx0)), (9, .slice Ap0 a0.length cp0), (10, i6 (a0.length : Int))] ?_
    refine RL.nil (by kernel_rfl) ?_
    exact QN.sb (hJ2 _ _ _ _ _ ⟨(mput x2 ((a0.getD (x3).toNat z48).f0, (a0.getD (x3).toNat z48).f1) ((a0.getD (x3).toNat z48).f2)), W .i64 (x3 + 1), rfl, rfl, rfl, hi3, H⟩) (.cons _ .slnil) (.refl _)
   ·skip
    have hc := (of_decide_eq_false hb)
    rw [if_neg hc] at H
    clear hb
    refine OK.ex 0 ?_
    refine QN.thenE ?_
    refine QN.outE hQ2 ?_
    refine QN.blkE ?_
    obtain rfl := Option.some.inj H
    exact QN.sb (hJ1 _ _ _ _ _ ⟨x2, rfl, rfl, rfl, hi3, HK1⟩) .slnil (.refl _)

end Go.Proofs.Ytihmbmeelheinaa
namespace Go.Proofs.Ytihmbmeelheinaa
open Go Go.Proofs.Ytihmbmeelheinaa.RW
set_option linter.unusedVariables false
set_option maxRecDepth 100000
set_option maxHeartbeats 8000000

/-! ### auction_bidder: function 30, armillary/auction.bidder -/
noncomputable def K30_0 : Code := cBody Try.f30
def auction_bidder.f (a0 : S48) : Option (Int) := (some a0.f0)
def auction_bidder.Post (I : Imm) (w : World) (r : Int) (v : Value) (w' : World) : Prop :=
 ∃ (J : Imm), v = .int .i64 r ∧ Got w w' I J []
theorem auction_bidder.calls (I0 : Imm) (a0 : S48) (w : World) (hI : I0.at_ w)  (r : Int) (h : auction_bidder.f a0 = some r) :
  Calls Try.prog 30 [.agg #[i6 a0.f0, i6 a0.f1, i6 a0.f2]].toArray w fun e w' => ∃ v, e = .returned v ∧ auction_bidder.Post I0 w r v w' := by
 have H : (some a0.f0) = some r := h
 clear h
 refine calls_body Try.func30 (by kernel_rfl) 5 (by kernel_rfl) (by kernel_rfl) ⟨w, fun _ => False, I0⟩ I0 [] [(0, .agg #[i6 a0.f0, i6 a0.f1, i6 a0.f2])] (by kernel_rfl) (Sat.start w _ I0 hI) ?_
 generalize w.heap.size = nx0
 show OK _ K30_0 _ _ _ _ _ _ _ _
 refine OK.sr ?_
 refine RL.spt 2 [(1, pt nx0 0)] (nx0 + 1) [⟨nx0, [i6 a0.f0, i6 a0.f1, i6 a0.f2], 48⟩] ?_
 refine OK.sr ?_
 refine RL.simK (K' := [(2, i6 a0.f0)]) [] (RFacts.nil _ _ _) 3 [.no, .l 0, .no] (by kernel_rfl) (by kernel_rfl) ?_
 refine RL.nt ?_
 refine OK.re ?_
 obtain rfl := Option.some.inj H
 refine QN.body rfl [] (RFacts.nil _ _ _) (.no) (i6 a0.f0) (by kernel_rfl) (by kernel_rfl) (by kernel_rfl) ?_ _ (.inr rfl)
 exact fun w' hs' => ⟨_, rfl, I0, rfl, hs'.got _ .slnil⟩

end Go.Proofs.Ytihmbmeelheinaa
namespace Go.Proofs.Ytihmbmeelheinaa
open Go Go.Proofs.Ytihmbmeelheinaa.RW
set_option linter.unusedVariables false
set_option maxRecDepth 100000
set_option maxHeartbeats 8000000

/-! ### auction_distincts0: function 29, armillary/auction.distinct -/
noncomputable def K29s0_0 : Code := cBody Try.f29
def auction_distincts0.k1  (x1 : (List (Int × Bool))) : Option (List Int) := (if keysOk x1 then (some (srt x1)) else none)
def auction_distincts0.l1 (a0 : List S48) : Nat → (List (Int × Bool)) → Int → Option ((List (Int × Bool)))
 | 0, _, _ => none
 | k + 1, x2, x3 => (if x3 < (a0.length : Int) then (if 0 ≤ x3 then (if x3 < (a0.length : Int) then ((auction_bidder.f (a0.getD (x3).toNat z48)).bind fun t1 => (auction_distincts0.l1 a0 k (mput x2 t1 true) (W .i64 (x3 + 1)))) else none) else none) else (some x2))
def auction_distincts0.f (k : Nat) (a0 : List S48) : Option (List Int) := ((auction_distincts0.l1 a0 k ([] : List (Int × Bool)) 0).bind (auction_distincts0.k1))
def auction_distincts0.Post (S : Nat → Prop) (a0 : List S48) (Aa0 : Option Addr) (ca0 : Nat) (I : Imm) (w : World) (r : List Int) (v : Value) (w' : World) : Prop :=
 ∃ (J : Imm) (Ar0 : Option Addr) (cr0 : Nat) (csr0 : List Value), v = .slice Ar0 r.length cr0 ∧ Sat ⟨w, S, I⟩ J w'.heap.size [] [orow 3 1 Ar0 r.length cr0 csr0] w' ∧ Reps (Ty.int .i64) J r csr0
theorem auction_distincts0.calls (k : Nat) (I0 : Imm) (a0 : List S48) (Aa0 : Option Addr) (ca0 : Nat) (w : World) (hs : Sat ⟨w, SM [] [], I0⟩ I0 w.heap.size [] [] w) (hla0 : a0.length ≤ ca0) (hra0 : Rd t48 I0 Aa0 a0) (r : List Int) (h : auction_distincts0.f k a0 = some r) :
  Calls Try.prog 29 [.slice Aa0 a0.length ca0, .func (.func 30) #[] #[]].toArray w fun e w' => ∃ v, e = .returned v ∧ auction_distincts0.Post (SM [] []) a0 Aa0 ca0 I0 w r v w' := by
 have H : ((auction_distincts0.l1 a0 k ([] : List (Int × Bool)) 0).bind (auction_distincts0.k1)) = some r := h
 clear h
 refine calls_bodyL Try.func29 (by kernel_rfl) 23 (by kernel_rfl) (by kernel_rfl) ⟨w, SM [] [], I0⟩ I0 [] [] [(0, .slice Aa0 a0.length ca0), (1, .func (.func 30) #[] #[])] (by kernel_rfl) hs ?_
 generalize w.heap.size = nx0
 show OK _ K29s0_0 _ _ _ _ _ _ _ _
 refine OK.sr ?_
 refine RL.st 1 [(0, .slice Aa0 a0.length ca0), (1, .func (.func 30) #[] #[])] ?_
 refine OK.sr ?_
 refine RL.makeMap (T := 76) (Value.int .i64) Value.bool (some 8) (by kernel_rfl) (by kernel_rfl) ?_
 refine RL.norm (K' := [(8, .map (some nx0)), (0, .slice Aa0 a0.length ca0), (1, .func (.func 30) #[] #[])]) (X' := [mres (Value.int .i64) Value.bool nx0 ([] : List (Int × Bool))]) (by kernel_rfl) rfl rfl rfl ?_
 refine RL.st 1 [(5, .map (some nx0)), (0, .slice Aa0 a0.length ca0), (1, .func (.func 30) #[] #[])] ?_
 refine OK.sq ?_
 refine OK.sr ?_
 refine RL.st 3 [(11, i6 0), (10, i6 (a0.length : Int)), (9, .slice Aa0 a0.length ca0), (5, .map (some nx0)), (1, .func (.func 30) #[] #[])] ?_
 refine OK.join (fun K' I' _ L' X' => ∃ (x1 : List (Int × Bool)), K' = [(5, .map (some nx0))] ∧ L' = [] ∧ X' = [mres (Value.int .i64) Value.bool nx0 x1] ∧ Imm.le I0 I' ∧ auction_distincts0.k1 x1 = some r) ?_ ?_
 ·rintro _ I1 nx1 _ _ ⟨x1, rfl, rfl, rfl, hi1, H⟩
  rw [auction_distincts0.k1] at H
  refine QN.then_ ?_
  refine OK.sr ?_
  refine RL.s 1 [(20, .map (some nx0))] ?_
  refine RL.callP 44 [.map (some nx0)] (some 21) (fun w v w' => v = .func (.func 54) #[] #[pt nx1 0] ∧ Got w w' I1 I1 [RW.kblk nx1 76 [.map (some nx0)]]) (by kernel_rfl) (by kernel_rfl) (fun w hs => by have h9 := keysCall76 I1 nx0 w hs.im; rw [hs.hnx] at h9; exact h9) ?_
  rintro w v w' hs ⟨rfl, hg⟩
  refine RL.resume rfl (hs.call hg) ?_
  clear hs hg
  generalize w'.heap.size = nx2
  clear w w'
  refine RL.kblk (g := nx1) (ty := 76) (cs := [.map (some nx0)]) 1 (by kernel_rfl) ?_
  refine RL.norm (K' := [(21, .func (.func 54) #[] #[pt nx1 0]), (20, .map (some nx0))]) (L' := [⟨nx1, [.map (some nx0)], 76⟩]) (X' := [mres (Value.int .i64) Value.bool nx0 x1]) (by kernel_rfl) rfl rfl (by kernel_rfl) ?_
  obtain ⟨hk1, H⟩ := ifs H
  refine RL.callP 43 [.func (.func 54) #[] #[pt nx1 0]] (some 22) (fun w v w' => ∃ (A : Option Addr) (c : Nat) (cs : List Value), v = .slice A (srt x1).length c ∧ Got w w' I1 I1 [orow 3 1 A (srt x1).length c cs] ∧ Reps (Ty.int .i64) I1 (srt x1) cs) (by kernel_rfl) (by kernel_rfl) (fun w hs => sortedCall76 I1 nx1 nx0 x1 w hs.im (hs.blk ⟨nx1, [.map (some nx0)], 76⟩ (List.mem_of_getElem? (i := 0) (by kernel_rfl))) (hs.res (mres (Value.int .i64) Value.bool nx0 x1) (List.mem_of_getElem? (i := 0) (by kernel_rfl))) hk1) ?_
  rintro w v w' hs ⟨A1, c1, cs1, rfl, hg, hp1⟩
  refine RL.resume (X' := [mres (Value.int .i64) Value.bool nx0 x1, orow 3 1 A1 ((srt x1).length) c1 cs1]) rfl (hs.call hg) ?_
  clear hs hg
  generalize w'.heap.size = nx3
  clear w w'
  refine RL.st 1 [(4, .slice A1 ((srt x1).length) c1)] ?_
  refine OK.re ?_
  obtain rfl := Option.some.inj H
  refine QN.body rfl [] (RFacts.nil _ _ _) (.no) (.slice A1 ((srt x1).length) c1) (by kernel_rfl) (by kernel_rfl) (by kernel_rfl) ?_ _ (.inr rfl)
  exact fun w' hs' => ⟨_, rfl, I1, A1, c1, cs1, rfl, ((hs'.fin.selB [] (by kernel_rfl)).sel [1] (by kernel_rfl)), hp1⟩
 ·intro Q_1 hJ1 hQ1
  obtain ⟨y1, H, HK1⟩ := bnd H
  refine OK.bk 0 ?_
  refine OK.sub (K' := [(1, .func (.func 30) #[] #[]), (5, .map (some nx0)), (9, .slice Aa0 a0.length ca0), (10, i6 (a0.length : Int)), (11, i6 0)]) (L' := []) (by kernel_rfl) .slnil (.refl _) ?_
  refine OK.lp (fun n_ K' I' _ L' X' => ∃ (x2 : List (Int × Bool)) (x3 : Int), K' = [(1, .func (.func 30) #[] #[]), (5, .map (some nx0)), (9, .slice Aa0 a0.length ca0), (10, i6 (a0.length : Int)), (11, i6 x3)] ∧ L' = [] ∧ X' = [mres (Value.int .i64) Value.bool nx0 x2] ∧ Imm.le I0 I' ∧ auction_distincts0.l1 a0 n_ x2 x3 = some y1) k ⟨([] : List (Int × Bool)), 0, rfl, rfl, rfl, (Imm.le_refl _), H⟩ ?_ ?_
  ·rintro _ _ _ _ _ ⟨x2, x3, rfl, rfl, rfl, _, H⟩
   cases H
  ·rintro kq1 _ I2 nx4 _ _ ⟨x2, x3, rfl, rfl, rfl, hi2, H⟩ Q_l1 hJ2 hQ2
   rw [auction_distincts0.l1] at H
   refine OK.sr ?_
   refine RL.st 1 [(12, .bool (decide (x3 < (a0.length : Int)))), (1, .func (.func 30) #[] #[]), (5, .map (some nx0)), (9, .slice Aa0 a0.length ca0), (10, i6 (a0.length : Int)), (11, i6 x3)] ?_
   refine OK.sq ?_
   refine OK.cd (decide (x3 < (a0.length : Int))) (fun hb => ?_) (fun hb => ?_)
   ·skip
    have hc := (of_decide_eq_true hb)
    rw [if_pos hc] at H
    clear hb
    refine OK.skt ?_
    refine OK.sq ?_
    refine OK.bk 1 ?_
    refine OK.sr ?_
    obtain ⟨hib0, H⟩ := ifs H
    obtain ⟨hib1, H⟩ := ifs H
    obtain ⟨g1_, o1_, hA1_, hc1_⟩ := t48_at (Rd.ext hi2 hra0) x3 hib0 hib1
    refine RL.idx 3 .i64 x3 hA1_ a0.length ca0 (some 13) (by kernel_rfl) (by kernel_rfl) (T := 22) (e := 48) (by kernel_rfl) (by kernel_rfl) hib0 hib1 (K' := [(13, pt g1_ (o1_ + (x3).toNat * 3)), (12, .bool (decide (x3 < (a0.length : Int)))), (1, .func (.func 30) #[] #[]), (5, .map (some nx0)), (9, .slice Aa0 a0.length ca0), (10, i6 (a0.length : Int)), (11, i6 x3)]) (by kernel_rfl) ?_
    refine RL.simP (K' := [(7, pt nx4 0), (1, .func (.func 30) #[] #[]), (5, .map (some nx0)), (9, .slice Aa0 a0.length ca0), (10, i6 (a0.length : Int)), (11, i6 x3)]) (nx' := nx4 + 1) (L' := [⟨nx4, [i6 ((a0.getD (x3).toNat z48).f0), i6 ((a0.getD (x3).toNat z48).f1), i6 ((a0.getD (x3).toNat z48).f2)], 48⟩]) [(⟨g1_, o1_ + (x3).toNat * 3, none⟩, i6 ((a0.getD (x3).toNat z48).f0)), (⟨g1_, o1_ + (x3).toNat * 3 + 1, none⟩, i6 ((a0.getD (x3).toNat z48).f1)), (⟨g1_, o1_ + (x3).toNat * 3 + 2, none⟩, i6 ((a0.getD (x3).toNat z48).f2))] (RFacts.imm (hc1_ 0 _ rfl) (RFacts.imm (hc1_ 1 _ rfl) (RFacts.imm (hc1_ 2 _ rfl) (RFacts.nil _ _ _)))) 3 [.r 0, .no, .l 0] (by kernel_rfl) (by kernel_rfl) ?_
    refine RL.nt ?_
    refine OK.rg ?_
    refine RL.simK (K' := [(17, .agg #[i6 ((a0.getD (x3).toNat z48).f0), i6 ((a0.getD (x3).toNat z48).f1), i6 ((a0.getD (x3).toNat z48).f2)]), (16, .func (.func 30) #[] #[]), (15, .map (some nx0)), (1, .func (.func 30) #[] #[]), (5, .map (some nx0)), (9, .slice Aa0 a0.length ca0), (10, i6 (a0.length : Int)), (11, i6 x3)]) [] (RFacts.nil _ _ _) 3 [.no, .no, .l 0] (by kernel_rfl) (by kernel_rfl) ?_
    obtain ⟨t1, hA1, H⟩ := bnd H
    refine RL.callP 30 [.agg #[i6 ((a0.getD (x3).toNat z48).f0), i6 ((a0.getD (x3).toNat z48).f1), i6 ((a0.getD (x3).toNat z48).f2)]] (some 18) (fun w => auction_bidder.Post I2 w t1) (by kernel_rfl) (by kernel_rfl) (fun w hs => auction_bidder.calls I2 (a0.getD (x3).toNat z48) w hs.im  t1 hA1) ?_
    rintro w v w' hs ⟨I3, rfl, hg⟩
    have hi3 := hg.le
    refine RL.resume (X' := [mres (Value.int .i64) Value.bool nx0 x2]) rfl (hs.call hg) ?_
    clear hs hg
    generalize w'.heap.size = nx5
    clear w w'
    refine RL.putM mt76 t1 true 0 (g := nx0) (l := x2) (by kernel_rfl) (by kernel_rfl) (by kernel_rfl) ?_
    refine RL.norm (K' := [(18, i6 t1), (17, .agg #[i6 ((a0.getD (x3).toNat z48).f0), i6 ((a0.getD (x3).toNat z48).f1), i6 ((a0.getD (x3).toNat z48).f2)]), (16, .func (.func 30) #[] #[]), (15, .map (some nx0)), (1, .func (.func 30) #[] #[]), (5, .map (some nx0)), (9, .slice Aa0 a0.length ca0), (10, i6 (a0.length : Int)), (11, i6 x3)]) (X' := [mres (Value.int .i64) Value.bool nx0 (mput x2 t1 true)]) rfl rfl rfl rfl ?_
    refine RL.nil (by kernel_rfl) ?_
    refine QN.sub (K' := [(1, .func (.func 30) #[] #[]), (5, .map (some nx0)), (9, .slice Aa0 a0.length ca0), (10, i6 (a0.length : Int)), (11, i6 x3)]) (L' := [⟨nx4, [i6 ((a0.getD (x3).toNat z48).f0), i6 ((a0.getD (x3).toNat z48).f1), i6 ((a0.getD (x3).toNat z48).f2)], 48⟩]) (by kernel_rfl) (.cons_cons _ .slnil) (.refl _) ?_
    refine QN.blkN ?_
    refine QN.then_ ?_
    refine OK.rg ?_
    refine RL.s 2 [(11, i6 (W .i64 (x3 + 1))), (1, .func (.func 30) #[] #[]), (5, .map (some nx0)), (9, .slice Aa0 a0.length ca0), (10, i6 (a0.length : Int))] ?_
    refine RL.nil (by kernel_rfl) ?_
    exact QN.sb (hJ2 _ _ _ _ _ ⟨(mput x2 t1 true), W .i64 (x3 + 1), rfl, rfl, rfl, (Imm.le_trans hi2 hi3), H⟩) (.cons _ .slnil) (.refl _)
   ·skip
    have hc := (of_decide_eq_false hb)
    rw [if_neg hc] at H
    clear hb
    refine OK.ex 0 ?_
    refine QN.thenE ?_
    refine QN.outE hQ2 ?_
    refine QN.blkE ?_
    obtain rfl := Option.some.inj H
    exact QN.sb (hJ1 _ _ _ _ _ ⟨x2, rfl, rfl, rfl, hi2, HK1⟩) .slnil (.refl _)

end Go.Proofs.Ytihmbmeelheinaa
namespace Go.Proofs.Ytihmbmeelheinaa
open Go Go.Proofs.Ytihmbmeelheinaa.RW
set_option linter.unusedVariables false
set_option maxRecDepth 100000
set_option maxHeartbeats 8000000

/-! ### auction_slot: function 31, armillary/auction.slot -/
noncomputable def K31_0 : Code := cBody Try.f31
def auction_slot.f (a0 : S48) : Option (Int) := (some a0.f1)
def auction_slot.Post (I : Imm) (w : World) (r : Int) (v : Value) (w' : World) : Prop :=
 ∃ (J : Imm), v = .int .i64 r ∧ Got w w' I J []
theorem auction_slot.calls (I0 : Imm) (a0 : S48) (w : World) (hI : I0.at_ w)  (r : Int) (h : auction_slot.f a0 = some r) :
  Calls Try.prog 31 [.agg #[i6 a0.f0, i6 a0.f1, i6 a0.f2]].toArray w fun e w' => ∃ v, e = .returned v ∧ auction_slot.Post I0 w r v w' := by
 have H : (some a0.f1) = some r := h
 clear h
 refine calls_body Try.func31 (by kernel_rfl) 5 (by kernel_rfl) (by kernel_rfl) ⟨w, fun _ => False, I0⟩ I0 [] [(0, .agg #[i6 a0.f0, i6 a0.f1, i6 a0.f2])] (by kernel_rfl) (Sat.start w _ I0 hI) ?_
 generalize w.heap.size = nx0
 show OK _ K31_0 _ _ _ _ _ _ _ _
 refine OK.sr ?_
 refine RL.spt 2 [(1, pt nx0 0)] (nx0 + 1) [⟨nx0, [i6 a0.f0, i6 a0.f1, i6 a0.f2], 48⟩] ?_
 refine OK.sr ?_
 refine RL.simK (K' := [(2, i6 a0.f1)]) [] (RFacts.nil _ _ _) 3 [.no, .l 0, .no] (by kernel_rfl) (by kernel_rfl) ?_
 refine RL.nt ?_
 refine OK.re ?_
 obtain rfl := Option.some.inj H
 refine QN.body rfl [] (RFacts.nil _ _ _) (.no) (i6 a0.f1) (by kernel_rfl) (by kernel_rfl) (by kernel_rfl) ?_ _ (.inr rfl)
 exact fun w' hs' => ⟨_, rfl, I0, rfl, hs'.got _ .slnil⟩

end Go.Proofs.Ytihmbmeelheinaa
namespace Go.Proofs.Ytihmbmeelheinaa
open Go Go.Proofs.Ytihmbmeelheinaa.RW
set_option linter.unusedVariables false
set_option maxRecDepth 100000
set_option maxHeartbeats 8000000

/-! ### auction_distincts1: function 29, armillary/auction.distinct -/
noncomputable def K29s1_0 : Code := cBody Try.f29
def auction_distincts1.k1  (x1 : (List (Int × Bool))) : Option (List Int) := (if keysOk x1 then (some (srt x1)) else none)
def auction_distincts1.l1 (a0 : List S48) : Nat → (List (Int × Bool)) → Int → Option ((List (Int × Bool)))
 | 0, _, _ => none
 | k + 1, x2, x3 => (if x3 < (a0.length : Int) then (if 0 ≤ x3 then (if x3 < (a0.length : Int) then ((auction_slot.f (a0.getD (x3).toNat z48)).bind fun t1 => (auction_distincts1.l1 a0 k (mput x2 t1 true) (W .i64 (x3 + 1)))) else none) else none) else (some x2))
def auction_distincts1.f (k : Nat) (a0 : List S48) : Option (List Int) := ((auction_distincts1.l1 a0 k ([] : List (Int × Bool)) 0).bind (auction_distincts1.k1))
def auction_distincts1.Post (S : Nat → Prop) (a0 : List S48) (Aa0 : Option Addr) (ca0 : Nat) (I : Imm) (w : World) (r : List Int) (v : Value) (w' : World) : Prop :=
 ∃ (J : Imm) (Ar0 : Option Addr) (cr0 : Nat) (csr0 : List Value), v = .slice Ar0 r.length cr0 ∧ Sat ⟨w, S, I⟩ J w'.heap.size [] [orow 3 1 Ar0 r.length cr0 csr0] w' ∧ Reps (Ty.int .i64) J r csr0
theorem auction_distincts1.calls (k : Nat) (I0 : Imm) (a0 : List S48) (Aa0 : Option Addr) (ca0 : Nat) (w : World) (hs : Sat ⟨w, SM [] [], I0⟩ I0 w.heap.size [] [] w) (hla0 : a0.length ≤ ca0) (hra0 : Rd t48 I0 Aa0 a0) (r : List Int) (h : auction_distincts1.f k a0 = some r) :
  Calls Try.prog 29 [.slice Aa0 a0.length ca0, .func (.func 31) #[] #[]].toArray w fun e w' => ∃ v, e = .returned v ∧ auction_distincts1.Post (SM [] []) a0 Aa0 ca0 I0 w r v w' := by
 have H : ((auction_distincts1.l1 a0 k ([] : List (Int × Bool)) 0).bind (auction_distincts1.k1)) = some r := h
 clear h
 refine calls_bodyL Try.func29 (by kernel_rfl) 23 (by kernel_rfl) (by kernel_rfl) ⟨w, SM [] [], I0⟩ I0 [] [] [(0, .slice Aa0 a0.length ca0), (1, .func (.func 31) #[] #[])] (by kernel_rfl) hs ?_
 generalize w.heap.size = nx0
 show OK _ K29s1_0 _ _ _ _ _ _ _ _
 refine OK.sr ?_
 refine RL.st 1 [(0, .slice Aa0 a0.length ca0), (1, .func (.func 31) #[] #[])] ?_
 refine OK.sr ?_
 refine RL.makeMap (T := 76) (Value.int .i64) Value.bool (some 8) (by kernel_rfl) (by kernel_rfl) ?_
 refine RL.norm (K' := [(8, .map (some nx0)), (0, .slice Aa0 a0.length ca0), (1, .func (.func 31) #[] #[])]) (X' := [mres (Value.int .i64) Value.bool nx0 ([] : List (Int × Bool))]) (by kernel_rfl) rfl rfl rfl ?_
 refine RL.st 1 [(5, .map (some nx0)), (0, .slice Aa0 a0.length ca0), (1, .func (.func 31) #[] #[])] ?_
 refine OK.sq ?_
 refine OK.sr ?_
 refine RL.st 3 [(11, i6 0), (10, i6 (a0.length : Int)), (9, .slice Aa0 a0.length ca0), (5, .map (some nx0)), (1, .func (.func 31) #[] #[])] ?_
 refine OK.join (fun K' I' _ L' X' => ∃ (x1 : List (Int × Bool)), K' = [(5, .map (some nx0))] ∧ L' = [] ∧ X' = [mres (Value.int .i64) Value.bool nx0 x1] ∧ Imm.le I0 I' ∧ auction_distincts1.k1 x1 = some r) ?_ ?_
 ·rintro _ I1 nx1 _ _ ⟨x1, rfl, rfl, rfl, hi1, H⟩
  rw [auction_distincts1.k1] at H
  refine QN.then_ ?_
  refine OK.sr ?_
  refine RL.s 1 [(20, .map (some nx0))] ?_
  refine RL.callP 44 [.map (some nx0)] (some 21) (fun w v w' => v = .func (.func 54) #[] #[pt nx1 0] ∧ Got w w' I1 I1 [RW.kblk nx1 76 [.map (some nx0)]]) (by kernel_rfl) (by kernel_rfl) (fun w hs => by have h9 := keysCall76 I1 nx0 w hs.im; rw [hs.hnx] at h9; exact h9) ?_
  rintro w v w' hs ⟨rfl, hg⟩
  refine RL.resume rfl (hs.call hg) ?_
  clear hs hg
  generalize w'.heap.size = nx2
  clear w w'
  refine RL.kblk (g := nx1) (ty := 76) (cs := [.map (some nx0)]) 1 (by kernel_rfl) ?_
  refine RL.norm (K' := [(21, .func (.func 54) #[] #[pt nx1 0]), (20, .map (some nx0))]) (L' := [⟨nx1, [.map (some nx0)], 76⟩]) (X' := [mres (Value.int .i64) Value.bool nx0 x1]) (by kernel_rfl) rfl rfl (by kernel_rfl) ?_
  obtain ⟨hk1, H⟩ := ifs H
  refine RL.callP 43 [.func (.func 54) #[] #[pt nx1 0]] (some 22) (fun w v w' => ∃ (A : Option Addr) (c : Nat) (cs : List Value), v = .slice A (srt x1).length c ∧ Got w w' I1 I1 [orow 3 1 A (srt x1).length c cs] ∧ Reps (Ty.int .i64) I1 (srt x1) cs) (by kernel_rfl) (by kernel_rfl) (fun w hs => sortedCall76 I1 nx1 nx0 x1 w hs.im (hs.blk ⟨nx1, [.map (some nx0)], 76⟩ (List.mem_of_getElem? (i := 0) (by kernel_rfl))) (hs.res (mres (Value.int .i64) Value.bool nx0 x1) (List.mem_of_getElem? (i := 0) (by kernel_rfl))) hk1) ?_
  rintro w v w' hs ⟨A1, c1, cs1, rfl, hg, hp1⟩
  refine RL.resume (X' := [mres (Value.int .i64) Value.bool nx0 x1, orow 3 1 A1 ((srt x1).length) c1 cs1]) rfl (hs.call hg) ?_
  clear hs hg
  generalize w'.heap.size = nx3
  clear w w'
  refine RL.st 1 [(4, .slice A1 ((srt x1).length) c1)] ?_
  refine OK.re ?_
  obtain rfl := Option.some.inj H
  refine QN.body rfl [] (RFacts.nil _ _ _) (.no) (.slice A1 ((srt x1).length) c1) (by kernel_rfl) (by kernel_rfl) (by kernel_rfl) ?_ _ (.inr rfl)
  exact fun w' hs' => ⟨_, rfl, I1, A1, c1, cs1, rfl, ((hs'.fin.selB [] (by kernel_rfl)).sel [1] (by kernel_rfl)), hp1⟩
 ·intro Q_1 hJ1 hQ1
  obtain ⟨y1, H, HK1⟩ := bnd H
  refine OK.bk 0 ?_
  refine OK.sub (K' := [(1, .func (.func 31) #[] #[]), (5, .map (some nx0)), (9, .slice Aa0 a0.length ca0), (10, i6 (a0.length : Int)), (11, i6 0)]) (L' := []) (by kernel_rfl) .slnil (.refl _) ?_
  refine OK.lp (fun n_ K' I' _ L' X' => ∃ (x2 : List (Int × Bool)) (x3 : Int), K' = [(1, .func (.func 31) #[] #[]), (5, .map (some nx0)), (9, .slice Aa0 a0.length ca0), (10, i6 (a0.length : Int)), (11, i6 x3)] ∧ L' = [] ∧ X' = [mres (Value.int .i64) Value.bool nx0 x2] ∧ Imm.le I0 I' ∧ auction_distincts1.l1 a0 n_ x2 x3 = some y1) k ⟨([] : List (Int × Bool)), 0, rfl, rfl, rfl, (Imm.le_refl _), H⟩ ?_ ?_
  ·rintro _ _ _ _ _ ⟨x2, x3, rfl, rfl, rfl, _, H⟩
   cases H
  ·rintro kq1 _ I2 nx4 _ _ ⟨x2, x3, rfl, rfl, rfl, hi2, H⟩ Q_l1 hJ2 hQ2
   rw [auction_distincts1.l1] at H
   refine OK.sr ?_
   refine RL.st 1 [(12, .bool (decide (x3 < (a0.length : Int)))), (1, .func (.func 31) #[] #[]), (5, .map (some nx0)), (9, .slice Aa0 a0.length ca0), (10, i6 (a0.length : Int)), (11, i6 x3)] ?_
   refine OK.sq ?_
   refine OK.cd (decide (x3 < (a0.length : Int))) (fun hb => ?_) (fun hb => ?_)
   ·skip
    have hc := (of_decide_eq_true hb)
    rw [if_pos hc] at H
    clear hb
    refine OK.skt ?_
    refine OK.sq ?_
    refine OK.bk 1 ?_
    refine OK.sr ?_
    obtain ⟨hib0, H⟩ := ifs H
    obtain ⟨hib1, H⟩ := ifs H
    obtain ⟨g1_, o1_, hA1_, hc1_⟩ := t48_at (Rd.ext hi2 hra0) x3 hib0 hib1
    refine RL.idx 3 .i64 x3 hA1_ a0.length ca0 (some 13) (by kernel_rfl) (by kernel_rfl) (T := 22) (e := 48) (by kernel_rfl) (by kernel_rfl) hib0 hib1 (K' := [(13, pt g1_ (o1_ + (x3).toNat * 3)), (12, .bool (decide (x3 < (a0.length : Int)))), (1, .func (.func 31) #[] #[]), (5, .map (some nx0)), (9, .slice Aa0 a0.length ca0), (10, i6 (a0.length : Int)), (11, i6 x3)]) (by kernel_rfl) ?_
    refine RL.simP (K' := [(7, pt nx4 0), (1, .func (.func 31) #[] #[]), (5, .map (some nx0)), (9, .slice Aa0 a0.length ca0), (10, i6 (a0.length : Int)), (11, i6 x3)]) (nx' := nx4 + 1) (L' := [⟨nx4, [i6 ((a0.getD (x3).toNat z48).f0), i6 ((a0.getD (x3).toNat z48).f1), i6 ((a0.getD (x3).toNat z48).f2)], 48⟩]) [(⟨g1_, o1_ + (x3).toNat * 3, none⟩, i6 ((a0.getD (x3).toNat z48).f0)), (⟨g1_, o1_ + (x3).toNat * 3 + 1, none⟩, i6 ((a0.getD (x3).toNat z48).f1)), (⟨g1_, o1_ + (x3).toNat * 3 + 2, none⟩, i6 ((a0.getD (x3).toNat z48).f2))] (RFacts.imm (hc1_ 0 _ rfl) (RFacts.imm (hc1_ 1 _ rfl) (RFacts.imm (hc1_ 2 _ rfl) (RFacts.nil _ _ _)))) 3 [.r 0, .no, .l 0] (by kernel_rfl) (by kernel_rfl) ?_
    refine RL.nt ?_
    refine OK.rg ?_
    refine RL.simK (K' := [(17, .agg #[i6 ((a0.getD (x3).toNat z48).f0), i6 ((a0.getD (x3).toNat z48).f1), i6 ((a0.getD (x3).toNat z48).f2)]), (16, .func (.func 31) #[] #[]), (15, .map (some nx0)), (1, .func (.func 31) #[] #[]), (5, .map (some nx0)), (9, .slice Aa0 a0.length ca0), (10, i6 (a0.length : Int)), (11, i6 x3)]) [] (RFacts.nil _ _ _) 3 [.no, .no, .l 0] (by kernel_rfl) (by kernel_rfl) ?_
    obtain ⟨t1, hA1, H⟩ := bnd H
    refine RL.callP 31 [.agg #[i6 ((a0.getD (x3).toNat z48).f0), i6 ((a0.getD (x3).toNat z48).f1), i6 ((a0.getD (x3).toNat z48).f2)]] (some 18) (fun w => auction_slot.Post I2 w t1) (by kernel_rfl) (by kernel_rfl) (fun w hs => auction_slot.calls I2 (a0.getD (x3).toNat z48) w hs.im  t1 hA1) ?_
    rintro w v w' hs ⟨I3, rfl, hg⟩
    have hi3 := hg.le
    refine RL.resume (X' := [mres (Value.int .i64) Value.bool nx0 x2]) rfl (hs.call hg) ?_
    clear hs hg
    generalize w'.heap.size = nx5
    clear w w'
    refine RL.putM mt76 t1 true 0 (g := nx0) (l := x2) (by kernel_rfl) (by kernel_rfl) (by kernel_rfl) ?_
    refine RL.norm (K' := [(18, i6 t1), (17, .agg #[i6 ((a0.getD (x3).toNat z48).f0), i6 ((a0.getD (x3).toNat z48).f1), i6 ((a0.getD (x3).toNat z48).f2)]), (16, .func (.func 31) #[] #[]), (15, .map (some nx0)), (1, .func (.func 31) #[] #[]), (5, .map (some nx0)), (9, .slice Aa0 a0.length ca0), (10, i6 (a0.length : Int)), (11, i6 x3)]) (X' := [mres (Value.int .i64) Value.bool nx0 (mput x2 t1 true)]) rfl rfl rfl rfl ?_
    refine RL.nil (by kernel_rfl) ?_
    refine QN.sub (K' := [(1, .func (.func 31) #[] #[]), (5, .map (some nx0)), (9, .slice Aa0 a0.length ca0), (10, i6 (a0.length : Int)), (11, i6 x3)]) (L' := [⟨nx4, [i6 ((a0.getD (x3).toNat z48).f0), i6 ((a0.getD (x3).toNat z48).f1), i6 ((a0.getD (x3).toNat z48).f2)], 48⟩]) (by kernel_rfl) (.cons_cons _ .slnil) (.refl _) ?_
    refine QN.blkN ?_
    refine QN.then_ ?_
    refine OK.rg ?_
    refine RL.s 2 [(11, i6 (W .i64 (x3 + 1))), (1, .func (.func 31) #[] #[]), (5, .map (some nx0)), (9, .slice Aa0 a0.length ca0), (10, i6 (a0.length : Int))] ?_
    refine RL.nil (by kernel_rfl) ?_
    exact QN.sb (hJ2 _ _ _ _ _ ⟨(mput x2 t1 true), W .i64 (x3 + 1), rfl, rfl, rfl, (Imm.le_trans hi2 hi3), H⟩) (.cons _ .slnil) (.refl _)
   ·skip
    have hc := (of_decide_eq_false hb)
    rw [if_neg hc] at H
    clear hb
    refine OK.ex 0 ?_
    refine QN.thenE ?_
    refine QN.outE hQ2 ?_
    refine QN.blkE ?_
    obtain rfl := Option.some.inj H
    exact QN.sb (hJ1 _ _ _ _ _ ⟨x2, rfl, rfl, rfl, hi2, HK1⟩) .slnil (.refl _)

end Go.Proofs.Ytihmbmeelheinaa
namespace Go.Proofs.Ytihmbmeelheinaa
open Go Go.Proofs.Ytihmbmeelheinaa.RW
set_option linter.unusedVariables false
set_option maxRecDepth 100000
set_option maxHeartbeats 8000000

/-! ### auction_Valid: function 12, armillary/auction.Valid -/
noncomputable def K12_0 : Code := cBody Try.f12
def auction_Valid.k1  (x2 : Bool) : Option (Bool) := (some x2)
def auction_Valid.k2 (k : Nat) (a0 : List S48) : (Unit) ⊕ (Bool) → Option (Bool)
 | .inl () => (((auction_distincts0.f k a0).bind fun t1 => (if (t1.length : Int) ≤ 12 then ((auction_distincts1.f k a0).bind fun t2 => (some (decide ((t2.length : Int) ≤ 12)))) else (some false))).bind (auction_Valid.k1))
 | .inr r_ => some r_
def auction_Valid.k4  (x4 : Bool) : Option ((Unit) ⊕ (Bool)) := (if x4 = true then (some (Sum.inr false)) else (some (Sum.inl ())))
def auction_Valid.k5 (a0 : List S48) (x3 : Int) : (Unit) ⊕ (Bool) → Option ((Unit) ⊕ (Bool))
 | .inl () => ((if ((a0.getD (x3).toNat z48).f2) < 1 then (some true) else (some (decide (((a0.getD (x3).toNat z48).f2) > 1073741824)))).bind (auction_Valid.k4))
 | .inr r_ => some (Sum.inr r_)
def auction_Valid.l2 (a0 : List S48) (x3 : Int) : Nat → Int → Option ((Unit) ⊕ (Bool))
 | 0, _ => none
 | k + 1, x5 => (if x5 < 2 then (if 0 ≤ x5 then (if x5 < (2 : Int) then ((if ([(a0.getD (x3).toNat z48).f0, (a0.getD (x3).toNat z48).f1].getD ((x5).toNat) 0) < 0 then (some true) else (some (decide (([(a0.getD (x3).toNat z48).f0, (a0.getD (x3).toNat z48).f1].getD ((x5).toNat) 0) > 1000)))).bind (fun x6 => (if x6 = true then (some (Sum.inr false)) else (auction_Valid.l2 a0 x3 k (W .i64 (x5 + 1)))))) else none) else none) else (some (Sum.inl ())))
def auction_Valid.l1 (a0 : List S48) : Nat → Int → Option ((Unit) ⊕ (Bool))
 | 0, _ => none
 | k + 1, x3 => (if x3 < (a0.length : Int) then ((if 0 ≤ x3 then (if x3 < (a0.length : Int) then ((auction_Valid.l2 a0 x3 k 0).bind (auction_Valid.k5 a0 x3)) else none) else none).bind (fun s_ => match s_ with | .inl _ => (auction_Valid.l1 a0 k (W .i64 (x3 + 1))) | .inr r_ => some (Sum.inr r_))) else (some (Sum.inl ())))
def auction_Valid.k7 (k : Nat) (a0 : List S48) (x1 : Bool) : Option (Bool) := (if x1 = true then (some false) else ((auction_Valid.l1 a0 k 0).bind (auction_Valid.k2 k a0)))
def auction_Valid.f (k : Nat) (a0 : List S48) : Option (Bool) := ((if (a0.length : Int) > 64 then (some true) else ((auction_values.f k a0).bind fun t3 => (some ((t3.length : Int) != (a0.length : Int))))).bind (auction_Valid.k7 k a0))
def auction_Valid.Post (I : Imm) (w : World) (r : Bool) (v : Value) (w' : World) : Prop :=
 ∃ (J : Imm), v = .bool r ∧ Got w w' I J []
theorem auction_Valid.calls (k : Nat) (I0 : Imm) (a0 : List S48) (Ap0 : Option Addr) (cp0 : Nat) (w : World) (hI : I0.at_ w) (hlp0 : a0.length ≤ cp0) (hrp0 : Rd t48 I0 Ap0 a0) (r : Bool) (h : auction_Valid.f k a0 = some r) :
  Calls Try.prog 12 [.slice Ap0 a0.length cp0].toArray w fun e w' => ∃ v, e = .returned v ∧ auction_Valid.Post I0 w r v w' := by
 have H : ((if (a0.length : Int) > 64 then (some true) else ((auction_values.f k a0).bind fun t3 => (some ((t3.length : Int) != (a0.length : Int))))).bind (auction_Valid.k7 k a0)) = some r := h
 clear h
 refine calls_body Try.func12 (by kernel_rfl) 58 (by kernel_rfl) (by kernel_rfl) ⟨w, fun _ => False, I0⟩ I0 [] [(0, .slice Ap0 a0.length cp0)] (by kernel_rfl) (Sat.start w _ I0 hI) ?_
 generalize w.heap.size = nx0
 show OK _ K12_0 _ _ _ _ _ _ _ _
 refine OK.sr ?_
 refine RL.st 1 [(0, .slice Ap0 a0.length cp0)] ?_
 refine OK.sq ?_
 refine OK.sq ?_
 refine OK.join (fun K' I' _ L' X' => ∃ (x1 : Bool), K' = [(0, .slice Ap0 a0.length cp0), (17, .bool x1)] ∧ L' = [] ∧ X' = [] ∧ Imm.le I0 I' ∧ auction_Valid.k7 k a0 x1 = some r) ?_ ?_
 ·rintro _ I1 nx1 _ _ ⟨x1, rfl, rfl, rfl, hi1, H⟩
  rw [auction_Valid.k7] at H
  refine QN.then_ ?_
  refine OK.cd x1 (fun hb => ?_) (fun hb => ?_)
  ·skip
   have hc := hb
   rw [if_pos hc] at H
   clear hb
   refine OK.sr ?_
   refine RL.st 1 [(2, .bool false)] ?_
   refine OK.re ?_
   refine QN.thenR ?_
   obtain rfl := Option.some.inj H
   refine QN.body rfl [] (RFacts.nil _ _ _) (.no) (.bool false) (by kernel_rfl) (by kernel_rfl) (by kernel_rfl) ?_ _ (.inr rfl)
   exact fun w' hs' => ⟨_, rfl, I1, rfl, hs'.got _ .slnil⟩
  ·skip
   have hc := (Bool.eq_false_iff.1 hb)
   rw [if_neg hc] at H
   clear hb
   refine OK.skt ?_
   refine OK.sq ?_
   refine OK.sr ?_
   refine RL.st 3 [(20, i6 0), (19, i6 (a0.length : Int)), (18, .slice Ap0 a0.length cp0), (0, .slice Ap0 a0.length cp0)] ?_
   refine OK.join (fun K' I' _ L' X' => K' = [(0, .slice Ap0 a0.length cp0)] ∧ L' = [] ∧ X' = [] ∧ Imm.le I1 I' ∧ auction_Valid.k2 k a0 (Sum.inl ()) = some r) ?_ ?_
   ·rintro _ I2 nx2 _ _ ⟨rfl, rfl, rfl, hi2, H⟩
    rw [auction_Valid.k2] at H
    refine QN.then_ ?_
    refine OK.sq ?_
    refine OK.join (fun K' I' _ L' X' => ∃ (x2 : Bool), K' = [(2, .bool x2)] ∧ L' = [] ∧ X' = [] ∧ Imm.le I2 I' ∧ auction_Valid.k1 x2 = some r) ?_ ?_
    ·rintro _ I3 nx3 _ _ ⟨x2, rfl, rfl, rfl, hi3, H⟩
     rw [auction_Valid.k1] at H
     refine QN.then_ ?_
     refine OK.re ?_
     obtain rfl := Option.some.inj H
     refine QN.body rfl [] (RFacts.nil _ _ _) (.no) (.bool x2) (by kernel_rfl) (by kernel_rfl) (by kernel_rfl) ?_ _ (.inr rfl)
     exact fun w' hs' => ⟨_, rfl, I3, rfl, hs'.got _ .slnil⟩
    ·intro Q_1 hJ3 hQ3
     obtain ⟨y3, H, HK3⟩ := bnd H
     refine OK.rg ?_
     refine RL.s 1 [(48, .slice Ap0 a0.length cp0), (0, .slice Ap0 a0.length cp0)] ?_
     obtain ⟨t1, hA1, H⟩ := bnd H
     refine RL.callM (L1 := []) (L2 := []) (X1 := []) (X2 := []) rfl rfl 29 [.slice Ap0 a0.length cp0, .func (.func 30) #[] #[]] (some 49) (fun w => auction_distincts0.Post (SM [] []) a0 Ap0 cp0 I2 w t1) (by kernel_rfl) (by kernel_rfl) (fun w hs => auction_distincts0.calls k I2 a0 Ap0 cp0 w hs hlp0 (Rd.ext (Imm.le_trans hi1 hi2) hrp0) t1 hA1) ?_
     rintro w v w' hs ⟨I4, A1, c1, cs1, rfl, hg, hp1⟩
     have hi4 : Imm.le I2 I4 := hg.le
     refine RL.resume (L' := []) (X' := [orow 3 1 A1 t1.length c1 cs1]) rfl (hs.outof hg) ?_
     clear hs hg
     generalize w'.heap.size = nx4
     clear w w'
     refine RL.s 3 [(52, .bool (decide ((t1.length : Int) ≤ 12))), (0, .slice Ap0 a0.length cp0)] ?_
     refine RL.cases (decide ((t1.length : Int) ≤ 12)) (fun hb => ?_) (fun hb => ?_)
     ·have hc := (of_decide_eq_true hb)
      rw [hb]
      rw [if_pos hc] at H; clear hb
      refine RL.s 1 [(53, .slice Ap0 a0.length cp0), (52, .bool true)] ?_
      obtain ⟨t2, hA2, H⟩ := bnd H
      refine RL.callM (L1 := []) (L2 := []) (X1 := []) (X2 := [orow 3 1 A1 t1.length c1 cs1]) rfl rfl 29 [.slice Ap0 a0.length cp0, .func (.func 31) #[] #[]] (some 54) (fun w => auction_distincts1.Post (SM [] []) a0 Ap0 cp0 I4 w t2) (by kernel_rfl) (by kernel_rfl) (fun w hs => auction_distincts1.calls k I4 a0 Ap0 cp0 w hs hlp0 (Rd.ext (Imm.le_trans (Imm.le_trans hi1 hi2) hi4) hrp0) t2 hA2) ?_
      rintro w v w' hs ⟨I5, A2, c2, cs2, rfl, hg, hp2⟩
      have hi5 : Imm.le I4 I5 := hg.le
      refine RL.resume (L' := []) (X' := [orow 3 1 A2 t2.length c2 cs2, orow 3 1 A1 t1.length c1 cs1]) rfl (hs.outof hg) ?_
      clear hs hg
      generalize w'.heap.size = nx5
      clear w w'
      refine RL.s 4 [(2, .bool (decide ((t2.length : Int) ≤ 12)))] ?_
      refine RL.nil (by kernel_rfl) ?_
      obtain rfl := Option.some.inj H
      refine QN.sel (K' := [(2, .bool (decide ((t2.length : Int) ≤ 12)))]) (L' := []) [] (by kernel_rfl) (by kernel_rfl) .slnil ?_
      refine QN.norm (X' := []) rfl rfl rfl (by kernel_rfl) ?_
      exact hJ3 _ _ _ _ _ ⟨(decide ((t2.length : Int) ≤ 12)), rfl, rfl, rfl, (Imm.le_trans hi4 hi5), HK3⟩
     ·have hc := (of_decide_eq_false hb)
      rw [hb]
      rw [if_neg hc] at H; clear hb
      refine RL.s 6 [(2, .bool false)] ?_
      refine RL.nil (by kernel_rfl) ?_
      obtain rfl := Option.some.inj H
      refine QN.sel (K' := [(2, .bool false)]) (L' := []) [] (by kernel_rfl) (by kernel_rfl) .slnil ?_
      refine QN.norm (X' := []) rfl rfl rfl (by kernel_rfl) ?_
      exact hJ3 _ _ _ _ _ ⟨false, rfl, rfl, rfl, hi4, HK3⟩
   ·intro Q_2 hJ2 hQ2
    obtain ⟨y2, H, HK2⟩ := bnd H
    refine OK.bk 0 ?_
    refine OK.sub (K' := [(0, .slice Ap0 a0.length cp0), (18, .slice Ap0 a0.length cp0), (19, i6 (a0.length : Int)), (20, i6 0)]) (L' := []) (by kernel_rfl) .slnil (.refl _) ?_
    refine OK.lp (fun n_ K' I' _ L' X' => ∃ (x3 : Int), K' = [(0, .slice Ap0 a0.length cp0), (18, .slice Ap0 a0.length cp0), (19, i6 (a0.length : Int)), (20, i6 x3)] ∧ L' = [] ∧ X' = [] ∧ Imm.le I1 I' ∧ auction_Valid.l1 a0 n_ x3 = some y2) k ⟨0, rfl, rfl, rfl, (Imm.le_refl _), H⟩ ?_ ?_
    ·rintro _ _ _ _ _ ⟨x3, rfl, rfl, rfl, _, H⟩
     cases H
    ·rintro kq1 _ I6 nx6 _ _ ⟨x3, rfl, rfl, rfl, hi6, H⟩ Q_l1 hJ4 hQ4
     rw [auction_Valid.l1] at H
     refine OK.sr ?_
     refine RL.st 1 [(21, .bool (decide (x3 < (a0.length : Int)))), (0, .slice Ap0 a0.length cp0), (18, .slice Ap0 a0.length cp0), (19, i6 (a0.length : Int)), (20, i6 x3)] ?_
     refine OK.sq ?_
     refine OK.cd (decide (x3 < (a0.length : Int))) (fun hb => ?_) (fun hb => ?_)
     ·skip
      have hc := (of_decide_eq_true hb)
      rw [if_pos hc] at H
      clear hb
      refine OK.skt ?_
      refine OK.sq ?_
      refine OK.join (fun K' I' _ L' X' => K' = [(0, .slice Ap0 a0.length cp0), (18, .slice Ap0 a0.length cp0), (19, i6 (a0.length : Int)), (20, i6 x3)] ∧ L' = [] ∧ X' = [] ∧ Imm.le I6 I' ∧ (auction_Valid.l1 a0 kq1 (W .i64 (x3 + 1))) = some y2) ?_ ?_
      ·rintro _ I7 nx7 _ _ ⟨rfl, rfl, rfl, hi7, H⟩
       replace H : (auction_Valid.l1 a0 kq1 (W .i64 (x3 + 1))) = some y2 := H
       refine QN.then_ ?_
       refine OK.rg ?_
       refine RL.s 2 [(20, i6 (W .i64 (x3 + 1))), (0, .slice Ap0 a0.length cp0), (18, .slice Ap0 a0.length cp0), (19, i6 (a0.length : Int))] ?_
       refine RL.nil (by kernel_rfl) ?_
       exact QN.sb (hJ4 _ _ _ _ _ ⟨W .i64 (x3 + 1), rfl, rfl, rfl, (Imm.le_trans hi6 hi7), H⟩) .slnil (.refl _)
      ·intro Q_3 hJ5 hQ5
       obtain ⟨y4, H, HK4⟩ := bnd H
       refine OK.bk 1 ?_
       refine OK.sr ?_
       obtain ⟨hib0, H⟩ := ifs H
       obtain ⟨hib1, H⟩ := ifs H
       obtain ⟨g1_, o1_, hA1_, hc1_⟩ := t48_at (Rd.ext (Imm.le_trans hi1 hi6) hrp0) x3 hib0 hib1
       refine RL.idx 3 .i64 x3 hA1_ a0.length cp0 (some 22) (by kernel_rfl) (by kernel_rfl) (T := 22) (e := 48) (by kernel_rfl) (by kernel_rfl) hib0 hib1 (K' := [(22, pt g1_ (o1_ + (x3).toNat * 3)), (21, .bool (decide (x3 < (a0.length : Int)))), (0, .slice Ap0 a0.length cp0), (18, .slice Ap0 a0.length cp0), (19, i6 (a0.length : Int)), (20, i6 x3)]) (by kernel_rfl) ?_
       refine RL.simP (K' := [(4, pt nx6 0), (0, .slice Ap0 a0.length cp0), (18, .slice Ap0 a0.length cp0), (19, i6 (a0.length : Int)), (20, i6 x3)]) (nx' := nx6 + 1) (L' := [⟨nx6, [i6 ((a0.getD (x3).toNat z48).f0), i6 ((a0.getD (x3).toNat z48).f1), i6 ((a0.getD (x3).toNat z48).f2)], 48⟩]) [(⟨g1_, o1_ + (x3).toNat * 3, none⟩, i6 ((a0.getD (x3).toNat z48).f0)), (⟨g1_, o1_ + (x3).toNat * 3 + 1, none⟩, i6 ((a0.getD (x3).toNat z48).f1)), (⟨g1_, o1_ + (x3).toNat * 3 + 2, none⟩, i6 ((a0.getD (x3).toNat z48).f2))] (RFacts.imm (hc1_ 0 _ rfl) (RFacts.imm (hc1_ 1 _ rfl) (RFacts.imm (hc1_ 2 _ rfl) (RFacts.nil _ _ _)))) 3 [.r 0, .no, .l 0] (by kernel_rfl) (by kernel_rfl) ?_
       refine RL.nt ?_
       refine OK.sq ?_
       refine OK.sr ?_
       refine RL.simK (K' := [(29, i6 0), (28, .agg #[i6 ((a0.getD (x3).toNat z48).f0), i6 ((a0.getD (x3).toNat z48).f1)]), (4, pt nx6 0), (0, .slice Ap0 a0.length cp0), (18, .slice Ap0 a0.length cp0), (19, i6 (a0.length : Int)), (20, i6 x3)]) [] (RFacts.nil _ _ _) 6 [.no, .l 0, .no, .l 0, .no, .no] (by kernel_rfl) (by kernel_rfl) ?_
       refine RL.nt ?_
       refine OK.join (fun K' I' _ L' X' => K' = [(0, .slice Ap0 a0.length cp0), (4, pt nx6 0), (18, .slice Ap0 a0.length cp0), (19, i6 (a0.length : Int)), (20, i6 x3)] ∧ L' = [⟨nx6, [i6 ((a0.getD (x3).toNat z48).f0), i6 ((a0.getD (x3).toNat z48).f1), i6 ((a0.getD (x3).toNat z48).f2)], 48⟩] ∧ X' = [] ∧ Imm.le I6 I' ∧ auction_Valid.k5 a0 x3 (Sum.inl ()) = some y4) ?_ ?_
       ·rintro _ I8 nx8 _ _ ⟨rfl, rfl, rfl, hi8, H⟩
        rw [auction_Valid.k5] at H
        refine QN.then_ ?_
        refine OK.sq ?_
        refine OK.join (fun K' I' _ L' X' => ∃ (x4 : Bool), K' = [(0, .slice Ap0 a0.length cp0), (18, .slice Ap0 a0.length cp0), (19, i6 (a0.length : Int)), (20, i6 x3), (46, .bool x4)] ∧ L' = [⟨nx6, [i6 ((a0.getD (x3).toNat z48).f0), i6 ((a0.getD (x3).toNat z48).f1), i6 ((a0.getD (x3).toNat z48).f2)], 48⟩] ∧ X' = [] ∧ Imm.le I8 I' ∧ auction_Valid.k4 x4 = some y4) ?_ ?_
        ·rintro _ I9 nx9 _ _ ⟨x4, rfl, rfl, rfl, hi9, H⟩
         rw [auction_Valid.k4] at H
         refine QN.then_ ?_
         refine OK.cd x4 (fun hb => ?_) (fun hb => ?_)
         ·skip
          have hc := hb
          rw [if_pos hc] at H
          clear hb
          refine OK.sr ?_
          refine RL.st 1 [(2, .bool false)] ?_
          refine OK.re ?_
          refine QN.blkR ?_
          refine QN.outR hQ5 ?_
          refine QN.thenR ?_
          refine QN.outR hQ4 ?_
          refine QN.blkR ?_
          refine QN.outR hQ2 ?_
          refine QN.thenR ?_
          obtain rfl := Option.some.inj H
          replace H : some (Sum.inr false) = some y2 := HK4
          obtain rfl := Option.some.inj H
          replace H : some false = some r := HK2
          obtain rfl := Option.some.inj H
          refine QN.body rfl [] (RFacts.nil _ _ _) (.no) (.bool false) (by kernel_rfl) (by kernel_rfl) (by kernel_rfl) ?_ _ (.inr rfl)
          exact fun w' hs' => ⟨_, rfl, I9, rfl, hs'.got _ .slnil⟩
         ·skip
          have hc := (Bool.eq_false_iff.1 hb)
          rw [if_neg hc] at H
          clear hb
          refine OK.sk ?_
          refine QN.blkN ?_
          obtain rfl := Option.some.inj H
          exact QN.sb (hJ5 _ _ _ _ _ ⟨rfl, rfl, rfl, (Imm.le_trans hi8 hi9), HK4⟩) (.cons _ .slnil) (.refl _)
        ·intro Q_4 hJ7 hQ7
         obtain ⟨y6, H, HK6⟩ := bnd H
         refine OK.rg ?_
         refine RL.simK (K' := [(42, .bool (decide (((a0.getD (x3).toNat z48).f2) < 1))), (0, .slice Ap0 a0.length cp0), (4, pt nx6 0), (18, .slice Ap0 a0.length cp0), (19, i6 (a0.length : Int)), (20, i6 x3)]) [] (RFacts.nil _ _ _) 4 [.no, .l 0, .no, .no] (by kernel_rfl) (by kernel_rfl) ?_
         refine RL.cases (decide (((a0.getD (x3).toNat z48).f2) < 1)) (fun hb => ?_) (fun hb => ?_)
         ·have hc := (of_decide_eq_true hb)
          rw [hb]
          rw [if_pos hc] at H; clear hb
          refine RL.s 4 [(46, .bool true), (0, .slice Ap0 a0.length cp0), (18, .slice Ap0 a0.length cp0), (19, i6 (a0.length : Int)), (20, i6 x3)] ?_
          refine RL.nil (by kernel_rfl) ?_
          obtain rfl := Option.some.inj H
          exact QN.sb (hJ7 _ _ _ _ _ ⟨true, rfl, rfl, rfl, (Imm.le_refl _), HK6⟩) (.cons_cons _ .slnil) (.refl _)
         ·have hc := (of_decide_eq_false hb)
          rw [hb]
          rw [if_neg hc] at H; clear hb
          refine RL.simK (K' := [(46, .bool (decide (((a0.getD (x3).toNat z48).f2) > 1073741824))), (0, .slice Ap0 a0.length cp0), (18, .slice Ap0 a0.length cp0), (19, i6 (a0.length : Int)), (20, i6 x3)]) [] (RFacts.nil _ _ _) 4 [.no, .l 0, .no, .no] (by kernel_rfl) (by kernel_rfl) ?_
          refine RL.nil (by kernel_rfl) ?_
          obtain rfl := Option.some.inj H
          exact QN.sb (hJ7 _ _ _ _ _ ⟨(decide (((a0.getD (x3).toNat z48).f2) > 1073741824)), rfl, rfl, rfl, (Imm.le_refl _), HK6⟩) (.cons_cons _ .slnil) (.refl _)
       ·intro Q_5 hJ6 hQ6
        obtain ⟨y5, H, HK5⟩ := bnd H
        refine OK.bk 2 ?_
        refine OK.sub (K' := [(0, .slice Ap0 a0.length cp0), (4, pt nx6 0), (18, .slice Ap0 a0.length cp0), (19, i6 (a0.length : Int)), (20, i6 x3), (28, .agg #[i6 ((a0.getD (x3).toNat z48).f0), i6 ((a0.getD (x3).toNat z48).f1)]), (29, i6 0)]) (L' := [⟨nx6, [i6 ((a0.getD (x3).toNat z48).f0), i6 ((a0.getD (x3).toNat z48).f1), i6 ((a0.getD (x3).toNat z48).f2)], 48⟩]) (by kernel_rfl) (.cons_cons _ .slnil) (.refl _) ?_
        refine OK.lp (fun n_ K' I' _ L' X' => ∃ (x5 : Int), K' = [(0, .slice Ap0 a0.length cp0), (4, pt nx6 0), (18, .slice Ap0 a0.length cp0), (19, i6 (a0.length : Int)), (20, i6 x3), (28, .agg #[i6 ((a0.getD (x3).toNat z48).f0), i6 ((a0.getD (x3).toNat z48).f1)]), (29, i6 x5)] ∧ L' = [⟨nx6, [i6 ((a0.getD (x3).toNat z48).f0), i6 ((a0.getD (x3).toNat z48).f1), i6 ((a0.getD (x3).toNat z48).f2)], 48⟩] ∧ X' = [] ∧ Imm.le I6 I' ∧ auction_Valid.l2 a0 x3 n_ x5 = some y5) kq1 ⟨0, rfl, rfl, rfl, (Imm.le_refl _), H⟩ ?_ ?_
        ·rintro _ _ _ _ _ ⟨x5, rfl, rfl, rfl, _, H⟩
         cases H
        ·rintro kq2 _ I10 nx10 _ _ ⟨x5, rfl, rfl, rfl, hi10, H⟩ Q_l2 hJ8 hQ8
         rw [auction_Valid.l2] at H
         refine OK.sr ?_
         refine RL.st 1 [(30, .bool (decide (x5 < 2))), (0, .slice Ap0 a0.length cp0), (4, pt nx6 0), (18, .slice Ap0 a0.length cp0), (19, i6 (a0.length : Int)), (20, i6 x3), (28, .agg #[i6 ((a0.getD (x3).toNat z48).f0), i6 ((a0.getD (x3).toNat z48).f1)]), (29, i6 x5)] ?_
         refine OK.sq ?_
         refine OK.cd (decide (x5 < 2)) (fun hb => ?_) (fun hb => ?_)
         ·skip
          have hc := (of_decide_eq_true hb)
          rw [if_pos hc] at H
          clear hb
          refine OK.skt ?_
          refine OK.sq ?_
          refine OK.bk 3 ?_
          refine OK.sr ?_
          obtain ⟨hib0, H⟩ := ifs H
          obtain ⟨hib1, H⟩ := ifs H
          refine RL.idxAgg (T := 56) (e := 3) (cs := (arrV (Value.int .i64) 0 2 [(a0.getD (x3).toNat z48).f0, (a0.getD (x3).toNat z48).f1]).toArray) (Value.int .i64) 0 2 2 [(a0.getD (x3).toNat z48).f0, (a0.getD (x3).toNat z48).f1] .i64 x5 (some 31) (by kernel_rfl) (by kernel_rfl) (by kernel_rfl) (by kernel_rfl) rfl (by kernel_rfl) (by kernel_rfl) hib0 hib1 (K' := [(31, i6 ([(a0.getD (x3).toNat z48).f0, (a0.getD (x3).toNat z48).f1].getD ((x5).toNat) 0)), (30, .bool (decide (x5 < 2))), (0, .slice Ap0 a0.length cp0), (4, pt nx6 0), (18, .slice Ap0 a0.length cp0), (19, i6 (a0.length : Int)), (20, i6 x3), (28, .agg #[i6 ((a0.getD (x3).toNat z48).f0), i6 ((a0.getD (x3).toNat z48).f1)]), (29, i6 x5)]) (by kernel_rfl) ?_
          refine RL.st 1 [(6, i6 ([(a0.getD (x3).toNat z48).f0, (a0.getD (x3).toNat z48).f1].getD ((x5).toNat) 0)), (0, .slice Ap0 a0.length cp0), (4, pt nx6 0), (18, .slice Ap0 a0.length cp0), (19, i6 (a0.length : Int)), (20, i6 x3), (28, .agg #[i6 ((a0.getD (x3).toNat z48).f0), i6 ((a0.getD (x3).toNat z48).f1)]), (29, i6 x5)] ?_
          refine OK.sq ?_
          refine OK.join (fun K' I' _ L' X' => ∃ (x6 : Bool), K' = [(0, .slice Ap0 a0.length cp0), (4, pt nx6 0), (18, .slice Ap0 a0.length cp0), (19, i6 (a0.length : Int)), (20, i6 x3), (28, .agg #[i6 ((a0.getD (x3).toNat z48).f0), i6 ((a0.getD (x3).toNat z48).f1)]), (29, i6 x5), (37, .bool x6)] ∧ L' = [⟨nx6, [i6 ((a0.getD (x3).toNat z48).f0), i6 ((a0.getD (x3).toNat z48).f1), i6 ((a0.getD (x3).toNat z48).f2)], 48⟩] ∧ X' = [] ∧ Imm.le I10 I' ∧ (if x6 = true then (some (Sum.inr false)) else (auction_Valid.l2 a0 x3 kq2 (W .i64 (x5 + 1)))) = some y5) ?_ ?_
          ·rintro _ I11 nx11 _ _ ⟨x6, rfl, rfl, rfl, hi11, H⟩
           replace H : (if x6 = true then (some (Sum.inr false)) else (auction_Valid.l2 a0 x3 kq2 (W .i64 (x5 + 1)))) = some y5 := H
           refine QN.then_ ?_
           refine OK.cd x6 (fun hb => ?_) (fun hb => ?_)
           ·skip
            have hc := hb
            rw [if_pos hc] at H
            clear hb
            refine OK.sr ?_
            refine RL.st 1 [(2, .bool false)] ?_
            refine OK.re ?_
            refine QN.blkR ?_
            refine QN.thenR ?_
            refine QN.outR hQ8 ?_
            refine QN.blkR ?_
            refine QN.outR hQ6 ?_
            refine QN.thenR ?_
            refine QN.blkR ?_
            refine QN.outR hQ5 ?_
            refine QN.thenR ?_
            refine QN.outR hQ4 ?_
            refine QN.blkR ?_
            refine QN.outR hQ2 ?_
            refine QN.thenR ?_
            obtain rfl := Option.some.inj H
            replace H : some (Sum.inr false) = some y4 := HK5
            obtain rfl := Option.some.inj H
            replace H : some (Sum.inr false) = some y2 := HK4
            obtain rfl := Option.some.inj H
            replace H : some false = some r := HK2
            obtain rfl := Option.some.inj H
            refine QN.body rfl [] (RFacts.nil _ _ _) (.no) (.bool false) (by kernel_rfl) (by kernel_rfl) (by kernel_rfl) ?_ _ (.inr rfl)
            exact fun w' hs' => ⟨_, rfl, I11, rfl, hs'.got _ .slnil⟩
           ·skip
            have hc := (Bool.eq_false_iff.1 hb)
            rw [if_neg hc] at H
            clear hb
            refine OK.sk ?_
            refine QN.blkN ?_
            refine QN.then_ ?_
            refine OK.rg ?_
            refine RL.s 2 [(29, i6 (W .i64 (x5 + 1))), (0, .slice Ap0 a0.length cp0), (4, pt nx6 0), (18, .slice Ap0 a0.length cp0), (19, i6 (a0.length : Int)), (20, i6 x3), (28, .agg #[i6 ((a0.getD (x3).toNat z48).f0), i6 ((a0.getD (x3).toNat z48).f1)])] ?_
            refine RL.nil (by kernel_rfl) ?_
            exact QN.sb (hJ8 _ _ _ _ _ ⟨W .i64 (x5 + 1), rfl, rfl, rfl, (Imm.le_trans hi10 hi11), H⟩) (.cons_cons _ .slnil) (.refl _)
          ·intro Q_6 hJ9 hQ9
           obtain ⟨y7, H, HK7⟩ := bnd H
           refine OK.rg ?_
           refine RL.s 3 [(34, .bool (decide (([(a0.getD (x3).toNat z48).f0, (a0.getD (x3).toNat z48).f1].getD ((x5).toNat) 0) < 0))), (6, i6 ([(a0.getD (x3).toNat z48).f0, (a0.getD (x3).toNat z48).f1].getD ((x5).toNat) 0)), (0, .slice Ap0 a0.length cp0), (4, pt nx6 0), (18, .slice Ap0 a0.length cp0), (19, i6 (a0.length : Int)), (20, i6 x3), (28, .agg #[i6 ((a0.getD (x3).toNat z48).f0), i6 ((a0.getD (x3).toNat z48).f1)]), (29, i6 x5)] ?_
           refine RL.cases (decide (([(a0.getD (x3).toNat z48).f0, (a0.getD (x3).toNat z48).f1].getD ((x5).toNat) 0) < 0)) (fun hb => ?_) (fun hb => ?_)
           ·have hc := (of_decide_eq_true hb)
            rw [hb]
            rw [if_pos hc] at H; clear hb
            refine RL.s 3 [(37, .bool true), (0, .slice Ap0 a0.length cp0), (4, pt nx6 0), (18, .slice Ap0 a0.length cp0), (19, i6 (a0.length : Int)), (20, i6 x3), (28, .agg #[i6 ((a0.getD (x3).toNat z48).f0), i6 ((a0.getD (x3).toNat z48).f1)]), (29, i6 x5)] ?_
            refine RL.nil (by kernel_rfl) ?_
            obtain rfl := Option.some.inj H
            exact QN.sb (hJ9 _ _ _ _ _ ⟨true, rfl, rfl, rfl, (Imm.le_refl _), HK7⟩) (.cons_cons _ .slnil) (.refl _)
           ·have hc := (of_decide_eq_false hb)
            rw [hb]
            rw [if_neg hc] at H; clear hb
            refine RL.s 3 [(37, .bool (decide (([(a0.getD (x3).toNat z48).f0, (a0.getD (x3).toNat z48).f1].getD ((x5).toNat) 0) > 1000))), (0, .slice Ap0 a0.length cp0), (4, pt nx6 0), (18, .slice Ap0 a0.length cp0), (19, i6 (a0.length : Int)), (20, i6 x3), (28, .agg #[i6 ((a0.getD (x3).toNat z48).f0), i6 ((a0.getD (x3).toNat z48).f1)]), (29, i6 x5)] ?_
            refine RL.nil (by kernel_rfl) ?_
            obtain rfl := Option.some.inj H
            exact QN.sb (hJ9 _ _ _ _ _ ⟨(decide (([(a0.getD (x3).toNat z48).f0, (a0.getD (x3).toNat z48).f1].getD ((x5).toNat) 0) > 1000)), rfl, rfl, rfl, (Imm.le_refl _), HK7⟩) (.cons_cons _ .slnil) (.refl _)
         ·skip
          have hc := (of_decide_eq_false hb)
          rw [if_neg hc] at H
          clear hb
          refine OK.ex 2 ?_
          refine QN.thenE ?_
          refine QN.outE hQ8 ?_
          refine QN.blkE ?_
          obtain rfl := Option.some.inj H
          exact QN.sb (hJ6 _ _ _ _ _ ⟨rfl, rfl, rfl, hi10, HK5⟩) (.cons_cons _ .slnil) (.refl _)
     ·skip
      have hc := (of_decide_eq_false hb)
      rw [if_neg hc] at H
      clear hb
      refine OK.ex 0 ?_
      refine QN.thenE ?_
      refine QN.outE hQ4 ?_
      refine QN.blkE ?_
      obtain rfl := Option.some.inj H
      exact QN.sb (hJ2 _ _ _ _ _ ⟨rfl, rfl, rfl, hi6, HK2⟩) .slnil (.refl _)
 ·intro Q_7 hJ1 hQ1
  obtain ⟨y1, H, HK1⟩ := bnd H
  refine OK.rg ?_
  refine RL.s 4 [(10, .bool (decide ((a0.length : Int) > 64))), (0, .slice Ap0 a0.length cp0)] ?_
  refine RL.cases (decide ((a0.length : Int) > 64)) (fun hb => ?_) (fun hb => ?_)
  ·have hc := (of_decide_eq_true hb)
   rw [hb]
   rw [if_pos hc] at H; clear hb
   refine RL.s 7 [(17, .bool true), (0, .slice Ap0 a0.length cp0)] ?_
   refine RL.nil (by kernel_rfl) ?_
   obtain rfl := Option.some.inj H
   exact QN.sb (hJ1 _ _ _ _ _ ⟨true, rfl, rfl, rfl, (Imm.le_refl _), HK1⟩) .slnil (.refl _)
  ·have hc := (of_decide_eq_false hb)
   rw [hb]
   rw [if_neg hc] at H; clear hb
   refine RL.s 1 [(11, .slice Ap0 a0.length cp0), (10, .bool false), (0, .slice Ap0 a0.length cp0)] ?_
   obtain ⟨t3, hA3, H⟩ := bnd H
   refine RL.callP 28 [.slice Ap0 a0.length cp0] (some 12) (fun w => auction_values.Post I0 w t3) (by kernel_rfl) (by kernel_rfl) (fun w hs => auction_values.calls k I0 a0 Ap0 cp0 w hs.im hlp0 hrp0 t3 hA3) ?_
   rintro w v w' hs ⟨I12, g1, rfl, hg, hm1⟩
   have hi12 := hg.le
   refine RL.resume (X' := []) rfl (hs.call hg) ?_
   clear hs hg
   generalize w'.heap.size = nx12
   clear w w'
   refine RL.lenF (ty := 3) (mt54).und (some 13) (by kernel_rfl) hm1 (by kernel_rfl) (K' := [(13, i6 (t3.length : Int)), (12, .map (some g1)), (11, .slice Ap0 a0.length cp0), (10, .bool false), (0, .slice Ap0 a0.length cp0)]) (by kernel_rfl) ?_
   refine RL.s 4 [(17, .bool ((t3.length : Int) != (a0.length : Int))), (0, .slice Ap0 a0.length cp0)] ?_
   refine RL.nil (by kernel_rfl) ?_
   obtain rfl := Option.some.inj H
   exact QN.sb (hJ1 _ _ _ _ _ ⟨((t3.length : Int) != (a0.length : Int)), rfl, rfl, rfl, hi12, HK1⟩) .slnil (.refl _)

end Go.Proofs.Ytihmbmeelheinaa
