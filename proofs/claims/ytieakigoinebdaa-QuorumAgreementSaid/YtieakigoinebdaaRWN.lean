/- A walk's own words, eleventh part: maps as pieces of memory; a round's frame; a loop over an iterator; a call of yield. -/
import Derived.Test.YtieakigoinebdaaRWM
namespace Go.Proofs.Ytieakigoinebdaa.RW
open Go Go.RowKit

/-- A map as a piece of memory. -/
def mres {α β : Type} (kE : α → Value) (vE : β → Value) (g : Nat) (l : List (α × β)) : Res where
  fp := fun k => k = g
  P := fun _ w => w.heap[g]? = some (.map (ents kE vE 0 l).toArray l.length)
  stable := fun _ w w' h hp => by rw [h g rfl]; exact hp
  ext := fun _ _ _ _ h => h

theorem Got.newRes {w : World} {I : Imm} (hI : I.at_ w) (o : Obj) (r : Res) (hfp : ∀ k, r.fp k → k = w.heap.size) (hP : r.P I (w.alloc o)) : Got w (w.alloc o) I I [r] := by
  have hold : ∀ k, k < w.heap.size → (w.alloc o).heap[k]? = w.heap[k]? := fun k hk => by
    show (w.heap.push o)[k]? = _
    rw [Array.getElem?_push, if_neg (by omega)]
  refine ⟨⟨rfl, rfl, rfl, by simp, fun k hk _ => hold k hk⟩, Imm.le_refl _, ?_, fun _ _ h => .inl h, ?_, ?_, List.pairwise_singleton _ _, ?_⟩
  · intro a v ha
    have hc := hI a v ha
    rw [← hc]
    exact look_of_block (w := w) (hold _ (look_lt hc))
  · intro q hq
    rw [List.mem_singleton.1 hq]
    exact hP
  · intro q hq k hk
    rw [List.mem_singleton.1 hq] at hk
    have := hfp k hk
    simp
    omega
  · intro a v ha q hq hk
    rw [List.mem_singleton.1 hq] at hk
    have h1 := hfp _ hk
    have := look_lt (hI a v ha)
    omega

section
variable {P : Program} {c : Code} {Q : Exit → Act → World → Prop} {A : Fr} {K : List (Nat × Value)} {B : Base} {I : Imm} {nx : Nat} {L : List Blk} {X : List Res} {os : List Oper} {p : Nat}
variable {T Kt Et : TypeId} {α β : Type} [DecidableEq α] {kE : α → Value} {vE : β → Value} {z : β}

omit [DecidableEq α] in
theorem Sat.putMap {w : World} (hs : Sat B I nx L X w) {m g : Nat} {l l' : List (α × β)} (hm : X[m]? = some (mres kE vE g l)) : Sat B I nx L (X.set m (mres kE vE g l')) (w.putObj g (.map (ents kE vE 0 l').toArray l'.length)) := by
  have hg : w.heap[g]? = some (.map (ents kE vE 0 l).toArray l.length) := hs.res _ (List.mem_of_getElem? hm)
  have hlt := (Array.getElem?_eq_some_iff.1 hg).1
  have := hs.replace hm (mres kE vE g l') (w' := w.putObj g (.map (ents kE vE 0 l').toArray l'.length)) rfl rfl rfl (by simp)
    (fun k _ hf => World.putObj_heap_other (fun e => hf e)) (World.putObj_heap_same hlt) (fun k hk => .inl hk) (fun k hk => by
      obtain rfl : k = g := hk
      simpa using hlt)
  simpa [hs.hnx] using this

omit [DecidableEq α] in
theorem RL.makeMap (kE : α → Value) (vE : β → Value) (d : Option Tmp) (hl : ready os p K d = true) (hx : execOp (evalK K) (os.getD p default) = toNext (Instr.makeMap T none))
    (k : RL P os Q (p + 1) A (putK A K d (.map (some nx))) B I (nx + 1) L (X ++ [mres kE vE nx []])) : RL P os Q p A K B I nx L X := by
  refine RL.one d (fun v w' => v = .map (some nx) ∧ Sat B I (nx + 1) L (X ++ [mres kE vE nx []]) w') hl (fun w hs => ?_) (fun v w' hN a' ha' => ?_)
  · refine ⟨.map (some nx), w.alloc (.map #[] 0), ?_, rfl, ?_⟩
    · rw [hx]
      have hr : (Instr.makeMap T none).run P w = .ok (.map (some w.heap.size)) (w.alloc (.map #[] 0)) := by
        simp [Instr.makeMap, Sem.run_bind, run_newObj_alloc]
      rw [hs.hnx] at hr
      exact run_toNext hr
    · have := hs.call (Got.newRes hs.im (.map #[] 0) (mres kE vE w.heap.size []) (fun k hk => hk) (World.alloc_heap_new w _))
      rw [World.size_alloc, hs.hnx] at this
      exact this
  · obtain ⟨rfl, hs⟩ := hN
    exact k a' w' ha' hs

theorem RL.lookM (hM : MT P T Kt Et kE vE z) (a : α) (ok : Bool) (m : Nat) {g : Nat} {l : List (α × β)} (d : Option Tmp) (hl : ready os p K d = true) (hm : X[m]? = some (mres kE vE g l))
    (hx : execOp (evalK K) (os.getD p default) = toNext (Instr.lookup T (.map (some g)) (kE a) ok)) {K' : List (Nat × Value)}
    (hF : putK A K d (if ok = true then .tuple #[vE ((mget l a).getD z), .bool (mget l a).isSome] else vE ((mget l a).getD z)) = K') (k : RL P os Q (p + 1) A K' B I nx L X) : RL P os Q p A K B I nx L X :=
  RL.quiet d _ hl hF (fun w hs => by rw [hx]; exact run_toNext (hM.lookup (q := 0) (by simp) (hs.res _ (List.mem_of_getElem? hm)) a ok)) k

/-- One operation that is done and tells nothing. -/
theorem RL.oneS (N : World → Prop) (hl : ready os p K none = true)
    (h : ∀ w, Sat B I nx L X w → ∃ w', (execOp (evalK K) (os.getD p default)).run P w = .ok .skip w' ∧ N w')
    (k : ∀ w', N w' → ∀ a', Knows A K a' → wpList P os.toArray Q (os.drop (p + 1)) a' w') : RL P os Q p A K B I nx L X := by
  intro a w ha hs
  unfold ready at hl
  split at hl
  · cases hl
  · rename_i o ho
    simp only [Bool.and_eq_true, beq_iff_eq, List.all_eq_true] at hl
    obtain ⟨⟨hw, hk1, hk2⟩, hd⟩ := hl
    have hgo : os.getD p default = o := by rw [List.getD_eq_getElem?_getD, ho]; rfl
    rw [drop_get (by rw [ho]; rfl), hgo]
    simp only [wpList]
    rw [if_pos (wantedK_spec ha hw)]
    refine .inl ?_
    unfold Oper.wp
    rw [ha.exec hk1 (fun x hx => hk2 x (by simpa using hx))]
    obtain ⟨w', hr, hN⟩ := h w hs
    rw [hgo] at hr
    rw [hr]
    show wpList P os.toArray Q (os.drop (p + 1)) (a.put o.dst undef) w'
    rw [hd]
    exact k w' hN _ (ha.put none undef)

theorem RL.putM (hM : MT P T Kt Et kE vE z) (a : α) (b : β) (m : Nat) {g : Nat} {l : List (α × β)} (hl : ready os p K none = true) (hm : X[m]? = some (mres kE vE g l))
    (hx : execOp (evalK K) (os.getD p default) = (Instr.mapUpdate T (.map (some g)) (kE a) (vE b)).bind fun _ => .pure .skip)
    (k : RL P os Q (p + 1) A K B I nx L (X.set m (mres kE vE g (mput l a b)))) : RL P os Q p A K B I nx L X :=
  RL.oneS (fun w' => Sat B I nx L (X.set m (mres kE vE g (mput l a b))) w') hl (fun w hs => ⟨_, by rw [hx, Sem.run_bind', hM.update (hs.res _ (List.mem_of_getElem? hm)) a b]; rfl, hs.putMap hm⟩) (fun w' hs a' ha' => k a' w' ha' hs)
theorem RL.storeM (a : α) (b : β) (m : Nat) {g : Nat} {l : List (α × β)} (hlt : mat l a < l.length) (hl : ready os p K none = true) (hm : X[m]? = some (mres kE vE g l))
    (hx : execOp (evalK K) (os.getD p default) = (Instr.entryStore T (.map (some g)) (goInt (mat l a : Nat)) (vE b)).bind fun _ => .pure .skip)
    (k : RL P os Q (p + 1) A K B I nx L (X.set m (mres kE vE g (mput l a b)))) : RL P os Q p A K B I nx L X :=
  RL.oneS (fun w' => Sat B I nx L (X.set m (mres kE vE g (mput l a b))) w') hl (fun w hs => ⟨_, by rw [hx, Sem.run_bind', run_entryStore (hs.res _ (List.mem_of_getElem? hm)) a b hlt]; rfl, hs.putMap hm⟩) (fun w' hs a' ha' => k a' w' ha' hs)

/-- A known block never turns from now on. -/
theorem RL.immL (i : Nat) {b : Blk} (hi : L[i]? = some b) (hB : ∀ w, Sat B I nx L X w → B.w0.heap.size ≤ b.g)
    (k : ∀ J, I.le J → (∀ j u, b.cs[j]? = some u → J ⟨b.g, j, none⟩ = some u) → RL P os Q p A K B J nx (L.eraseIdx i) X) : RL P os Q p A K B I nx L X := by
  intro a w ha h
  have hbm := List.mem_of_getElem? hi
  obtain ⟨hil, hie⟩ := List.getElem?_eq_some_iff.1 hi
  have hsub : Sat B I nx (L.eraseIdx i) X w := h.less (List.eraseIdx_sublist _ _) (List.Sublist.refl _)
  have hn : ∀ q u, rowImm b.g b.cs q = some u → q = ⟨b.g, q.off, none⟩ ∧ b.cs[q.off]? = some u := fun q u hq => rowImm_some hq
  refine k (I.or (rowImm b.g b.cs)) (Imm.le_or _ _) (fun j u hj => ?_) a w ha (hsub.imm (rowImm b.g b.cs) ?_ ?_ ?_ ?_)
  · refine Imm.or_get ?_ (by rw [rowImm_get]; exact hj)
    cases hI : I ⟨b.g, j, none⟩ with
    | none => rfl
    | some v => exact absurd rfl (h.imL _ v hI b hbm)
  · intro q u hq
    obtain ⟨e4, e5⟩ := hn q u hq
    rw [e4]
    exact (h.cell hi (a := ⟨b.g, q.off, none⟩) rfl rfl).trans e5
  · intro q u hq b' hb'
    obtain ⟨e4, _⟩ := hn q u hq
    rw [e4]
    obtain ⟨y, hy, hyb⟩ := List.getElem_of_mem hb'
    rw [List.length_eraseIdx_of_lt hil] at hy
    rw [List.getElem_eraseIdx] at hyb
    have hp := List.pairwise_iff_getElem.1 h.ne
    have key : ∀ j (hj : j < L.length), j ≠ i → L[j].g ≠ b.g := fun j hj hne => by
      rcases Nat.lt_or_gt_of_ne hne with h1 | h1
      · have := hp j i hj hil h1; rwa [hie] at this
      · have := hp i j hil hj h1; rw [hie] at this; exact this.symm
    split at hyb
    · rw [← hyb]; exact key y (by omega) (by omega)
    · rw [← hyb]; exact key (y + 1) (by omega) (by omega)
  · intro q u hq r hr
    obtain ⟨e4, _⟩ := hn q u hq
    rw [e4]
    exact h.rblk r hr b hbm
  · intro q u hq
    obtain ⟨e4, _⟩ := hn q u hq
    rw [e4]
    exact hB w h
end

/-! ### a round's frame -/
def noDefer (o : Oper) : Bool := match o.op with | .defer _ => false | _ => true
section
variable {P : Program} {Q : Exit → Act → World → Prop} {ops : Array Oper}
def Fence.ro (r : Option Nat) : Fence := { Fence.wide with round := r }
theorem callsRo {r : Option Nat} {n : Nat} {f : FuncId} {args : Array Value} {w : World} {R : Ending → World → Prop} (h : Calls P f args w R) : CallsIn (Fence.ro r) n P f args w R := (callsIn_wide (n := n)).2 h
theorem uponRo {r : Option Nat} {n : Nat} {o : Oper} {a : Act} {N N' : Act → World → Prop} (hN : ∀ a w, N a w → N' a w) {x : Result Next} (h : o.upon P a N Q x) : o.uponIn (Fence.ro r) n P a N' Q x := by
  cases x with
  | ok x w' =>
    cases x with
    | value v => exact hN _ _ h
    | skip => exact hN _ _ h
    | defer d => exact hN _ _ h
    | enter f args =>
      refine ⟨(fun h => by cases h), callsRo (Calls.mono h fun e w' he => ?_)⟩
      cases e with
      | returned v => exact hN _ _ he
      | panicked c => exact he
      | outgrown => exact he
    | row f args =>
      refine ⟨(fun h => by cases h), fun c cs _ => ?_⟩
      obtain ⟨v, w'', h1, h2⟩ := h c cs
      exact ⟨v, w'', hN _ _ h1, stepsIn_wide.2 h2⟩
    | _ => exact h.elim
  | halt x w' => cases x <;> first | exact h | exact h.elim
theorem wpRo {r : Option Nat} {n : Nat} {o : Oper} (ho : noDefer o = true) (hQ : ¬ LetsOut Q) {a : Act} {w : World} {N N' : Act → World → Prop} (hN : ∀ a w, N a w → N' a w) (h : o.wp P a w N Q ∨ (o.asks P a w ∧ LetsOut Q)) : o.wpIn (Fence.ro r) n P a w N' Q := by
  refine ⟨fun _ _ => trivial, ?_⟩
  rw [Oper.semAt_plain (Fence.ro r) _ _ (fun c hc => by unfold noDefer at ho; rw [hc] at ho; cases ho)]
  exact uponRo hN (h.resolve_right fun h => hQ h.2)
theorem wpListRo {r : Option Nat} {n : Nat} (hQ : ¬ LetsOut Q) : ∀ (l : List Oper) (a : Act) (w : World), (∀ o ∈ l, noDefer o = true) → wpList P ops Q l a w → wpListIn (Fence.ro r) n P ops Q l a w
  | [], _, _, _, h => h
  | o :: l, a, w, hd, h => by
    simp only [wpList, wpListIn] at h ⊢
    have hd' : ∀ o ∈ l, noDefer o = true := fun o ho => hd o (List.mem_cons_of_mem _ ho)
    split at h
    · rw [if_pos ‹_›]
      exact wpRo (hd o List.mem_cons_self) hQ (fun a w h => wpListRo hQ l a w hd' h) h
    · rw [if_neg ‹_›]
      exact ⟨fun _ _ => trivial, wpListRo hQ l _ _ hd' h⟩
theorem wpAnyRo {r : Option Nat} {n : Nat} {md : Region.Mode} (hQ : ¬ LetsOut Q) (hd : ∀ o ∈ ops, noDefer o = true) : ∀ (fuel : Nat) (listed : Array Bool) (a : Act) (w : World), wpAny P md ops Q fuel listed a w → wpAnyIn (Fence.ro r) n P md ops Q fuel listed a w
  | 0, _, _, _, h => h
  | fuel + 1, listed, a, w, h => by
    refine ⟨h.1, fun i hi => ?_⟩
    have := h.2 i hi
    unfold wpOp at this
    unfold wpOpIn
    split
    · rename_i hn
      rw [hn] at this
      exact wpAnyRo hQ hd fuel _ _ _ this
    · rename_i o ho
      rw [ho] at this
      simp only at this
      split at this
      · rw [if_pos ‹_›]
        exact wpRo (hd o (Array.mem_of_getElem? ho)) hQ (fun a w h => wpAnyRo hQ hd fuel _ a w h) this
      · rw [if_neg ‹_›]
        exact ⟨fun _ _ => trivial, wpAnyRo hQ hd fuel _ _ _ this⟩
end

def OKr (r : Nat) (P : Program) (c : Code) (Q : Exit → Act → World → Prop) (A : Fr) (K : List (Nat × Value)) (B : Base) (I : Imm) (nx : Nat) (L : List Blk) (X : List Res) : Prop :=
  ∀ a w, Knows A K a → Sat B I nx L X w → c.wpIn (Fence.ro (some r)) 0 P Q a w
def thenI (r : Nat) (P : Program) (y : Code) (Q : Exit → Act → World → Prop) : Exit → Act → World → Prop := Exit.then (y.wpIn (Fence.ro (some r)) 0 P Q) Q
section
variable {r : Nat} {P : Program} {c : Code} {Q : Exit → Act → World → Prop} {A : Fr} {K : List (Nat × Value)} {B : Base} {I : Imm} {nx : Nat} {L : List Blk} {X : List Res}
theorem letsThen {y : Code} (hQ : ¬ LetsOut Q) : ¬ LetsOut (thenI r P y Q) := fun ⟨a, w, h⟩ => hQ ⟨a, w, h⟩
theorem letsBlock {id : Nat} (hQ : ¬ LetsOut Q) : ¬ LetsOut (Exit.inBlock id Q) := fun ⟨a, w, h⟩ => hQ ⟨a, w, h⟩
theorem OKr.seq (x y : Code) (h : c = .seq x y) (k : OKr r P x (thenI r P y Q) A K B I nx L X) : OKr r P c Q A K B I nx L X := by
  intro a w ha hs
  rw [h]
  exact wpIn_seq (k a w ha hs)
theorem QN.thenr {y : Code} (k : OKr r P y Q A K B I nx L X) : QN (thenI r P y Q) .normal A K B I nx L X := k
theorem OKr.region (id : Nat) (os : List Oper) (h : c = .region id os.toArray false) (hQ : ¬ LetsOut Q) (hd : os.all noDefer = true) (k : RL P os Q 0 A K B I nx L X) : OKr r P c Q A K B I nx L X := by
  intro a w ha hs
  rw [h]
  exact wpIn_region_lit (wpListRo hQ os a w (List.all_eq_true.1 hd) (k a w ha hs))
theorem OKr.block (id : Nat) (l : Code) (h : c = .block id l) (k : OKr r P l (Exit.inBlock id Q) A K B I nx L X) : OKr r P c Q A K B I nx L X := by
  intro a w ha hs
  rw [h]
  exact wpIn_block (k a w ha hs)
theorem OKr.cond (o : Operand) (x y : Code) (t : Bool) (h : c = .cond o x y) (hk : knownO K o = true) (ht : evalK K o = .bool t) (k1 : t = true → OKr r P x Q A K B I nx L X) (k2 : t = false → OKr r P y Q A K B I nx L X) : OKr r P c Q A K B I nx L X := by
  intro a w ha hs
  rw [h]
  have he : a.eval o = .bool t := by rw [ha.eval hk]; exact ht
  cases t with
  | true => exact wpIn_cond_true he (k1 rfl a w ha hs)
  | false => exact wpIn_cond_false he (k2 rfl a w ha hs)
theorem OKr.skip (h : c = .skip) (k : QN Q .normal A K B I nx L X) : OKr r P c Q A K B I nx L X := by
  intro a w ha hs
  rw [h]
  exact wpIn_skip (k a w ha hs)
theorem OKr.drawn (id : Nat) (os : List Oper) (h : c = .region id os.toArray true) (hm : P.follows .mixedOrders = true) (hQ : ¬ LetsOut Q) (hd : os.all noDefer = true)
    (k : ∀ a w, Knows A K a → Sat B I nx L X w → wpAny P .any os.toArray Q os.toArray.size (Array.replicate os.toArray.size false) a { w with drawn := w.drawn + 1 }) : OKr r P c Q A K B I nx L X := by
  intro a w ha hs
  rw [h]
  exact wpIn_region_any hm (wpAnyRo hQ (fun o ho => List.all_eq_true.1 hd o (by simpa using ho)) _ _ _ _ (k a w ha hs))
end

/-! ### a region with a call of yield -/
def RLi (P : Program) (os : List Oper) (Q : Exit → Act → World → Prop) (p : Nat) (A : Fr) (K : List (Nat × Value)) (B : Base) (I : Imm) (nx : Nat) (L : List Blk) (X : List Res) : Prop :=
  ∀ a w, Knows A K a → Sat B I nx L X w → wpListIn (Fence.ro none) 0 P os.toArray Q (os.drop p) a w
section
variable {P : Program} {c : Code} {Q : Exit → Act → World → Prop} {A : Fr} {K : List (Nat × Value)} {B : Base} {I : Imm} {nx : Nat} {L : List Blk} {X X' : List Res} {os : List Oper} {p : Nat}
theorem OK.regionI (id : Nat) (os : List Oper) (h : c = .region id os.toArray false) (k : RLi P os Q 0 A K B I nx L X) : OK P c Q A K B I nx L X := by
  intro a w ha hs
  rw [h]
  exact (wpIn_wide (n := 0)).1 (wpIn_region_lit (k a w ha hs))
theorem RLi.of (hQ : ¬ LetsOut Q) (hd : (os.drop p).all noDefer = true) (k : RL P os Q p A K B I nx L X) : RLi P os Q p A K B I nx L X :=
  fun a w ha hs => wpListRo hQ _ a w (List.all_eq_true.1 hd) (k a w ha hs)
/-- Operations ahead of the call. -/
theorem simOps_in {R : List (Addr × Value)} (hR : RFacts B I X R) {rest : List Oper} :
    ∀ (l : List Oper) (locs : List Loc) (K : List (Nat × Value)) (nx : Nat) (L : List Blk) (es : List (Nat × Nat)) (K' : List (Nat × Value)) (nx' : Nat) (L' : List Blk) (es' : List (Nat × Nat)) (a : Act) (w : World),
      (∀ o ∈ l, noDefer o = true) → simOps P R os A l locs K nx L es = some (K', nx', L', es') → eqs es' → Knows A K a → Sat B I nx L X w →
      (∀ a' w', Knows A K' a' → Sat B I nx' L' X w' → wpListIn (Fence.ro none) 0 P os.toArray Q rest a' w') → wpListIn (Fence.ro none) 0 P os.toArray Q (l ++ rest) a w := by
  intro l
  induction l with
  | nil =>
    intro locs K nx L es K' nx' L' es' a w _ h he ha hs hk
    simp only [simOps, Option.some.injEq, Prod.mk.injEq] at h
    obtain ⟨rfl, rfl, rfl, rfl⟩ := h
    exact hk a w ha hs
  | cons o l ih =>
    intro locs K nx L es K' nx' L' es' a w hnd h he ha hs hk
    have hnd' : ∀ o ∈ l, noDefer o = true := fun o ho => hnd o (List.mem_cons_of_mem _ ho)
    have hsem := Oper.semAt_plain (Fence.ro none) a.eval o (fun c hc => by have := hnd o List.mem_cons_self; unfold noDefer at this; rw [hc] at this; cases this)
    simp only [simOps] at h
    simp only [List.cons_append, wpListIn]
    split at h
    · cases h
    · rename_i hw
      rw [if_neg (by rw [wantedK_spec ha hw]; decide)]
      exact ⟨fun _ _ => trivial, ih _ _ _ _ _ _ _ _ _ _ _ hnd' h he (ha.put _ _) hs hk⟩
    · rename_i hw
      rw [if_pos (wantedK_spec ha hw)]
      split at h
      · cases h
      · rename_i hkn
        rw [Bool.and_eq_true, List.all_eq_true] at hkn
        refine ⟨fun _ _ => trivial, ?_⟩
        rw [hsem, ha.exec hkn.1 (fun x hx => hkn.2 x (by simpa using hx))]
        split at h
        · rename_i v nx1 L1 es1 hsim
          obtain ⟨_, w', hr, hs'⟩ := simS_sound hR _ _ _ _ _ w _ _ _ _ hsim (fun p hp => he p (simOps_mono _ _ _ _ _ _ _ _ _ _ h p hp)) hs
          rw [hr]
          exact ih _ _ _ _ _ _ _ _ _ _ _ hnd' h he (ha.put _ _) hs' hk
        · rename_i nx1 L1 es1 hsim
          obtain ⟨_, w', hr, hs'⟩ := simS_sound hR _ _ _ _ _ w _ _ _ _ hsim (fun p hp => he p (simOps_mono _ _ _ _ _ _ _ _ _ _ h p hp)) hs
          rw [hr]
          exact ih _ _ _ _ _ _ _ _ _ _ _ hnd' h he (ha.put _ _) hs' hk
        · cases h
theorem RLi.simP (R : List (Addr × Value)) (hR : RFacts B I X R) (n : Nat) (locs : List Loc) {K' : List (Nat × Value)} {nx' : Nat} {L' : List Blk}
    (hd : ((os.drop p).take n).all noDefer = true)
    (h : (simOps P R os A ((os.drop p).take n) locs K nx L []).map (fun x => (K'.map (fun q => lookK x.1 q.1), x.2.1, x.2.2.1)) = some (K'.map (fun q => some q.2), nx', L'))
    (he : (simOps P R os A ((os.drop p).take n) locs K nx L []).map (fun x => x.2.2.2.map (·.1)) = (simOps P R os A ((os.drop p).take n) locs K nx L []).map (fun x => x.2.2.2.map (·.2)))
    (k : RLi P os Q (p + n) A K' B I nx' L' X) : RLi P os Q p A K B I nx L X := by
  intro a w ha hs
  cases hsim : simOps P R os A ((os.drop p).take n) locs K nx L [] with
  | none => rw [hsim] at h; cases h
  | some x =>
    obtain ⟨K1, nx1, L1, es1⟩ := x
    rw [hsim] at h he
    simp only [Option.map_some, Option.some.injEq, Prod.mk.injEq] at h he
    obtain ⟨h2, rfl, rfl⟩ := h
    have := simOps_in hR (Q := Q) (rest := os.drop (p + n)) _ _ _ _ _ _ _ _ _ _ a w (List.all_eq_true.1 hd) hsim (eqs_of_map he) ha hs (fun a' w' ha' hs' => k a' w' (knows_sub ha' h2) hs')
    rwa [← List.drop_drop, List.take_append_drop] at this
theorem RLi.nil (h : os.drop p = []) (k : QN Q .normal A K B I nx L X) : RLi P os Q p A K B I nx L X := by
  intro a w ha hs
  rw [h]
  exact k a w ha hs
theorem YieldAt.mono {F : Fence} {m l : Nat} {xs : Array Value} {w : World} {R R' : Ending → World → Prop} (h : YieldAt F m P l xs w R) (hr : ∀ e w', R e w' → R' e w') : YieldAt F m P l xs w R' := by
  obtain ⟨fn, tmps, as1, bd, h1, h2⟩ := h
  exact ⟨fn, tmps, as1, bd, h1, h2.mono hr⟩
/-- The call of yield itself. -/
theorem RLi.yield (l : Nat) (xs : Array Value) (d : Option Tmp) (hl : ready os p K d = true) (hnd : noDefer (os.getD p default) = true) (hx : execOp (evalK K) (os.getD p default) = Instr.yield l xs)
    (hy : ∀ w, Sat B I nx L X w → YieldAt (Fence.ro none) 0 P l xs w fun e w' => e = .returned (.bool true) ∧ Sat B I w'.heap.size L X' w')
    (k : ∀ nx', RLi P os Q (p + 1) A (putK A K d (.bool true)) B I nx' L X') : RLi P os Q p A K B I nx L X := by
  intro a w ha hs
  unfold ready at hl
  split at hl
  · cases hl
  · rename_i o ho
    simp only [Bool.and_eq_true, beq_iff_eq, List.all_eq_true] at hl
    obtain ⟨⟨hw, hk1, hk2⟩, hd⟩ := hl
    have hgo : os.getD p default = o := by rw [List.getD_eq_getElem?_getD, ho]; rfl
    rw [hgo] at hx
    rw [hgo] at hnd
    rw [drop_get (by rw [ho]; rfl), hgo]
    simp only [wpListIn]
    rw [if_pos (wantedK_spec ha hw)]
    refine ⟨fun _ _ => trivial, ?_⟩
    rw [Oper.semAt_plain (Fence.ro none) _ _ (fun c hc => by unfold noDefer at hnd; rw [hc] at hnd; cases hnd), ha.exec hk1 (fun x hx => hk2 x (by simpa using hx)), hx]
    obtain ⟨fn, tmps, as1, bd, hr, hR⟩ := hy w hs
    rw [hr]
    refine ⟨(fun h => by cases h), RoundIn.mono hR fun e w' ⟨he, hs'⟩ => ?_⟩
    subst he
    show wpListIn _ 0 P os.toArray Q (os.drop (p + 1)) (a.put o.dst (.bool true)) w'
    rw [hd]
    exact k _ _ w' (ha.put d _) hs'
end
end Go.Proofs.Ytieakigoinebdaa.RW
