/- Words of the walk, the functions' walks and plain laws, joined; no conditions beyond those that the theorems name. -/
import Derived.Test.YtiomeaoeegikkaaDoorY2
import Derived.RangeFuncLeaves
import Derived.ChangeArms
import Derived.DataReads
import Derived.OpenShut
import Derived.Test.YtiomeaoeegikkaaDoorRows
import Derived.ChangeSame
import Derived.ChangeVars
import Derived.JoinedOf
import Derived.RowKit
import Derived.RowKitTokens
import Derived.LaidLaws
import Derived.LaidHandle
import Derived.Stop.Joined
namespace Go.Proofs.YtiomeaoeegikkaaDoor.RW
open Go Go.RowKit

/-- A map as a piece of memory. -/
def mres {α β : Type} (kE : α → Value) (vE : β → Value) (g : Nat) (l : List (α × β)) : Res where
 fp := fun k => k = g
 P := fun _ w => w.heap[g]? = some (.map (ents kE vE 0 l).toArray l.length)
 stable := fun _ w w' h hp => by rw [h g rfl]; exact hp
 ext := fun _ _ _ _ h => h

theorem Got.newRes {w : World} {I : Imm} (hI : I.at_ w) (o : Obj) (r : Res) (hfp : ∀ k, r.fp k → k = w.heap.size) (hP : r.P I (w.alloc o)) : Got w (w.alloc o) I I [r] := by
 have hold : ∀ k, k < w.heap.size → (w.alloc o).heap[k]? = w.heap[k]? := fun k hk => by
  show (w.heap.push o)[k]? = _
  rw [Array.getElem?_push, if_neg (by omega)]
 refine ⟨⟨rfl, rfl, rfl, by simp, fun k hk _ => hold k hk⟩, Imm.le_refl _, ?_, fun _ _ h => .inl h, ?_, ?_, List.pairwise_singleton _ _, ?_⟩
 ·intro a v ha
  have hc := hI a v ha
  rw [← hc]
  exact look_of_block (w := w) (hold _ (look_lt hc))
 ·intro q hq
  rw [List.mem_singleton.1 hq]
  exact hP
 ·intro q hq k hk
  rw [List.mem_singleton.1 hq] at hk
  have := hfp k hk
  simp
  omega
 ·intro a v ha q hq hk
  rw [List.mem_singleton.1 hq] at hk
  have h1 := hfp _ hk
  have := look_lt (hI a v ha)
  omega

section
variable {P : Program} {c : Code} {Q : Exit → Act → World → Prop} {A : Fr} {K : List (Nat × Value)} {B : Base} {I : Imm} {nx : Nat} {L : List Blk} {X : List Res} {os : List Oper} {p : Nat}
variable {T Kt Et : TypeId} {α β : Type} [DecidableEq α] {kE : α → Value} {vE : β → Value} {z : β}

omit [DecidableEq α] in
theorem Sat.putMap {w : World} (hs : Sat B I nx L X w) {m g : Nat} {l l' : List (α × β)} (hm : X[m]? = some (mres kE vE g l)) : Sat B I nx L (X.set m (mres kE vE g l')) (w.putObj g (.map (ents kE vE 0 l').toArray l'.length)) := by
 have hg : w.heap[g]? = some (.map (ents kE vE 0 l).toArray l.length) := hs.res _ (List.mem_of_getElem? hm)
 have hlt := (Array.getElem?_eq_some_iff.1 hg).1
 have := hs.replace hm (mres kE vE g l') (w' := w.putObj g (.map (ents kE vE 0 l').toArray l'.length)) rfl rfl rfl (by simp)
  (fun k _ hf => World.putObj_heap_other (fun e => hf e)) (World.putObj_heap_same hlt) (fun k hk => .inl hk) (fun k hk => by
   obtain rfl : k = g := hk
   simpa using hlt)
 simpa [hs.hnx] using this

omit [DecidableEq α] in
theorem RL.makeMap (kE : α → Value) (vE : β → Value) (d : Option Tmp) (hl : ready os p K d = true) (hx : execOp (evalK K) (os.getD p default) = toNext (Instr.makeMap T none))
  (k : RL P os Q (p + 1) A (putK A K d (.map (some nx))) B I (nx + 1) L (X ++ [mres kE vE nx []])) : RL P os Q p A K B I nx L X := by
 refine RL.one d (fun v w' => v = .map (some nx) ∧ Sat B I (nx + 1) L (X ++ [mres kE vE nx []]) w') hl (fun w hs => ?_) (fun v w' hN a' ha' => ?_)
 ·refine ⟨.map (some nx), w.alloc (.map #[] 0), ?_, rfl, ?_⟩
  ·rw [hx]
   have hr : (Instr.makeMap T none).run P w = .ok (.map (some w.heap.size)) (w.alloc (.map #[] 0)) := by
    simp [Instr.makeMap]
   rw [hs.hnx] at hr
   exact run_toNext hr
  ·have := hs.call (Got.newRes hs.im (.map #[] 0) (mres kE vE w.heap.size []) (fun k hk => hk) (World.alloc_heap_new w _))
   rw [World.size_alloc, hs.hnx] at this
   exact this
 ·obtain ⟨rfl, hs⟩ := hN
  exact k a' w' ha' hs

theorem RL.lookM (hM : MT P T Kt Et kE vE z) (a : α) (ok : Bool) (m : Nat) {g : Nat} {l : List (α × β)} (d : Option Tmp) (hl : ready os p K d = true) (hm : X[m]? = some (mres kE vE g l))
  (hx : execOp (evalK K) (os.getD p default) = toNext (Instr.lookup T (.map (some g)) (kE a) ok)) {K' : List (Nat × Value)}
  (hF : putK A K d (if ok = true then .tuple #[vE ((mget l a).getD z), .bool (mget l a).isSome] else vE ((mget l a).getD z)) = K') (k : RL P os Q (p + 1) A K' B I nx L X) : RL P os Q p A K B I nx L X :=
 RL.quiet d _ hl hF (fun w hs => by rw [hx]; exact run_toNext (hM.lookup (q := 0) (by simp) (hs.res _ (List.mem_of_getElem? hm)) a ok)) k

theorem RL.putM (hM : MT P T Kt Et kE vE z) (a : α) (b : β) (m : Nat) {g : Nat} {l : List (α × β)} (hl : ready os p K none = true) (hm : X[m]? = some (mres kE vE g l))
  (hx : execOp (evalK K) (os.getD p default) = (Instr.mapUpdate T (.map (some g)) (kE a) (vE b)).bind fun _ => .pure .skip)
  (k : RL P os Q (p + 1) A K B I nx L (X.set m (mres kE vE g (mput l a b)))) : RL P os Q p A K B I nx L X :=
 RL.oneS (fun w' => Sat B I nx L (X.set m (mres kE vE g (mput l a b))) w') hl (fun w hs => ⟨_, by rw [hx, Sem.run_bind', hM.update (hs.res _ (List.mem_of_getElem? hm)) a b]; rfl, hs.putMap hm⟩) (fun w' hs a' ha' => k a' w' ha' hs)
theorem RL.storeM (a : α) (b : β) (m : Nat) {g : Nat} {l : List (α × β)} (hlt : mat l a < l.length) (hl : ready os p K none = true) (hm : X[m]? = some (mres kE vE g l))
  (hx : execOp (evalK K) (os.getD p default) = (Instr.entryStore T (.map (some g)) (goInt (mat l a : Nat)) (vE b)).bind fun _ => .pure .skip)
  (k : RL P os Q (p + 1) A K B I nx L (X.set m (mres kE vE g (mput l a b)))) : RL P os Q p A K B I nx L X :=
 RL.oneS (fun w' => Sat B I nx L (X.set m (mres kE vE g (mput l a b))) w') hl (fun w hs => ⟨_, by rw [hx, Sem.run_bind', run_entryStore (hs.res _ (List.mem_of_getElem? hm)) a b hlt]; rfl, hs.putMap hm⟩) (fun w' hs a' ha' => k a' w' ha' hs)

/-- A known block never turns from now on. -/
theorem RL.immL (i : Nat) {b : Blk} (hi : L[i]? = some b) (hB : ∀ w, Sat B I nx L X w → B.w0.heap.size ≤ b.g)
  (k : ∀ J, I.le J → (∀ j u, b.cs[j]? = some u → J ⟨b.g, j, none⟩ = some u) → RL P os Q p A K B J nx (L.eraseIdx i) X) : RL P os Q p A K B I nx L X := by
 intro a w ha h
 have hbm := List.mem_of_getElem? hi
 obtain ⟨hil, hie⟩ := List.getElem?_eq_some_iff.1 hi
 have hsub : Sat B I nx (L.eraseIdx i) X w := h.less (List.eraseIdx_sublist _ _) (List.Sublist.refl _)
 have hn : ∀ q u, rowImm b.g b.cs q = some u → q = ⟨b.g, q.off, none⟩ ∧ b.cs[q.off]? = some u := fun q u hq => rowImm_some hq
 refine k (I.or (rowImm b.g b.cs)) (Imm.le_or _ _) (fun j u hj => ?_) a w ha (hsub.imm (rowImm b.g b.cs) ?_ ?_ ?_ ?_)
 ·refine Imm.or_get ?_ (by rw [rowImm_get]; exact hj)
  cases hI : I ⟨b.g, j, none⟩ with
  | none => rfl
  | some v => exact absurd rfl (h.imL _ v hI b hbm)
 ·intro q u hq
  obtain ⟨e4, e5⟩ := hn q u hq
  rw [e4]
  exact (h.cell hi (a := ⟨b.g, q.off, none⟩) rfl rfl).trans e5
 ·intro q u hq b' hb'
  obtain ⟨e4, _⟩ := hn q u hq
  rw [e4]
  obtain ⟨y, hy, hyb⟩ := List.getElem_of_mem hb'
  rw [List.length_eraseIdx_of_lt hil] at hy
  rw [List.getElem_eraseIdx] at hyb
  have hp := List.pairwise_iff_getElem.1 h.ne
  have key : ∀ j (hj : j < L.length), j ≠ i → L[j].g ≠ b.g := fun j hj hne => by
   rcases Nat.lt_or_gt_of_ne hne with h1 | h1
   ·have := hp j i hj hil h1; rwa [hie] at this
   ·have := hp i j hil hj h1; rw [hie] at this; exact this.symm
  split at hyb
  ·rw [← hyb]; exact key y (by omega) (by omega)
  ·rw [← hyb]; exact key (y + 1) (by omega) (by omega)
 ·intro q u hq r hr
  obtain ⟨e4, _⟩ := hn q u hq
  rw [e4]
  exact h.rblk r hr b hbm
 ·intro q u hq
  obtain ⟨e4, _⟩ := hn q u hq
  rw [e4]
  exact .inl (hB w h)
end

/-! ### a round's frame -/
def noDefer (o : Oper) : Bool := match o.op with | .defer _ => false | _ => true
section
variable {P : Program} {Q : Exit → Act → World → Prop} {ops : Array Oper}
def Fence.ro (r : Option Nat) : Fence := { Fence.wide with round := r }
theorem callsRo {r : Option Nat} {n : Nat} {f : FuncId} {args : Array Value} {w : World} {R : Ending → World → Prop} (h : Calls P f args w R) : CallsIn (Fence.ro r) n P f args w R := (callsIn_wide (n := n)).2 h
theorem uponRo {r : Option Nat} {n : Nat} {o : Oper} {a : Act} {N N' : Act → World → Prop} (hN : ∀ a w, N a w → N' a w) {x : Result Next} (h : o.upon P a N Q x) : o.uponIn (Fence.ro r) n P a N' Q x := by
 cases x with
 | ok x w' =>
  cases x with
  | value v => exact hN _ _ h
  | skip => exact hN _ _ h
  | defer d => exact hN _ _ h
  | enter f args =>
   refine ⟨(fun h => by cases h), callsRo (Calls.mono h fun e w' he => ?_)⟩
   cases e with
   | returned v => exact hN _ _ he
   | panicked c => exact he
   | outgrown => exact he
  | row f args =>
   refine ⟨(fun h => by cases h), fun c cs _ => ?_⟩
   obtain ⟨v, w'', h1, h2⟩ := h c cs
   exact ⟨v, w'', hN _ _ h1, stepsIn_wide.2 h2⟩
  | _ => exact h.elim
 | halt x w' => cases x <;> first | exact h | exact h.elim
theorem wpRo {r : Option Nat} {n : Nat} {o : Oper} (ho : noDefer o = true) (hQ : ¬ LetsOut Q) {a : Act} {w : World} {N N' : Act → World → Prop} (hN : ∀ a w, N a w → N' a w) (h : o.wp P a w N Q ∨ (o.asks P a w ∧ LetsOut Q)) : o.wpIn (Fence.ro r) n P a w N' Q := by
 refine ⟨fun _ _ => trivial, ?_⟩
 rw [Oper.semAt_plain (Fence.ro r) _ _ (fun c hc => by unfold noDefer at ho; rw [hc] at ho; cases ho)]
 exact uponRo hN (h.resolve_right fun h => hQ h.2)
theorem wpListRo {r : Option Nat} {n : Nat} (hQ : ¬ LetsOut Q) : ∀ (l : List Oper) (a : Act) (w : World), (∀ o ∈ l, noDefer o = true) → wpList P ops Q l a w → wpListIn (Fence.ro r) n P ops Q l a w
 | [], _, _, _, h => h
 | o :: l, a, w, hd, h => by
  simp only [wpList, wpListIn] at h ⊢
  have hd' : ∀ o ∈ l, noDefer o = true := fun o ho => hd o (List.mem_cons_of_mem _ ho)
  split at h
  ·rw [if_pos ‹_›]
   exact wpRo (hd o List.mem_cons_self) hQ (fun a w h => wpListRo hQ l a w hd' h) h
  ·rw [if_neg ‹_›]
   exact ⟨fun _ _ => trivial, wpListRo hQ l _ _ hd' h⟩
theorem wpAnyRo {r : Option Nat} {n : Nat} {md : Region.Mode} (hQ : ¬ LetsOut Q) (hd : ∀ o ∈ ops, noDefer o = true) : ∀ (fuel : Nat) (listed : Array Bool) (a : Act) (w : World), wpAny P md ops Q fuel listed a w → wpAnyIn (Fence.ro r) n P md ops Q fuel listed a w
 | 0, _, _, _, h => h
 | fuel + 1, listed, a, w, h => by
  refine ⟨h.1, fun i hi => ?_⟩
  have := h.2 i hi
  unfold wpOp at this
  unfold wpOpIn
  split
  ·rename_i hn
   rw [hn] at this
   exact wpAnyRo hQ hd fuel _ _ _ this
  ·rename_i o ho
   rw [ho] at this
   simp only at this
   split at this
   ·rw [if_pos ‹_›]
    exact wpRo (hd o (Array.mem_of_getElem? ho)) hQ (fun a w h => wpAnyRo hQ hd fuel _ a w h) this
   ·rw [if_neg ‹_›]
    exact ⟨fun _ _ => trivial, wpAnyRo hQ hd fuel _ _ _ this⟩
end

def OKr (r : Nat) (P : Program) (c : Code) (Q : Exit → Act → World → Prop) (A : Fr) (K : List (Nat × Value)) (B : Base) (I : Imm) (nx : Nat) (L : List Blk) (X : List Res) : Prop :=
 ∀ a w, Knows A K a → Sat B I nx L X w → c.wpIn (Fence.ro (some r)) 0 P Q a w
def thenI (r : Nat) (P : Program) (y : Code) (Q : Exit → Act → World → Prop) : Exit → Act → World → Prop := Exit.then (y.wpIn (Fence.ro (some r)) 0 P Q) Q
section
variable {r : Nat} {P : Program} {c : Code} {Q : Exit → Act → World → Prop} {A : Fr} {K : List (Nat × Value)} {B : Base} {I : Imm} {nx : Nat} {L : List Blk} {X : List Res}
theorem letsThen {y : Code} (hQ : ¬ LetsOut Q) : ¬ LetsOut (thenI r P y Q) := fun ⟨a, w, h⟩ => hQ ⟨a, w, h⟩
theorem letsBlock {id : Nat} (hQ : ¬ LetsOut Q) : ¬ LetsOut (Exit.inBlock id Q) := fun ⟨a, w, h⟩ => hQ ⟨a, w, h⟩
theorem OKr.seq (x y : Code) (h : c = .seq x y) (k : OKr r P x (thenI r P y Q) A K B I nx L X) : OKr r P c Q A K B I nx L X := by
 intro a w ha hs
 rw [h]
 exact wpIn_seq (k a w ha hs)
theorem QN.thenr {y : Code} (k : OKr r P y Q A K B I nx L X) : QN (thenI r P y Q) .normal A K B I nx L X := k
theorem OKr.region (id : Nat) (os : List Oper) (h : c = .region id os.toArray false) (hQ : ¬ LetsOut Q) (hd : os.all noDefer = true) (k : RL P os Q 0 A K B I nx L X) : OKr r P c Q A K B I nx L X := by
 intro a w ha hs
 rw [h]
 exact wpIn_region_lit (wpListRo hQ os a w (List.all_eq_true.1 hd) (k a w ha hs))
theorem OKr.block (id : Nat) (l : Code) (h : c = .block id l) (k : OKr r P l (Exit.inBlock id Q) A K B I nx L X) : OKr r P c Q A K B I nx L X := by
 intro a w ha hs
 rw [h]
 exact wpIn_block (k a w ha hs)
theorem OKr.cond (o : Operand) (x y : Code) (t : Bool) (h : c = .cond o x y) (hk : knownO K o = true) (ht : evalK K o = .bool t) (k1 : t = true → OKr r P x Q A K B I nx L X) (k2 : t = false → OKr r P y Q A K B I nx L X) : OKr r P c Q A K B I nx L X := by
 intro a w ha hs
 rw [h]
 have he : a.eval o = .bool t := by rw [ha.eval hk]; exact ht
 cases t with
 | true => exact wpIn_cond_true he (k1 rfl a w ha hs)
 | false => exact wpIn_cond_false he (k2 rfl a w ha hs)
theorem OKr.skip (h : c = .skip) (k : QN Q .normal A K B I nx L X) : OKr r P c Q A K B I nx L X := by
 intro a w ha hs
 rw [h]
 exact wpIn_skip (k a w ha hs)
theorem OKr.drawn (id : Nat) (os : List Oper) (h : c = .region id os.toArray true) (hm : P.follows .mixedOrders = true) (hQ : ¬ LetsOut Q) (hd : os.all noDefer = true)
  (k : ∀ a w, Knows A K a → Sat B I nx L X w → wpAny P .any os.toArray Q os.toArray.size (Array.replicate os.toArray.size false) a { w with drawn := w.drawn + 1 }) : OKr r P c Q A K B I nx L X := by
 intro a w ha hs
 rw [h]
 exact wpIn_region_any hm (wpAnyRo hQ (fun o ho => List.all_eq_true.1 hd o (by simpa using ho)) _ _ _ _ (k a w ha hs))
end

/-! ### a region with a call of yield -/
def RLi (P : Program) (os : List Oper) (Q : Exit → Act → World → Prop) (p : Nat) (A : Fr) (K : List (Nat × Value)) (B : Base) (I : Imm) (nx : Nat) (L : List Blk) (X : List Res) : Prop :=
 ∀ a w, Knows A K a → Sat B I nx L X w → wpListIn (Fence.ro none) 0 P os.toArray Q (os.drop p) a w
section
variable {P : Program} {c : Code} {Q : Exit → Act → World → Prop} {A : Fr} {K : List (Nat × Value)} {B : Base} {I : Imm} {nx : Nat} {L : List Blk} {X X' : List Res} {os : List Oper} {p : Nat}
theorem OK.regionI (id : Nat) (os : List Oper) (h : c = .region id os.toArray false) (k : RLi P os Q 0 A K B I nx L X) : OK P c Q A K B I nx L X := by
 intro a w ha hs
 rw [h]
 exact (wpIn_wide (n := 0)).1 (wpIn_region_lit (k a w ha hs))
theorem RLi.of (hQ : ¬ LetsOut Q) (hd : (os.drop p).all noDefer = true) (k : RL P os Q p A K B I nx L X) : RLi P os Q p A K B I nx L X :=
 fun a w ha hs => wpListRo hQ _ a w (List.all_eq_true.1 hd) (k a w ha hs)
/-- Operations ahead of the call. -/
theorem simOps_in {R : List (Addr × Value)} (hR : RFacts B I X R) {rest : List Oper} :
  ∀ (l : List Oper) (locs : List Loc) (K : List (Nat × Value)) (nx : Nat) (L : List Blk) (es : List (Nat × Nat)) (K' : List (Nat × Value)) (nx' : Nat) (L' : List Blk) (es' : List (Nat × Nat)) (a : Act) (w : World),
   (∀ o ∈ l, noDefer o = true) → simOps P R os A l locs K nx L es = some (K', nx', L', es') → eqs es' → Knows A K a → Sat B I nx L X w →
   (∀ a' w', Knows A K' a' → Sat B I nx' L' X w' → wpListIn (Fence.ro none) 0 P os.toArray Q rest a' w') → wpListIn (Fence.ro none) 0 P os.toArray Q (l ++ rest) a w := by
 intro l
 induction l with
 | nil =>
  intro locs K nx L es K' nx' L' es' a w _ h he ha hs hk
  simp only [simOps, Option.some.injEq, Prod.mk.injEq] at h
  obtain ⟨rfl, rfl, rfl, rfl⟩ := h
  exact hk a w ha hs
 | cons o l ih =>
  intro locs K nx L es K' nx' L' es' a w hnd h he ha hs hk
  have hnd' : ∀ o ∈ l, noDefer o = true := fun o ho => hnd o (List.mem_cons_of_mem _ ho)
  have hsem := Oper.semAt_plain (Fence.ro none) a.eval o (fun c hc => by have := hnd o List.mem_cons_self; unfold noDefer at this; rw [hc] at this; cases this)
  simp only [simOps] at h
  simp only [List.cons_append, wpListIn]
  split at h
  ·cases h
  ·rename_i hw
   rw [if_neg (by rw [wantedK_spec ha hw]; decide)]
   exact ⟨fun _ _ => trivial, ih _ _ _ _ _ _ _ _ _ _ _ hnd' h he (ha.put _ _) hs hk⟩
  ·rename_i hw
   rw [if_pos (wantedK_spec ha hw)]
   split at h
   ·cases h
   ·rename_i hkn
    rw [Bool.and_eq_true, List.all_eq_true] at hkn
    refine ⟨fun _ _ => trivial, ?_⟩
    rw [hsem, ha.exec hkn.1 (fun x hx => hkn.2 x (by simpa using hx))]
    split at h
    ·rename_i v nx1 L1 es1 hsim
     obtain ⟨_, w', hr, hs'⟩ := simS_sound hR _ _ _ _ _ w _ _ _ _ hsim (fun p hp => he p (simOps_mono _ _ _ _ _ _ _ _ _ _ h p hp)) hs
     rw [hr]
     exact ih _ _ _ _ _ _ _ _ _ _ _ hnd' h he (ha.put _ _) hs' hk
    ·rename_i nx1 L1 es1 hsim
     obtain ⟨_, w', hr, hs'⟩ := simS_sound hR _ _ _ _ _ w _ _ _ _ hsim (fun p hp => he p (simOps_mono _ _ _ _ _ _ _ _ _ _ h p hp)) hs
     rw [hr]
     exact ih _ _ _ _ _ _ _ _ _ _ _ hnd' h he (ha.put _ _) hs' hk
    ·cases h
theorem RLi.simP (R : List (Addr × Value)) (hR : RFacts B I X R) (n : Nat) (locs : List Loc) {K' : List (Nat × Value)} {nx' : Nat} {L' : List Blk}
  (hd : ((os.drop p).take n).all noDefer = true)
  (h : (simOps P R os A ((os.drop p).take n) locs K nx L []).map (fun x => (K'.map (fun q => lookK x.1 q.1), x.2.1, x.2.2.1)) = some (K'.map (fun q => some q.2), nx', L'))
  (he : (simOps P R os A ((os.drop p).take n) locs K nx L []).map (fun x => x.2.2.2.map (·.1)) = (simOps P R os A ((os.drop p).take n) locs K nx L []).map (fun x => x.2.2.2.map (·.2)))
  (k : RLi P os Q (p + n) A K' B I nx' L' X) : RLi P os Q p A K B I nx L X := by
 intro a w ha hs
 cases hsim : simOps P R os A ((os.drop p).take n) locs K nx L [] with
 | none => rw [hsim] at h; cases h
 | some x =>
  obtain ⟨K1, nx1, L1, es1⟩ := x
  rw [hsim] at h he
  simp only [Option.map_some, Option.some.injEq, Prod.mk.injEq] at h he
  obtain ⟨h2, rfl, rfl⟩ := h
  have := simOps_in hR (Q := Q) (rest := os.drop (p + n)) _ _ _ _ _ _ _ _ _ _ a w (List.all_eq_true.1 hd) hsim (eqs_of_map he) ha hs (fun a' w' ha' hs' => k a' w' (knows_sub ha' h2) hs')
  rwa [← List.drop_drop, List.take_append_drop] at this
theorem RLi.nil (h : os.drop p = []) (k : QN Q .normal A K B I nx L X) : RLi P os Q p A K B I nx L X := by
 intro a w ha hs
 rw [h]
 exact k a w ha hs
theorem YieldAt.mono {F : Fence} {m l : Nat} {xs : Array Value} {w : World} {R R' : Ending → World → Prop} (h : YieldAt F m P l xs w R) (hr : ∀ e w', R e w' → R' e w') : YieldAt F m P l xs w R' := by
 obtain ⟨fn, tmps, as1, bd, h1, h2⟩ := h
 exact ⟨fn, tmps, as1, bd, h1, h2.mono hr⟩
/-- The call of yield itself. -/
theorem RLi.yield (l : Nat) (xs : Array Value) (d : Option Tmp) (hl : ready os p K d = true) (hnd : noDefer (os.getD p default) = true) (hx : execOp (evalK K) (os.getD p default) = Instr.yield l xs)
  (hy : ∀ w, Sat B I nx L X w → YieldAt (Fence.ro none) 0 P l xs w fun e w' => e = .returned (.bool true) ∧ Sat B I w'.heap.size L X' w')
  (k : ∀ nx', RLi P os Q (p + 1) A (putK A K d (.bool true)) B I nx' L X') : RLi P os Q p A K B I nx L X := by
 intro a w ha hs
 unfold ready at hl
 split at hl
 ·cases hl
 ·rename_i o ho
  simp only [Bool.and_eq_true, beq_iff_eq, List.all_eq_true] at hl
  obtain ⟨⟨hw, hk1, hk2⟩, hd⟩ := hl
  have hgo : os.getD p default = o := by rw [List.getD_eq_getElem?_getD, ho]; rfl
  rw [hgo] at hx
  rw [hgo] at hnd
  rw [drop_get (by rw [ho]; rfl), hgo]
  simp only [wpListIn]
  rw [if_pos (wantedK_spec ha hw)]
  refine ⟨fun _ _ => trivial, ?_⟩
  rw [Oper.semAt_plain (Fence.ro none) _ _ (fun c hc => by unfold noDefer at hnd; rw [hc] at hnd; cases hnd), ha.exec hk1 (fun x hx => hk2 x (by simpa using hx)), hx]
  obtain ⟨fn, tmps, as1, bd, hr, hR⟩ := hy w hs
  rw [hr]
  refine ⟨(fun h => by cases h), RoundIn.mono hR fun e w' ⟨he, hs'⟩ => ?_⟩
  subst he
  show wpListIn _ 0 P os.toArray Q (os.drop (p + 1)) (a.put o.dst (.bool true)) w'
  rw [hd]
  exact k _ _ w' (ha.put d _) hs'
end
end Go.Proofs.YtiomeaoeegikkaaDoor.RW
namespace Go.Proofs.YtiomeaoeegikkaaDoor.RW
open Go Go.RowKit

/-- Below n nothing has turned. -/
structure LowEq (n : Nat) (A B : World) : Prop where
 os : B.os = A.os
 tape : B.tape = A.tape
 output : B.output = A.output
 blk : ∀ k, k < n → B.heap[k]? = A.heap[k]?
theorem LowEq.trans {n : Nat} {A B C : World} (h : LowEq n A B) (k : LowEq n B C) : LowEq n A C :=
 ⟨k.os.trans h.os, k.tape.trans h.tape, k.output.trans h.output, fun i hi => (k.blk i hi).trans (h.blk i hi)⟩
theorem LowEq.less {n m : Nat} {A B : World} (h : LowEq n A B) (hm : m ≤ n) : LowEq m A B := ⟨h.os, h.tape, h.output, fun k hk => h.blk k (by omega)⟩
theorem Evo.low {S : Nat → Prop} {A B : World} {n : Nat} (h : Evo S A B) (hn : n ≤ A.heap.size) (hS : ∀ k, S k → n ≤ k) : LowEq n A B :=
 ⟨h.os, h.tape, h.output, fun k hk => h.blk k (by omega) (fun hs => by have := hS k hs; omega)⟩
theorem Evo.put (w : World) (g : Nat) (o : Obj) : Evo (fun k => k = g) w (w.putObj g o) :=
 ⟨rfl, rfl, rfl, by simp, fun k _ hn => World.putObj_heap_other hn⟩
theorem Evo.alloc (w : World) (o : Obj) : Evo (fun _ => False) w (w.alloc o) :=
 ⟨rfl, rfl, rfl, by simp, fun k hk _ => by
  show (w.heap.push o)[k]? = _
  rw [Array.getElem?_push, if_neg (by omega)]⟩

variable {P : Program}
theorem range_wp {α : Type} {g : Operand} {ps : Array Tmp} {assign body : Code} {Q : Exit → Act → World → Prop} {a : Act} {w : World} {gf : Nat} {lb : Array Value}
  (hg : a.eval g = .func (.func gf) #[] lb) (eg : ∀ args w, (callFunc gf args).run P w = .ok (.enter gf args) w)
  (E : α → Array Value → Prop) (hps : ∀ x xs, E x xs → xs.size = ps.size) (c : List α) (S : Nat → Prop) (hS : ∀ k, S k → k < w.heap.size)
  (J : List α → World → Prop) (hJ : ∀ pre A B, J pre A → LowEq w.heap.size A B → J pre B) (h0 : J [] w)
  (hround : ∀ (l : Nat) (pre : List α) (x : α) (xs : Array Value) (W : World), J pre W → (pre ++ [x]) <+: c → E x xs → w.heap.size ≤ l → l < W.heap.size →
   assign.wpIn (Fence.ro (some l)) 0 P (Exit.then (fun a₁ W₁ => Evo (fun _ => False) W W₁ ∧ ∀ W₂, Evo (fun k => k = l) W₁ W₂ → body.wpIn (Fence.ro (some l)) 0 P (fun e _ W' => e = .normal ∧ J (pre ++ [x]) W' ∧ Evo (fun k => S k ∨ W.heap.size ≤ k) W₂ W') a₁ W₂) (fun _ _ _ => False))
    {tmps := (ps.zip xs).foldl (fun t (p, v) => t.setIfInBounds p v) a.tmps, defers := [] } W)
  (hiter : ∀ (l : Nat) (W : World) (S' : Nat → Prop) (J' : List α → World → Prop), Evo (fun _ => False) w W → (∀ k, S' k → k < W.heap.size ∧ (S k ∨ w.heap.size ≤ k)) →
   (∀ pre A B, J' pre A → LowEq W.heap.size A B → J' pre B) →
   (∀ pre x xs W1, J' pre W1 → (pre ++ [x]) <+: c → E x xs → YieldAt (Fence.ro none) 0 P l xs W1 fun e W' => e = .returned (.bool true) ∧ J' (pre ++ [x]) W' ∧ Evo S' W1 W') →
   J' [] W → Calls P gf (#[.func (.yield l) #[] #[]] ++ lb) W fun e W' => (∃ v, e = .returned v) ∧ J' c W' ∧ Evo S' W W')
  (hdone : ∀ (D : Nat) (W : World), w.heap.size ≤ D → J c W → Evo S w W → W.heap[D]? = some (.deferred (some [])) → Q .normal { a with defers := { target := .collected D, args := #[] } :: a.defers } W) :
  (Code.rangeFunc g ps assign body).wp P Q a w := by
 refine (wpIn_wide (n := 0)).1 (wpIn_rangeFunc ?_)
 intro fn hfn
 rw [show Fence.wide.round = none from rfl]
 obtain ⟨rec, hrec⟩ : ∃ rec : LoopState → Option Code → Loop, rec = fun st pe => { state := st, pending := pe, fn, tmps := a.tmps, params := ps, assign, body, defers := w.heap.size } := ⟨_, rfl⟩
 obtain ⟨W1, hW1⟩ : ∃ W1, (w.alloc (.deferred (some []))).alloc (.loop (rec .ready none)) = W1 := ⟨_, rfl⟩
 have hL1 : W1.heap[w.heap.size + 1]? = some (.loop (rec .ready none)) := by
  rw [← hW1]; have := World.alloc_heap_new (w.alloc (.deferred (some []))) (.loop (rec .ready none)); rwa [World.size_alloc] at this
 have hE1 : Evo (fun _ => False) w W1 := by rw [← hW1]; exact (Evo.alloc w _).trans (Evo.alloc _ _)
 have hs1 : W1.heap.size = w.heap.size + 2 := by rw [← hW1]; simp
 have hK1 : W1.heap[w.heap.size]? = some (.deferred (some [])) := by
  rw [← hW1, (Evo.alloc (w.alloc (.deferred (some []))) (.loop (rec .ready none))).blk w.heap.size (by simp) (fun h => h)]
  exact World.alloc_heap_new w _
 have hI1 : J [] W1 := hJ _ _ _ h0 (hE1.low (Nat.le_refl _) (fun k h => h.elim))
 refine ⟨w.heap.size + 1, [{ target := .collected w.heap.size, args := #[] }], W1, { target := .fn (.func gf) lb, args := #[.func (.yield (w.heap.size + 1)) #[] #[]] }, W1, gf,
  #[.func (.yield (w.heap.size + 1)) #[] #[]] ++ lb, W1, ?_, ?_, (fun _ _ => trivial), ?_, (fun h => by cases h), ?_⟩
 ·rw [← hW1, hrec]; exact run_enterLoop_outer _ _ _ _ _
 ·simp only [resolve, hg]
  simp [go_sem]
 ·simp [invoke, go_sem, eg]
 ·refine callsIn_wide.2 ?_
  refine Calls.mono (hiter (w.heap.size + 1) W1 (fun k => k < W1.heap.size ∧ (S k ∨ k = w.heap.size + 1))
   (fun pre W => J pre W ∧ W.heap[w.heap.size + 1]? = some (.loop (rec .ready none)) ∧ W.heap[w.heap.size]? = some (.deferred (some [])))
   hE1 (fun k hk => ⟨hk.1, hk.2.imp id (fun h => by omega)⟩)
   (fun pre A B h hlow => ⟨hJ _ _ _ h.1 (hlow.less (by omega)), by rw [hlow.blk _ (by omega)]; exact h.2.1, by rw [hlow.blk _ (by omega)]; exact h.2.2⟩)
   ?_ ⟨hI1, hL1, hK1⟩) ?_
  ·rintro pre x xs W ⟨hi, hl, hk⟩ hpre hE
   have hlt : w.heap.size + 1 < W.heap.size := (Array.getElem?_eq_some_iff.1 hl).1
   have hy := run_yield (P := P) (args := xs) hl (by rw [hrec]; exact hps x xs hE)
   rw [hrec] at hy
   refine ⟨fn, _, assign, body, hy, roundIn_of_wpIn (F := Fence.ro none) trivial ?_⟩
   refine wpIn_mono (hround (w.heap.size + 1) pre x xs W hi hpre hE (by omega) hlt) ?_
   rintro e a1 W2 hp
   cases e with
   | normal =>
    obtain ⟨hev, hbody⟩ := hp
    have hl2 : W2.heap[w.heap.size + 1]? = some (.loop (rec .ready none)) := by rw [hev.blk _ hlt (fun h => h)]; exact hl
    have hk2 : W2.heap[w.heap.size]? = some (.deferred (some [])) := by rw [hev.blk _ (by omega) (fun h => h)]; exact hk
    have hlt2 : w.heap.size + 1 < W2.heap.size := (Array.getElem?_eq_some_iff.1 hl2).1
    refine ⟨_, run_beginRound hl2 (by rw [hrec]), ?_⟩
    have hput := Evo.put W2 (w.heap.size + 1) (.loop { rec .ready none with state := .busy })
    refine wpIn_mono (hbody _ hput) ?_
    rintro e3 a3 W3 ⟨rfl, hJ3, hev3⟩
    have nS : ∀ k, w.heap.size ≤ k → k < W.heap.size → ¬ (S k ∨ W.heap.size ≤ k) := fun k hk hk2 hs => by
     rcases hs with hs | hs
     ·have := hS k hs; omega
     ·omega
    have hsz2 := hev.size
    have hl3 : W3.heap[w.heap.size + 1]? = some (.loop { rec .ready none with state := .busy }) := by
     rw [hev3.blk _ (by simpa using hlt2) (nS _ (by omega) hlt)]
     exact World.putObj_heap_same hlt2
    have hk3 : W3.heap[w.heap.size]? = some (.deferred (some [])) := by
     rw [hev3.blk _ (by simp; omega) (nS _ (by omega) (by omega)), World.putObj_heap_other (by omega)]
     exact hk2
    have hlt3 : w.heap.size + 1 < W3.heap.size := (Array.getElem?_eq_some_iff.1 hl3).1
    have hend := run_endRound (P := P) none hl3
    have hput3 := Evo.put W3 (w.heap.size + 1) (.loop { { rec .ready none with state := .busy } with state := if (none : Option Code).isNone then .ready else .done, pending := none })
    refine ⟨_, _, hend, rfl, ⟨?_, ?_, ?_⟩, ?_⟩
    ·exact hJ _ _ _ hJ3 (hput3.low (by omega) (fun k h => by omega))
    ·rw [World.putObj_heap_same hlt3, hrec]; rfl
    ·rw [World.putObj_heap_other (by omega)]; exact hk3
    ·have e1 : Evo (fun k => (k < W1.heap.size ∧ (S k ∨ k = w.heap.size + 1)) ∨ W.heap.size ≤ k) W W2 := hev.mono (fun k _ h => h.elim)
     have hWW : W1.heap.size ≤ W.heap.size := by omega
     have e2 : Evo (fun k => (k < W1.heap.size ∧ (S k ∨ k = w.heap.size + 1)) ∨ W.heap.size ≤ k) W2 _ := hput.mono (fun k _ h => .inl ⟨by omega, .inr h⟩)
     have e3 : Evo (fun k => (k < W1.heap.size ∧ (S k ∨ k = w.heap.size + 1)) ∨ W.heap.size ≤ k) _ W3 := hev3.mono (fun k _ h => h.imp (fun h => ⟨by have := hS k h; omega, .inl h⟩) id)
     exact (((e1.trans e2).trans e3).trans (hput3.mono (fun k _ h => .inl ⟨by omega, .inr h⟩))).mono (fun k hk h => h.resolve_right (by omega))
   | _ => exact hp.elim
  ·rintro e W2 ⟨⟨v, rfl⟩, ⟨hi, hl, hk⟩, hev⟩
   refine ⟨none, _, by have := run_endLoop (P := P) hl (by rw [hrec]; simp); rw [hrec] at this; exact this, ?_⟩
   have hlt2 : w.heap.size + 1 < W2.heap.size := (Array.getElem?_eq_some_iff.1 hl).1
   have hput := Evo.put W2 (w.heap.size + 1) (.loop { rec .ready none with state := .exhausted })
   rw [hrec] at hput
   refine hdone w.heap.size _ (Nat.le_refl _) (hJ _ _ _ hi (hput.low (by omega) (fun k h => by omega))) ?_ ((World.putObj_heap_other (by omega)).trans hk)
   have e1 := (hE1.mono (S' := fun k => S k ∨ k = w.heap.size + 1) (fun k _ h => h.elim)).trans ((hev.mono (fun k _ h => h.2)).trans (hput.mono (fun k _ h => .inr h)))
   exact e1.mono (fun k hk h => h.resolve_right (by omega))

/-! ### what is asked around such a loop -/
theorem calls_bodyM {f : FuncId} {fn : Func} {args : List Value} {w : World} {R : Ending → World → Prop} (hf : P.funcs[f]? = some fn) (hb : fn.body = some (cBody fn)) (n : Nat) (hn : fn.ntmps = n) (hle : Nat.ble args.length n = true) (B : Base) (I : Imm) (X : List Res)
  (K : List (Nat × Value)) (hK : K.map (fun p => args[p.1]?) = K.map (fun p => some p.2)) (hs : Sat B I w.heap.size [] X w)
  (h : OK P (cBody fn) (bodyPostM Fence.wide 0 P fn R) ⟨n, []⟩ K B I w.heap.size [] X) : Calls P f args.toArray w R := by
 refine (callsIn_wide (n := 0)).1 (callsIn_of_wp_marks hf hb trivial (wpIn_wide.2 (h _ w ⟨?_, rfl, fun p hp => ?_⟩ hs)) rfl)
 ·have := Nat.le_of_ble_eq_true hle
  simp only [Array.size_append, List.size_toArray, Array.size_replicate]
  omega
 ·obtain ⟨i, hi, rfl⟩ := List.getElem_of_mem hp
  have h1 := congrArg (·[i]?) hK
  simp only [List.getElem?_map, List.getElem?_eq_getElem hi, Option.map_some, Option.some.injEq] at h1
  have hlt := (List.getElem?_eq_some_iff.1 h1).1
  simp only
  rw [Array.getElem?_append_left (by simpa using hlt), List.getElem?_toArray]
  exact h1
theorem QN.bodyM {fn : Func} {Rr : Ending → World → Prop} {A : Fr} {K : List (Nat × Value)} {B : Base} {I : Imm} {nx : Nat} {L : List Blk} {X : List Res} {D : Nat} (hA : A.D = [{ target := .collected D, args := #[] }]) (v : Value) (hk : resKnown K fn.results.toList = true)
  (h : (simQ P [] [] (resultsK fn K) .no []).map (·.1) = some v) (hD : ∀ w, Sat B I nx L X w → w.heap[D]? = some (.deferred (some [])))
  (k : ∀ w, Sat B I nx L X w → Rr (.returned v) (w.putObj D (.deferred none))) : QN (bodyPostM Fence.wide 0 P fn Rr) .ret A K B I nx L X := by
 intro a w ha hs
 show LeavesInM Fence.wide 0 P fn a.tmps Rr a.defers .returning w
 rw [ha.defers, hA]
 refine ⟨(fun h => by cases h), .inl ⟨D, _, rfl, run_takeDeferred (hD w hs), ?_⟩⟩
 refine ⟨v, ?_, k w hs⟩
 rw [results_eq hk ha]
 cases hsim : simQ P [] [] (resultsK fn K) .no [] with
 | none => rw [hsim] at h; cases h
 | some x =>
  obtain ⟨x1, es1⟩ := x
  rw [hsim] at h
  simp only [Option.map_some, Option.some.injEq] at h
  subst h
  exact simQ_any _ _ _ _ hsim _

/-- What others hold and may turn: told by a world that is the same there. -/
def jres (S : Nat → Prop) (W0 : World) (J : World → Prop) : Res where
 fp := S
 P := fun _ w => ∃ W', J W' ∧ Evo S W0 W' ∧ ∀ k, S k → w.heap[k]? = W'.heap[k]?
 stable := fun _ _ _ h ⟨W', h1, h2, h3⟩ => ⟨W', h1, h2, fun k hk => (h k hk).trans (h3 k hk)⟩
 ext := fun _ _ _ _ h => h
theorem jres_at {S : Nat → Prop} {W0 : World} {I0 I : Imm} {J : World → Prop} {nx : Nat} {L : List Blk} {X : List Res} {w : World} (h : Sat ⟨W0, S, I0⟩ I nx L X w) (hm : jres S W0 J ∈ X) (hJ : ∀ A B, J A → LowEq W0.heap.size A B → J B) : J w := by
 obtain ⟨W', h1, h2, h3⟩ := h.res _ hm
 refine hJ W' w h1 ⟨h.evo.os.trans h2.os.symm, h.evo.tape.trans h2.tape.symm, h.evo.output.trans h2.output.symm, fun k hk => ?_⟩
 by_cases hs : S k
 ·exact h3 k hs
 ·exact (h.evo.blk k hk hs).trans (h2.blk k hk hs).symm
theorem Sat.yielded {S : Nat → Prop} {W0 : World} {I0 I : Imm} {J J' : World → Prop} {nx : Nat} {L : List Blk} {X : List Res} {w w' : World} (h : Sat ⟨W0, S, I0⟩ I nx L (jres S W0 J :: X) w) (hS : ∀ k, S k → k < W0.heap.size) (hev : Evo S w w') (hJ' : J' w') : Sat ⟨W0, S, I0⟩ I w'.heap.size L (jres S W0 J' :: X) w' := by
 have hm : jres S W0 J ∈ jres S W0 J :: X := List.mem_cons_self
 have hsz := hev.size
 have hnx := h.hnx
 have h00 : W0.heap.size ≤ w.heap.size := h.evo.size
 have hE := h.evo.trans (hev.mono (fun k _ hk => hk))
 have hp := List.pairwise_cons.1 h.rdis
 refine ⟨hE, rfl, ?_, h.own, h.ne, ?_, ?_, List.pairwise_cons.2 ⟨hp.1, hp.2⟩, ?_, ?_, h.imL, ?_, h.le, h.inew⟩
 ·intro b hb
  rw [hev.blk b.g (by rw [hnx]; exact h.lt hb) (fun hs => h.rblk _ hm b hb hs)]
  exact h.blk b hb
 ·intro r hr
  rcases List.mem_cons.1 hr with rfl | hr
  ·exact ⟨w', hJ', hE, fun _ _ => rfl⟩
  ·refine r.stable I w w' (fun k hk => hev.blk k (by rw [hnx]; exact (h.rown r (List.mem_cons_of_mem _ hr) k hk).1) (fun hs => hp.1 r hr k hs hk)) (h.res r (List.mem_cons_of_mem _ hr))
 ·intro r hr k hk
  rcases List.mem_cons.1 hr with rfl | hr
  ·have := hS k hk
   exact ⟨by omega, .inr hk⟩
  ·have := h.rown r (List.mem_cons_of_mem _ hr) k hk
   exact ⟨by omega, this.2⟩
 ·intro r hr b hb
  rcases List.mem_cons.1 hr with rfl | hr
  ·exact h.rblk _ hm b hb
  ·exact h.rblk r (List.mem_cons_of_mem _ hr) b hb
 ·intro a v ha
  have hc := h.im a v ha
  rw [← hc]
  exact look_of_block (w := w) (hev.blk _ (look_lt hc) (fun hs => h.imX a v ha _ hm hs))
 ·intro a v ha r hr
  rcases List.mem_cons.1 hr with rfl | hr
  ·exact h.imX a v ha (jres S W0 J) hm
  ·exact h.imX a v ha r (List.mem_cons_of_mem _ hr)
/-- The start, with what others hold. -/
theorem Sat.startJ {S : Nat → Prop} {W : World} {I : Imm} {J : World → Prop} (hI : I.at_ W) (hS : ∀ k, S k → k < W.heap.size) (hIS : ∀ a v, I a = some v → ¬ S a.block) (hJ : J W) : Sat ⟨W, S, I⟩ I W.heap.size [] [jres S W J] W := by
 have h := Sat.start W S I hI
 refine ⟨h.evo, h.hnx, h.blk, h.own, h.ne, ?_, ?_, List.pairwise_singleton _ _, ?_, h.im, h.imL, ?_, h.le, h.inew⟩
 ·intro r hr
  rw [List.mem_singleton.1 hr]
  exact ⟨W, hJ, Evo.refl _ _, fun _ _ => rfl⟩
 ·intro r hr k hk
  rw [List.mem_singleton.1 hr] at hk
  exact ⟨hS k hk, .inr hk⟩
 ·intro r hr b hb
  cases hb
 ·intro a v ha r hr
  rw [List.mem_singleton.1 hr]
  exact hIS a v ha
/-- Two pieces of memory at the start. -/
theorem Sat.start2 {S : Nat → Prop} {W : World} {I : Imm} (hI : I.at_ W) (L : List Blk) (hL : ∀ b ∈ L, W.heap[b.g]? = some (.cells b.cs.toArray b.ty (0, 0)) ∧ S b.g ∧ ∀ a v, I a = some v → b.g ≠ a.block) (hne : L.Pairwise (fun a b => a.g ≠ b.g))
  (r1 r2 : Res) (h1 : r1.P I W) (h2 : r2.P I W) (hf1 : ∀ k, r1.fp k → k < W.heap.size ∧ S k ∧ (∀ b ∈ L, b.g ≠ k) ∧ ∀ a v, I a = some v → a.block ≠ k) (hf2 : ∀ k, r2.fp k → k < W.heap.size ∧ S k ∧ (∀ b ∈ L, b.g ≠ k) ∧ ∀ a v, I a = some v → a.block ≠ k) (hd : ∀ k, r1.fp k → ¬ r2.fp k) :
  Sat ⟨W, S, I⟩ I W.heap.size L [r1, r2] W := by
 have h := Sat.start W S I hI
 have two : ∀ r ∈ [r1, r2], r = r1 ∨ r = r2 := fun r hr => by simpa using hr
 refine ⟨h.evo, h.hnx, fun b hb => (hL b hb).1, fun b hb => .inr (hL b hb).2.1, hne, ?_, ?_, ?_, ?_, h.im, fun a v ha b hb => (hL b hb).2.2 a v ha, ?_, h.le, h.inew⟩
 ·intro r hr
  rcases two r hr with rfl | rfl <;> assumption
 ·intro r hr k hk
  rcases two r hr with rfl | rfl
  ·exact ⟨(hf1 k hk).1, .inr (hf1 k hk).2.1⟩
  ·exact ⟨(hf2 k hk).1, .inr (hf2 k hk).2.1⟩
 ·exact List.pairwise_cons.2 ⟨fun r hr k hk => by rw [List.mem_singleton.1 hr]; exact hd k hk, List.pairwise_singleton _ _⟩
 ·intro r hr b hb hk
  rcases two r hr with rfl | rfl
  ·exact (hf1 _ hk).2.2.1 b hb rfl
  ·exact (hf2 _ hk).2.2.1 b hb rfl
 ·intro a v ha r hr hk
  rcases two r hr with rfl | rfl
  ·exact (hf1 _ hk).2.2.2 a v ha rfl
  ·exact (hf2 _ hk).2.2.2 a v ha rfl
/-- The block of the rounds' deferred calls. -/
def dres (D : Nat) (o : Option (List Deferred)) : Res where
 fp := fun k => k = D
 P := fun _ w => w.heap[D]? = some (.deferred o)
 stable := fun _ w w' h hp => by rw [h D rfl]; exact hp
 ext := fun _ _ _ _ h => h
/-- Behind a loop whose rounds have turned two pieces of memory. -/
theorem Sat.turned {B : Base} {I : Imm} {nx : Nat} {r1 r2 r1' r2' : Res} {w w' : World} (h : Sat B I nx [] [r1, r2] w) {S : Nat → Prop} (hS : ∀ k, S k → r1.fp k ∨ r2.fp k) (hev : Evo S w w') (e1 : r1'.fp = r1.fp) (e2 : r2'.fp = r2.fp) (h1 : r1'.P I w') (h2 : r2'.P I w') {D : Nat} (hD : w'.heap[D]? = some (.deferred (some []))) (hDn : w.heap.size ≤ D) :
  Sat B I w'.heap.size [] [r1', r2', dres D (some [])] w' := by
 have m1 : r1 ∈ [r1, r2] := List.mem_cons_self
 have m2 : r2 ∈ [r1, r2] := List.mem_cons_of_mem _ List.mem_cons_self
 have hnx := h.hnx
 have hsz := hev.size
 have h0 := h.evo.size
 have hDl := (Array.getElem?_eq_some_iff.1 hD).1
 have hd12 : ∀ k, r1.fp k → ¬ r2.fp k := (List.pairwise_cons.1 h.rdis).1 r2 List.mem_cons_self
 have three : ∀ r ∈ [r1', r2', dres D (some [])], r = r1' ∨ r = r2' ∨ r = dres D (some []) := fun r hr => by simpa using hr
 have own1 : ∀ k, r1'.fp k → k < nx ∧ (B.w0.heap.size ≤ k ∨ B.S k) := fun k hk => h.rown r1 m1 k (by rw [← e1]; exact hk)
 have own2 : ∀ k, r2'.fp k → k < nx ∧ (B.w0.heap.size ≤ k ∨ B.S k) := fun k hk => h.rown r2 m2 k (by rw [← e2]; exact hk)
 refine ⟨⟨hev.os.trans h.evo.os, hev.tape.trans h.evo.tape, hev.output.trans h.evo.output, by omega, fun k hk hn => ?_⟩, rfl, (fun b hb => by cases hb), (fun b hb => by cases hb), List.Pairwise.nil, ?_, ?_, ?_, (fun r _ b hb => by cases hb), ?_, (fun a v _ b hb => by cases hb), ?_, h.le, h.inew⟩
 ·refine (hev.blk k (by omega) (fun hs => ?_)).trans (h.evo.blk k hk hn)
  rcases hS k hs with h3 | h3
  ·rcases (h.rown r1 m1 k h3).2 with h4 | h4
   ·omega
   ·exact hn h4
  ·rcases (h.rown r2 m2 k h3).2 with h4 | h4
   ·omega
   ·exact hn h4
 ·intro r hr
  rcases three r hr with rfl | rfl | rfl
  ·exact h1
  ·exact h2
  ·exact hD
 ·intro r hr k hk
  rcases three r hr with rfl | rfl | rfl
  ·have := own1 k hk; exact ⟨by omega, this.2⟩
  ·have := own2 k hk; exact ⟨by omega, this.2⟩
  ·obtain rfl : k = D := hk
   exact ⟨hDl, .inl (by omega)⟩
 ·refine List.pairwise_cons.2 ⟨fun r hr k hk => ?_, List.pairwise_cons.2 ⟨fun r hr k hk => ?_, List.pairwise_singleton _ _⟩⟩
  ·rcases List.mem_cons.1 hr with rfl | hr
   ·rw [e2]; exact hd12 k (by rw [← e1]; exact hk)
   ·rw [List.mem_singleton.1 hr]
    intro hk2
    obtain rfl : k = D := hk2
    have := own1 k hk
    omega
  ·rw [List.mem_singleton.1 hr]
   intro hk2
   obtain rfl : k = D := hk2
   have := own2 k hk
   omega
 ·intro a v ha
  have hc := h.im a v ha
  rw [← hc]
  exact look_of_block (w := w) (hev.blk _ (look_lt hc) (fun hs => (hS _ hs).elim (h.imX a v ha _ m1) (h.imX a v ha _ m2)))
 ·intro a v ha r hr
  rcases three r hr with rfl | rfl | rfl
  ·rw [e1]; exact h.imX a v ha _ m1
  ·rw [e2]; exact h.imX a v ha _ m2
  ·intro hk
   have h3 : a.block = D := hk
   have := look_lt (h.im a v ha)
   omega
/-- A region that draws, over any state. -/
theorem drawnAnyS {A : Fr} {K : List (Nat × Value)} {Q : Exit → Act → World → Prop} {B : Base} {I : Imm} {nx : Nat} {L : List Blk} {X : List Res} (t : Nat) (os : List Oper) (an : List Nat) (vl : List (Nat × (Wt → Value))) (gl : List (Nat × ((Nat → Wt) → Value))) (R : List (Addr × Value)) (Lq : List Blk) (locs : List Loc)
  (han : ancs os [] = an) (hok : drawOk os an t = true) (hlt : (vl.all fun p => decide (p.1 < t)) = true) (vs : (Nat → Wt) → List Value) (K' : (Nat → Wt) → List (Nat × Value))
  (hv : ∀ u, (qSim P R Lq os A vl gl u locs 0 (os.take t) K).map (fun x => (x.1, x.2.1)) = some (vs u, K' u))
  (he : ∀ u, (qSim P R Lq os A vl gl u locs 0 (os.take t) K).map (fun x => x.2.2.map (·.1)) = (qSim P R Lq os A vl gl u locs 0 (os.take t) K).map (fun x => x.2.2.map (·.2)))
  (S : (Nat → Bool) → (Nat → Wt) → World → Prop) (hS : ∀ D u w, S D u w → (∀ b ∈ Lq, w.heap[b.g]? = some (.cells b.cs.toArray b.ty (0, 0))) ∧ ∀ r ∈ R, w.cell? r.1 = some r.2)
  (h0 : ∀ u w, Sat B I nx L X w → S (fun _ => false) u w)
  (Ks : List ((Nat → Wt) → List (Nat × Value))) (hf : framesOk A K os vs vl Ks) (hl : Louds P os an vl S vl Ks)
  (Kg : List ((Nat → Wt) → List (Nat × Value))) (hfg : framesOk A K os vs gl Kg) (hg : Givens P os an vl S gl Kg)
  (k : ∀ u a w, S (Dall vl) u w → Knows A (K' u) a → wpList P os.toArray Q (os.drop t) a w) : ∀ a w, Knows A K a → Sat B I nx L X w → wpAny P .any os.toArray Q os.toArray.size (Array.replicate os.toArray.size false) a { w with drawn := w.drawn + 1 } := by
 obtain ⟨e, h1, h2⟩ := vsOf_eq hv
 subst e
 exact Sat.drawnAny t os an vl gl R Lq locs han hok hlt h1 he S hS h0 Ks hf hl Kg hfg hg K' h2 k
/-- A map's own mark. -/
def mapImm (g : Nat) (v : Value) : Imm := fun a => if a = ⟨g, 0, some 0⟩ then some v else none
def Mp {α β : Type} (kE : α → Value) (vE : β → Value) (I : Imm) (g : Nat) (l : List (α × β)) : Prop := I ⟨g, 0, some 0⟩ = some (codeM (ents kE vE 0 l).toArray)
theorem codeM_inj {a b : Array MapEntry} (h : codeM a = codeM b) : a = b := by
 unfold codeM at h
 injection h with h
 have h1 := congrArg Array.toList h
 simp only [List.cons.injEq, Value.agg.injEq, and_true] at h1
 obtain ⟨h1, h2, h3⟩ := h1
 have hs : a.size = b.size := by have := congrArg Array.size h1; simpa using this
 apply Array.ext hs
 intro i hi hj
 have g1 := congrArg (·[i]?) h1
 have g2 := congrArg (·[i]?) h2
 have g3 := congrArg (·[i]?) h3
 simp only [Array.getElem?_map, Array.getElem?_eq_getElem hi, Array.getElem?_eq_getElem hj, Option.map_some, Option.some.injEq, Value.int.injEq, true_and, Int.ofNat_inj] at g1 g2 g3
 cases ha : a[i]
 cases hb : b[i]
 rw [ha, hb] at g1 g2 g3
 simp only at g1 g2 g3
 rw [g1, g2, g3]
section
variable {T Kt Et : TypeId} {α β : Type} [DecidableEq α] {kE : α → Value} {vE : β → Value} {z : β}
omit [DecidableEq α] in
theorem Mp.ext {I J : Imm} {g : Nat} {l : List (α × β)} (h : I.le J) (hm : Mp kE vE I g l) : Mp kE vE J g l := h _ _ hm
theorem run_lookF (hM : MT P T Kt Et kE vE z) {I : Imm} {g : Nat} {l : List (α × β)} (hm : Mp kE vE I g l) {w : World} (hI : I.at_ w) (a : α) (ok : Bool) :
  (Instr.lookup T (.map (some g)) (kE a) ok).run P w = .ok (if ok = true then .tuple #[vE ((mget l a).getD z), .bool (mget l a).isSome] else vE ((mget l a).getD z)) w := by
 have h := hI _ _ hm
 simp only [look] at h
 split at h
 ·rename_i es c hg
  have he := codeM_inj (Option.some.inj h)
  subst he
  exact hM.lookup (q := 0) (by simp) hg a ok
 ·cases h
variable {Q : Exit → Act → World → Prop} {A : Fr} {K : List (Nat × Value)} {B : Base} {I : Imm} {nx : Nat} {L : List Blk} {X : List Res} {os : List Oper} {p : Nat}
theorem RL.lookF (hM : MT P T Kt Et kE vE z) (a : α) {g : Nat} {l : List (α × β)} (d : Option Tmp) (hl : ready os p K d = true) (hm : Mp kE vE I g l)
  (hx : execOp (evalK K) (os.getD p default) = toNext (Instr.lookup T (.map (some g)) (kE a) true)) {K' : List (Nat × Value)}
  (hF : putK A K d (.tuple #[vE ((mget l a).getD z), .bool (mget l a).isSome]) = K') (k : RL P os Q (p + 1) A K' B I nx L X) : RL P os Q p A K B I nx L X :=
 RL.quiet d _ hl hF (fun w hs => by rw [hx]; exact run_toNext (run_lookF hM hm hs.im a true)) k
theorem giv_look (hM : MT P T Kt Et kE vE z) (a : α) {g : Nat} {l : List (α × β)} (hm : Mp kE vE I g l) {w : World} (hI : I.at_ w)
  (hx : execOp (evalK K) (os.getD p default) = toNext (Instr.lookup T (.map (some g)) (kE a) true)) : (execOp (evalK K) (os.getD p default)).run P w = .ok (.value (.tuple #[vE ((mget l a).getD z), .bool (mget l a).isSome])) w := by
 rw [hx]; exact run_toNext (run_lookF hM hm hI a true)
theorem Givens.consS {an : List Nat} {vl : List (Nat × (Wt → Value))} {S : (Nat → Bool) → (Nat → Wt) → World → Prop} {i : Nat} {f : (Nat → Wt) → Value} {r : List (Nat × ((Nat → Wt) → Value))} {Kl : (Nat → Wt) → List (Nat × Value)} {Ks : List ((Nat → Wt) → List (Nat × Value))}
  (h : ∀ D u w, (∀ j, behind an i j = true → (lk vl j).isSome = true → D j = true) → S D u w → (execOp (evalK (Kl u)) (os.getD i default)).run P w = .ok (.value (f u)) w)
  (h2 : ∀ u u', (∀ j, behind an i j = true → (lk vl j).isSome = true → u j = u' j) → f u = f u') (h3 : Givens P os an vl S r Ks) : Givens P os an vl S ((i, f) :: r) (Kl :: Ks) := ⟨h, h2, h3⟩
end
end Go.Proofs.YtiomeaoeegikkaaDoor.RW
namespace Go.Proofs.YtiomeaoeegikkaaDoor
open Go Go.Proofs.YtiomeaoeegikkaaDoor.RW
set_option linter.unusedVariables false
set_option maxRecDepth 100000
set_option maxHeartbeats 8000000

structure S25 where
 f0 : Int
 f1 : ByteArray
 f2 : List Int
def z25 : S25 := ⟨0, (⟨#[]⟩ : ByteArray), []⟩
def t25 : Ty S25 := Ty.iso (Ty.pair (Ty.int .i64) (Ty.pair Ty.string (Ty.slice (Ty.int .u8)))) (fun x => (x.f0, x.f1, x.f2))
theorem t25_open {I : Imm} {x : S25} {cs : List Value} (h : t25.K I x cs) : ∃ (A_2 : Option Addr) (c_2 : Nat), cs = [.int .i64 x.f0, .string x.f1, .slice A_2 x.f2.length c_2] ∧ x.f2.length ≤ c_2 ∧ Rd (Ty.int .u8) I A_2 x.f2 := by
 obtain ⟨_, _, rfl, rfl, ⟨_, _, rfl, rfl, ⟨A_2, c_2, rfl, l_2, r_2⟩⟩⟩ := h
 exact ⟨A_2, c_2, rfl, l_2, r_2⟩
theorem t25_mk (I : Imm) (x : S25) {A_2 : Option Addr} {c_2 : Nat} (l_2 : x.f2.length ≤ c_2) (r_2 : Rd (Ty.int .u8) I A_2 x.f2) : t25.K I x [.int .i64 x.f0, .string x.f1, .slice A_2 x.f2.length c_2] := ⟨_, _, rfl, rfl, ⟨_, _, rfl, rfl, ⟨A_2, c_2, rfl, l_2, r_2⟩⟩⟩
theorem t25_at {I : Imm} {A : Option Addr} {xs : List S25} (h : Rd t25 I A xs) (i : Int) (h0 : 0 ≤ i) (h1 : i < (xs.length : Int)) : ∃ g o, A = some ⟨g, o, none⟩ ∧ ∃ (A_2 : Option Addr) (c_2 : Nat), ((xs.getD i.toNat z25).f2).length ≤ c_2 ∧ Rd (Ty.int .u8) I A_2 ((xs.getD i.toNat z25).f2) ∧  (∀ j u, [.int .i64 (xs.getD i.toNat z25).f0, .string (xs.getD i.toNat z25).f1, .slice A_2 (xs.getD i.toNat z25).f2.length c_2][j]? = some u → I ⟨g, o + i.toNat * 3 + j, none⟩ = some u) := by
 obtain ⟨g, o, c, e, hk, hc⟩ := h.get z25 i h0 h1
 obtain ⟨A_2, c_2, rfl, l_2, r_2⟩ := t25_open hk
 exact ⟨g, o, e, A_2, c_2, l_2, r_2, hc⟩
theorem t25_own {I : Imm} {cs : List Value} {xs : List S25} (h : Reps t25 I xs cs) (i : Int) (h0 : 0 ≤ i) (h1 : i < (xs.length : Int)) : ∃ (A_2 : Option Addr) (c_2 : Nat), ((xs.getD i.toNat z25).f2).length ≤ c_2 ∧ Rd (Ty.int .u8) I A_2 ((xs.getD i.toNat z25).f2) ∧ (∀ j u, [.int .i64 (xs.getD i.toNat z25).f0, .string (xs.getD i.toNat z25).f1, .slice A_2 (xs.getD i.toNat z25).f2.length c_2][j]? = some u → cs[i.toNat * 3 + j]? = some u) := by
 obtain ⟨c, hk, hc⟩ := h.getE z25 i h0 h1
 obtain ⟨A_2, c_2, rfl, l_2, r_2⟩ := t25_open hk
 exact ⟨A_2, c_2, l_2, r_2, hc⟩
theorem t25_at' {I : Imm} {g o : Nat} {xs : List S25} (h : Rd t25 I (some ⟨g, o, none⟩) xs) (i : Int) (h0 : 0 ≤ i) (h1 : i < (xs.length : Int)) : ∃ (A_2 : Option Addr) (c_2 : Nat), ((xs.getD i.toNat z25).f2).length ≤ c_2 ∧ Rd (Ty.int .u8) I A_2 ((xs.getD i.toNat z25).f2) ∧  (∀ j u, [.int .i64 (xs.getD i.toNat z25).f0, .string (xs.getD i.toNat z25).f1, .slice A_2 (xs.getD i.toNat z25).f2.length c_2][j]? = some u → I ⟨g, o + i.toNat * 3 + j, none⟩ = some u) := by
 obtain ⟨g', o', e, r⟩ := t25_at h i h0 h1
 injection e with e
 injection e with e1 e2
 subst e1; subst e2
 exact r
structure S66 where
 f0 : Int
def z66 : S66 := ⟨0⟩
def t66 : Ty S66 := Ty.iso (Ty.int .i64) (fun x => x.f0)
theorem t66_open {I : Imm} {x : S66} {cs : List Value} (h : t66.K I x cs) : ∃ (_ : Unit), cs = [.int .i64 x.f0] := by
 obtain rfl := h
 exact ⟨(), rfl⟩
theorem t66_mk (I : Imm) (x : S66) : t66.K I x [.int .i64 x.f0] := rfl
theorem t66_at {I : Imm} {A : Option Addr} {xs : List S66} (h : Rd t66 I A xs) (i : Int) (h0 : 0 ≤ i) (h1 : i < (xs.length : Int)) : ∃ g o, A = some ⟨g, o, none⟩ ∧  (∀ j u, [.int .i64 (xs.getD i.toNat z66).f0][j]? = some u → I ⟨g, o + i.toNat * 1 + j, none⟩ = some u) := by
 obtain ⟨g, o, c, e, hk, hc⟩ := h.get z66 i h0 h1
 obtain ⟨_, rfl⟩ := t66_open hk
 exact ⟨g, o, e, hc⟩
theorem t66_own {I : Imm} {cs : List Value} {xs : List S66} (h : Reps t66 I xs cs) (i : Int) (h0 : 0 ≤ i) (h1 : i < (xs.length : Int)) : (∀ j u, [.int .i64 (xs.getD i.toNat z66).f0][j]? = some u → cs[i.toNat * 1 + j]? = some u) := by
 obtain ⟨c, hk, hc⟩ := h.getE z66 i h0 h1
 obtain ⟨_, rfl⟩ := t66_open hk
 exact hc
theorem t66_at' {I : Imm} {g o : Nat} {xs : List S66} (h : Rd t66 I (some ⟨g, o, none⟩) xs) (i : Int) (h0 : 0 ≤ i) (h1 : i < (xs.length : Int)) :  (∀ j u, [.int .i64 (xs.getD i.toNat z66).f0][j]? = some u → I ⟨g, o + i.toNat * 1 + j, none⟩ = some u) := by
 obtain ⟨g', o', e, r⟩ := t66_at h i h0 h1
 injection e with e
 injection e with e1 e2
 subst e1; subst e2
 exact r
structure S111 where
 f0 : List Int
 f1 : Int
 f2 : Int
def z111 : S111 := ⟨[], 0, 0⟩
def t111 : Ty S111 := Ty.iso (Ty.pair (Ty.slice (Ty.int .u8)) (Ty.pair (Ty.int .i64) (Ty.int .i64))) (fun x => (x.f0, x.f1, x.f2))
theorem t111_open {I : Imm} {x : S111} {cs : List Value} (h : t111.K I x cs) : ∃ (A_0 : Option Addr) (c_0 : Nat), cs = [.slice A_0 x.f0.length c_0, .int .i64 x.f1, .int .i64 x.f2] ∧ x.f0.length ≤ c_0 ∧ Rd (Ty.int .u8) I A_0 x.f0 := by
 obtain ⟨_, _, rfl, ⟨A_0, c_0, rfl, l_0, r_0⟩, ⟨_, _, rfl, rfl, rfl⟩⟩ := h
 exact ⟨A_0, c_0, rfl, l_0, r_0⟩
theorem t111_mk (I : Imm) (x : S111) {A_0 : Option Addr} {c_0 : Nat} (l_0 : x.f0.length ≤ c_0) (r_0 : Rd (Ty.int .u8) I A_0 x.f0) : t111.K I x [.slice A_0 x.f0.length c_0, .int .i64 x.f1, .int .i64 x.f2] := ⟨_, _, rfl, ⟨A_0, c_0, rfl, l_0, r_0⟩, ⟨_, _, rfl, rfl, rfl⟩⟩
theorem t111_at {I : Imm} {A : Option Addr} {xs : List S111} (h : Rd t111 I A xs) (i : Int) (h0 : 0 ≤ i) (h1 : i < (xs.length : Int)) : ∃ g o, A = some ⟨g, o, none⟩ ∧ ∃ (A_0 : Option Addr) (c_0 : Nat), ((xs.getD i.toNat z111).f0).length ≤ c_0 ∧ Rd (Ty.int .u8) I A_0 ((xs.getD i.toNat z111).f0) ∧  (∀ j u, [.slice A_0 (xs.getD i.toNat z111).f0.length c_0, .int .i64 (xs.getD i.toNat z111).f1, .int .i64 (xs.getD i.toNat z111).f2][j]? = some u → I ⟨g, o + i.toNat * 3 + j, none⟩ = some u) := by
 obtain ⟨g, o, c, e, hk, hc⟩ := h.get z111 i h0 h1
 obtain ⟨A_0, c_0, rfl, l_0, r_0⟩ := t111_open hk
 exact ⟨g, o, e, A_0, c_0, l_0, r_0, hc⟩
theorem t111_own {I : Imm} {cs : List Value} {xs : List S111} (h : Reps t111 I xs cs) (i : Int) (h0 : 0 ≤ i) (h1 : i < (xs.length : Int)) : ∃ (A_0 : Option Addr) (c_0 : Nat), ((xs.getD i.toNat z111).f0).length ≤ c_0 ∧ Rd (Ty.int .u8) I A_0 ((xs.getD i.toNat z111).f0) ∧ (∀ j u, [.slice A_0 (xs.getD i.toNat z111).f0.length c_0, .int .i64 (xs.getD i.toNat z111).f1, .int .i64 (xs.getD i.toNat z111).f2][j]? = some u → cs[i.toNat * 3 + j]? = some u) := by
 obtain ⟨c, hk, hc⟩ := h.getE z111 i h0 h1
 obtain ⟨A_0, c_0, rfl, l_0, r_0⟩ := t111_open hk
 exact ⟨A_0, c_0, l_0, r_0, hc⟩
theorem t111_at' {I : Imm} {g o : Nat} {xs : List S111} (h : Rd t111 I (some ⟨g, o, none⟩) xs) (i : Int) (h0 : 0 ≤ i) (h1 : i < (xs.length : Int)) : ∃ (A_0 : Option Addr) (c_0 : Nat), ((xs.getD i.toNat z111).f0).length ≤ c_0 ∧ Rd (Ty.int .u8) I A_0 ((xs.getD i.toNat z111).f0) ∧  (∀ j u, [.slice A_0 (xs.getD i.toNat z111).f0.length c_0, .int .i64 (xs.getD i.toNat z111).f1, .int .i64 (xs.getD i.toNat z111).f2][j]? = some u → I ⟨g, o + i.toNat * 3 + j, none⟩ = some u) := by
 obtain ⟨g', o', e, r⟩ := t111_at h i h0 h1
 injection e with e
 injection e with e1 e2
 subst e1; subst e2
 exact r
structure S50 where
 f0 : Int
 f1 : Int
def z50 : S50 := ⟨0, 0⟩
def t50 : Ty S50 := Ty.iso (Ty.pair (Ty.int .u8) (Ty.int .u8)) (fun x => (x.f0, x.f1))
theorem t50_open {I : Imm} {x : S50} {cs : List Value} (h : t50.K I x cs) : ∃ (_ : Unit), cs = [.int .u8 x.f0, .int .u8 x.f1] := by
 obtain ⟨_, _, rfl, rfl, rfl⟩ := h
 exact ⟨(), rfl⟩
theorem t50_mk (I : Imm) (x : S50) : t50.K I x [.int .u8 x.f0, .int .u8 x.f1] := ⟨_, _, rfl, rfl, rfl⟩
theorem t50_at {I : Imm} {A : Option Addr} {xs : List S50} (h : Rd t50 I A xs) (i : Int) (h0 : 0 ≤ i) (h1 : i < (xs.length : Int)) : ∃ g o, A = some ⟨g, o, none⟩ ∧  (∀ j u, [.int .u8 (xs.getD i.toNat z50).f0, .int .u8 (xs.getD i.toNat z50).f1][j]? = some u → I ⟨g, o + i.toNat * 2 + j, none⟩ = some u) := by
 obtain ⟨g, o, c, e, hk, hc⟩ := h.get z50 i h0 h1
 obtain ⟨_, rfl⟩ := t50_open hk
 exact ⟨g, o, e, hc⟩
theorem t50_own {I : Imm} {cs : List Value} {xs : List S50} (h : Reps t50 I xs cs) (i : Int) (h0 : 0 ≤ i) (h1 : i < (xs.length : Int)) : (∀ j u, [.int .u8 (xs.getD i.toNat z50).f0, .int .u8 (xs.getD i.toNat z50).f1][j]? = some u → cs[i.toNat * 2 + j]? = some u) := by
 obtain ⟨c, hk, hc⟩ := h.getE z50 i h0 h1
 obtain ⟨_, rfl⟩ := t50_open hk
 exact hc
theorem t50_at' {I : Imm} {g o : Nat} {xs : List S50} (h : Rd t50 I (some ⟨g, o, none⟩) xs) (i : Int) (h0 : 0 ≤ i) (h1 : i < (xs.length : Int)) :  (∀ j u, [.int .u8 (xs.getD i.toNat z50).f0, .int .u8 (xs.getD i.toNat z50).f1][j]? = some u → I ⟨g, o + i.toNat * 2 + j, none⟩ = some u) := by
 obtain ⟨g', o', e, r⟩ := t50_at h i h0 h1
 injection e with e
 injection e with e1 e2
 subst e1; subst e2
 exact r
structure S124 where
 f0 : List Int
 f1 : Int
def z124 : S124 := ⟨[], 0⟩
def t124 : Ty S124 := Ty.iso (Ty.pair (Ty.slice (Ty.int .u8)) (Ty.int .i64)) (fun x => (x.f0, x.f1))
theorem t124_open {I : Imm} {x : S124} {cs : List Value} (h : t124.K I x cs) : ∃ (A_0 : Option Addr) (c_0 : Nat), cs = [.slice A_0 x.f0.length c_0, .int .i64 x.f1] ∧ x.f0.length ≤ c_0 ∧ Rd (Ty.int .u8) I A_0 x.f0 := by
 obtain ⟨_, _, rfl, ⟨A_0, c_0, rfl, l_0, r_0⟩, rfl⟩ := h
 exact ⟨A_0, c_0, rfl, l_0, r_0⟩
theorem t124_mk (I : Imm) (x : S124) {A_0 : Option Addr} {c_0 : Nat} (l_0 : x.f0.length ≤ c_0) (r_0 : Rd (Ty.int .u8) I A_0 x.f0) : t124.K I x [.slice A_0 x.f0.length c_0, .int .i64 x.f1] := ⟨_, _, rfl, ⟨A_0, c_0, rfl, l_0, r_0⟩, rfl⟩
theorem t124_at {I : Imm} {A : Option Addr} {xs : List S124} (h : Rd t124 I A xs) (i : Int) (h0 : 0 ≤ i) (h1 : i < (xs.length : Int)) : ∃ g o, A = some ⟨g, o, none⟩ ∧ ∃ (A_0 : Option Addr) (c_0 : Nat), ((xs.getD i.toNat z124).f0).length ≤ c_0 ∧ Rd (Ty.int .u8) I A_0 ((xs.getD i.toNat z124).f0) ∧  (∀ j u, [.slice A_0 (xs.getD i.toNat z124).f0.length c_0, .int .i64 (xs.getD i.toNat z124).f1][j]? = some u → I ⟨g, o + i.toNat * 2 + j, none⟩ = some u) := by
 obtain ⟨g, o, c, e, hk, hc⟩ := h.get z124 i h0 h1
 obtain ⟨A_0, c_0, rfl, l_0, r_0⟩ := t124_open hk
 exact ⟨g, o, e, A_0, c_0, l_0, r_0, hc⟩
theorem t124_own {I : Imm} {cs : List Value} {xs : List S124} (h : Reps t124 I xs cs) (i : Int) (h0 : 0 ≤ i) (h1 : i < (xs.length : Int)) : ∃ (A_0 : Option Addr) (c_0 : Nat), ((xs.getD i.toNat z124).f0).length ≤ c_0 ∧ Rd (Ty.int .u8) I A_0 ((xs.getD i.toNat z124).f0) ∧ (∀ j u, [.slice A_0 (xs.getD i.toNat z124).f0.length c_0, .int .i64 (xs.getD i.toNat z124).f1][j]? = some u → cs[i.toNat * 2 + j]? = some u) := by
 obtain ⟨c, hk, hc⟩ := h.getE z124 i h0 h1
 obtain ⟨A_0, c_0, rfl, l_0, r_0⟩ := t124_open hk
 exact ⟨A_0, c_0, l_0, r_0, hc⟩
theorem t124_at' {I : Imm} {g o : Nat} {xs : List S124} (h : Rd t124 I (some ⟨g, o, none⟩) xs) (i : Int) (h0 : 0 ≤ i) (h1 : i < (xs.length : Int)) : ∃ (A_0 : Option Addr) (c_0 : Nat), ((xs.getD i.toNat z124).f0).length ≤ c_0 ∧ Rd (Ty.int .u8) I A_0 ((xs.getD i.toNat z124).f0) ∧  (∀ j u, [.slice A_0 (xs.getD i.toNat z124).f0.length c_0, .int .i64 (xs.getD i.toNat z124).f1][j]? = some u → I ⟨g, o + i.toNat * 2 + j, none⟩ = some u) := by
 obtain ⟨g', o', e, r⟩ := t124_at h i h0 h1
 injection e with e
 injection e with e1 e2
 subst e1; subst e2
 exact r
structure S121 where
 f0 : Int
def z121 : S121 := ⟨0⟩
def t121 : Ty S121 := Ty.iso (Ty.int .i64) (fun x => x.f0)
theorem t121_open {I : Imm} {x : S121} {cs : List Value} (h : t121.K I x cs) : ∃ (_ : Unit), cs = [.int .i64 x.f0] := by
 obtain rfl := h
 exact ⟨(), rfl⟩
theorem t121_mk (I : Imm) (x : S121) : t121.K I x [.int .i64 x.f0] := rfl
theorem t121_at {I : Imm} {A : Option Addr} {xs : List S121} (h : Rd t121 I A xs) (i : Int) (h0 : 0 ≤ i) (h1 : i < (xs.length : Int)) : ∃ g o, A = some ⟨g, o, none⟩ ∧  (∀ j u, [.int .i64 (xs.getD i.toNat z121).f0][j]? = some u → I ⟨g, o + i.toNat * 1 + j, none⟩ = some u) := by
 obtain ⟨g, o, c, e, hk, hc⟩ := h.get z121 i h0 h1
 obtain ⟨_, rfl⟩ := t121_open hk
 exact ⟨g, o, e, hc⟩
theorem t121_own {I : Imm} {cs : List Value} {xs : List S121} (h : Reps t121 I xs cs) (i : Int) (h0 : 0 ≤ i) (h1 : i < (xs.length : Int)) : (∀ j u, [.int .i64 (xs.getD i.toNat z121).f0][j]? = some u → cs[i.toNat * 1 + j]? = some u) := by
 obtain ⟨c, hk, hc⟩ := h.getE z121 i h0 h1
 obtain ⟨_, rfl⟩ := t121_open hk
 exact hc
theorem t121_at' {I : Imm} {g o : Nat} {xs : List S121} (h : Rd t121 I (some ⟨g, o, none⟩) xs) (i : Int) (h0 : 0 ≤ i) (h1 : i < (xs.length : Int)) :  (∀ j u, [.int .i64 (xs.getD i.toNat z121).f0][j]? = some u → I ⟨g, o + i.toNat * 1 + j, none⟩ = some u) := by
 obtain ⟨g', o', e, r⟩ := t121_at h i h0 h1
 injection e with e
 injection e with e1 e2
 subst e1; subst e2
 exact r

end Go.Proofs.YtiomeaoeegikkaaDoor
namespace Go.Proofs.YtiomeaoeegikkaaDoor.RW
open Go Go.RowKit

/-- The whole memory, as cells that never turn. -/
def wImm (W : World) : Imm := look W
theorem wImm_at (W : World) : (wImm W).at_ W := fun _ _ h => h
/-- What reads as a datum of type t is told by d, with p. -/
def Opens (P : Program) {α : Type} (d : Ty α) (t : TypeId) (p : α → Prop) : Prop :=
 ∀ {H : Type} {enc : TypeId × Value → H} (W : World) (base : Nat) (sp : Nat → Bool) (held : Bool) (fuel : Nat) (cs : List Value) (x : DataW H × List MemPlace), DataW.trod enc P W base sp held fuel t cs = some x → ∃ a, d.K (wImm W) a cs ∧ p a

section
variable {P : Program} {α β : Type} {d : Ty α} {t e : TypeId} {p : α → Prop}
theorem opens_int {k : IntKind} (ht : P.underlying t = some (.int k)) : Opens P (Ty.int k) t (fun n => (Lit.int k n).wf = true) := by
 intro H enc W base sp held fuel cs x h
 obtain ⟨n, rfl, _, hw⟩ := DataW.trod_int ht h
 exact ⟨n, rfl, hw⟩
theorem opens_bool (ht : P.underlying t = some .bool) : Opens P Ty.bool t (fun _ => True) := by
 intro H enc W base sp held fuel cs x h
 obtain ⟨b, rfl, _⟩ := DataW.trod_bool ht h
 exact ⟨b, rfl, trivial⟩
theorem opens_string (ht : P.underlying t = some .string) : Opens P Ty.string t (fun s => s.size ≤ maxLen) := by
 intro H enc W base sp held fuel cs x h
 obtain ⟨s, rfl, _, hs⟩ := DataW.trod_string ht h
 exact ⟨s, rfl, hs⟩
theorem add_add {a : Addr} (h : a.spot = none) (n m : Nat) : (a.add n).add m = ⟨a.block, a.off + n + m, none⟩ := by
 obtain ⟨b, o, s⟩ := a
 obtain rfl : s = none := h
 unfold Addr.add
 split <;> split <;> simp_all
theorem opens_slice (ho : Opens P d e p) (ht : P.underlying t = some (.slice e)) (hsz : P.cellsOf e = d.sz) (hpos : 0 < d.sz) : Opens P (Ty.slice d) t (fun l => ∀ x ∈ l, p x) := by
 intro H enc W base sp held fuel cs x h
 rcases DataW.trod_slice ht h with ⟨rfl, _⟩ | ⟨a, len, cap, elems, rest, n, _, rfl, _, hb, hl, hm, hlen, hel, _, _⟩
 ·exact ⟨[], ⟨none, 0, rfl, Nat.le_refl _, Rd.nil _ _ _⟩, fun x hx => by cases hx⟩
 ·have hsp0 : 0 < len → a.spot = none := by
   intro hi
   have h1 := hel 0 hi
   rw [List.getElem?_eq_getElem (by rw [hlen]; exact hi), Option.bind_eq_some_iff] at h1
   obtain ⟨c, hc, hy⟩ := h1
   obtain ⟨_, hcl, hcell⟩ := World.cells?_some hc
   have h2 := hcell 0 (by rw [hsz]; exact hpos)
   have hlt : 0 < c.length := by rw [hcl, hsz]; exact hpos
   rw [List.getElem?_eq_getElem hlt, show (a.add (0 * P.cellsOf e)).add 0 = a from by simp [Addr.add]] at h2
   cases hsp : a.spot with
   | none => rfl
   | some s =>
    exfalso
    unfold World.cell? at h2
    split at h2
    ·rw [hsp] at h2; simp at h2
    ·cases h2
  have each : ∀ i, i < len → ∃ v c, d.K (wImm W) v c ∧ p v ∧ a.spot = none ∧ ∀ q u, c[q]? = some u → wImm W ⟨a.block, a.off + i * d.sz + q, none⟩ = some u := by
   intro i hi
   have h1 := hel i hi
   rw [List.getElem?_eq_getElem (by rw [hlen]; exact hi), Option.bind_eq_some_iff] at h1
   obtain ⟨c, hc, hy⟩ := h1
   obtain ⟨v, hk, hp⟩ := ho W base sp held n c _ hy
   obtain ⟨_, hcl, hcell⟩ := World.cells?_some hc
   have hspot := hsp0 (by omega)
   refine ⟨v, c, hk, hp, hspot, fun q u hu => ?_⟩
   have hql : q < c.length := (List.getElem?_eq_some_iff.1 hu).1
   have h2 := hcell q (by rw [← hcl]; exact hql)
   rw [add_add hspot, hsz, hu] at h2
   exact h2
  have build : ∀ n, n ≤ len → ∃ l : List α, l.length = n ∧ (∀ x ∈ l, p x) ∧ ∀ (j : Nat) (v : α), l[j]? = some v → ∃ c, d.K (wImm W) v c ∧ a.spot = none ∧ ∀ q u, c[q]? = some u → wImm W ⟨a.block, a.off + j * d.sz + q, none⟩ = some u := by
   intro n
   induction n with
   | zero => intro _; exact ⟨[], rfl, (fun x hx => by cases hx), fun j v hj => by cases hj⟩
   | succ n ih =>
    intro hn
    obtain ⟨l, hl1, hl2, hl3⟩ := ih (by omega)
    obtain ⟨v, c, hk, hp, hs, hc⟩ := each n (by omega)
    refine ⟨l ++ [v], by simp [hl1], fun x hx => ?_, fun j w hj => ?_⟩
    ·rcases List.mem_append.1 hx with hx | hx
     ·exact hl2 x hx
     ·rw [List.mem_singleton.1 hx]; exact hp
    ·rcases Nat.lt_or_ge j l.length with hlt | hge
     ·rw [List.getElem?_append_left hlt] at hj
      exact hl3 j w hj
     ·rw [List.getElem?_append_right hge] at hj
      have hj0 : j - l.length = 0 := by
       rcases Nat.eq_zero_or_pos (j - l.length) with h0 | h0
       ·exact h0
       ·rw [List.getElem?_eq_none (by simp; omega)] at hj; cases hj
      rw [hj0] at hj
      simp only [List.getElem?_cons_zero, Option.some.injEq] at hj
      subst hj
      obtain rfl : j = n := by omega
      exact ⟨c, hk, hs, hc⟩
  obtain ⟨l, hl1, hl2, hl3⟩ := build len (Nat.le_refl _)
  refine ⟨l, ⟨some a, cap, by rw [hl1], by omega, ⟨by unfold maxLen at hm; omega, fun hne => ?_⟩⟩, hl2⟩
  have h0 : 0 < l.length := List.length_pos_iff.2 hne
  obtain ⟨_, _, hs, _⟩ := hl3 0 _ (List.getElem?_eq_getElem h0)
  refine ⟨a.block, a.off, by obtain ⟨b, o, s⟩ := a; simp_all, fun j v hj => ?_⟩
  obtain ⟨c, hk, _, hc⟩ := hl3 j v hj
  exact ⟨c, hk, hc⟩

/-- The fields of a struct, from cell 'off' on. -/
def offs : Nat → List (TypeId × Nat) → List (TypeId × Nat × Nat)
 | _, [] => []
 | o, (t, n) :: r => (t, o, n) :: offs (o + n) r
def total : List (TypeId × Nat) → Nat
 | [] => 0
 | (_, n) :: r => n + total r
def OpensF (P : Program) {α : Type} (d : Ty α) (fl : List (TypeId × Nat)) (p : α → Prop) : Prop :=
 ∀ {H : Type} {enc : TypeId × Value → H} (W : World) (base : Nat) (sp : Nat → Bool) (held : Bool) (fuel off : Nat) (cs : List Value),
  (∀ q ∈ offs off fl, ∃ x, DataW.trod enc P W base sp held fuel q.1 ((cs.drop q.2.1).take q.2.2) = some x) → cs.length = off + total fl → ∃ a, d.K (wImm W) a (cs.drop off) ∧ p a
theorem opensF_one (ho : Opens P d t p) (n : Nat) : OpensF P d [(t, n)] p := by
 intro H enc W base sp held fuel off cs h hl
 obtain ⟨x, hx⟩ := h _ List.mem_cons_self
 simp only [total, Nat.add_zero] at hl
 have e : (cs.drop off).take n = cs.drop off := List.take_of_length_le (by rw [List.length_drop]; omega)
 simp only at hx
 rw [e] at hx
 exact ho W base sp held fuel _ x hx
theorem opensF_cons {d2 : Ty β} {fl : List (TypeId × Nat)} {q : β → Prop} (n : Nat) (ho : Opens P d t p) (hr : OpensF P d2 fl q) : OpensF P (Ty.pair d d2) ((t, n) :: fl) (fun x => p x.1 ∧ q x.2) := by
 intro H enc W base sp held fuel off cs h hl
 simp only [total] at hl
 obtain ⟨x, hx⟩ := h _ List.mem_cons_self
 obtain ⟨a, hk, hp⟩ := ho W base sp held fuel _ x hx
 obtain ⟨b, hk2, hp2⟩ := hr (enc := enc) W base sp held fuel (off + n) cs (fun q hq => h q (List.mem_cons_of_mem _ hq)) (by omega)
 refine ⟨(a, b), ⟨_, _, ?_, hk, hk2⟩, hp, hp2⟩
 simp only
 rw [← List.drop_drop, List.take_append_drop]
theorem opens_struct {fl : List (TypeId × Nat)} (ho : OpensF P d fl p) (ht : P.underlying t = some (.struct (P.fieldsOf t))) (hf : (P.fieldsOf t).toList.map (fun f => (f.type, f.offset, P.cellsOf f.type)) = offs 0 fl) (hc : P.cellsOf t = total fl)
  (f : β → α) (g : α → β) (hg : ∀ y, f (g y) = y) : Opens P (Ty.iso d f) t (fun x => p (f x)) := by
 intro H enc W base sp held fuel cs x h
 obtain ⟨xs, n, _, _, hcl, hxl, hx⟩ := DataW.trod_struct ht h
 have hseg : ∀ q ∈ offs 0 fl, ∃ x, DataW.trod enc P W base sp held n q.1 ((cs.drop q.2.1).take q.2.2) = some x := by
  intro q hq
  rw [← hf] at hq
  obtain ⟨f, hfm, rfl⟩ := List.mem_map.1 hq
  obtain ⟨i, hi, hif⟩ := List.getElem_of_mem hfm
  have h1 := hx i f (by rw [← Array.getElem?_toList, List.getElem?_eq_getElem hi, hif])
  have h2 : i < xs.length := by rw [hxl]; simpa using hi
  rw [List.getElem?_eq_getElem h2] at h1
  exact ⟨_, h1⟩
 obtain ⟨a, hk, hp⟩ := ho W base sp held n 0 cs hseg (by rw [hcl, hc, Nat.zero_add])
 refine ⟨g a, ?_, by show p (f (g a)); rw [hg]; exact hp⟩
 show d.K (wImm W) (f (g a)) cs
 rw [hg]
 exact hk
theorem opens_array {n : Nat} {fl : List (TypeId × Nat)} (ho : OpensF P d fl p) (ht : P.underlying t = some (.array n e)) (hf : (List.range n).map (fun i => (e, i * P.cellsOf e, P.cellsOf e)) = offs 0 fl) (hc : P.cellsOf t = total fl)
  (f : β → α) (g : α → β) (hg : ∀ y, f (g y) = y) : Opens P (Ty.iso d f) t (fun x => p (f x)) := by
 intro H enc W base sp held fuel cs x h
 obtain ⟨xs, m, _, _, hcl, hxl, hx⟩ := DataW.trod_array ht h
 have hseg : ∀ q ∈ offs 0 fl, ∃ x, DataW.trod enc P W base sp held m q.1 ((cs.drop q.2.1).take q.2.2) = some x := by
  intro q hq
  rw [← hf] at hq
  obtain ⟨i, hi, rfl⟩ := List.mem_map.1 hq
  have hi' := List.mem_range.1 hi
  have h1 := hx i hi'
  rw [List.getElem?_eq_getElem (show i < xs.length by omega)] at h1
  exact ⟨_, h1⟩
 obtain ⟨a, hk, hp⟩ := ho W base sp held m 0 cs hseg (by rw [hcl, hc, Nat.zero_add])
 refine ⟨g a, ?_, by show p (f (g a)); rw [hg]; exact hp⟩
 show d.K (wImm W) (f (g a)) cs
 rw [hg]
 exact hk
end
end Go.Proofs.YtiomeaoeegikkaaDoor.RW
namespace Go.Proofs.YtiomeaoeegikkaaDoor
open Go Go.Proofs.YtiomeaoeegikkaaDoor.RW
set_option linter.unusedVariables false
set_option maxRecDepth 100000
set_option maxHeartbeats 8000000

def p25 (x : S25) : Prop := (fun n => (Lit.int .i64 n).wf = true) x.f0 ∧ (fun s => s.size ≤ maxLen) x.f1 ∧ (fun l => ∀ x ∈ l, (fun n => (Lit.int .u8 n).wf = true) x) x.f2
theorem o25 : Opens Tryd.prog t25 25 p25 :=
 opens_struct (fl := [(3, 1), (9, 1), (22, 1)]) (opensF_cons 1 (opens_int (by kernel_rfl)) (opensF_cons 1 (opens_string (by kernel_rfl)) (opensF_one (opens_slice (e := 5) (opens_int (by kernel_rfl)) (by kernel_rfl) (by kernel_rfl) (Nat.le_of_ble_eq_true (by kernel_rfl))) 1))) (by kernel_rfl) (by kernel_rfl) (by kernel_rfl) (fun (x : S25) => (x.f0, x.f1, x.f2)) (fun y => ⟨y.1, y.2.1, y.2.2⟩) (fun _ => rfl)
def p66 (x : S66) : Prop := (fun n => (Lit.int .i64 n).wf = true) x.f0
theorem o66 : Opens Tryd.prog t66 66 p66 :=
 opens_struct (fl := [(30, 1)]) (opensF_one (opens_int (by kernel_rfl)) 1) (by kernel_rfl) (by kernel_rfl) (by kernel_rfl) (fun (x : S66) => x.f0) (fun y => ⟨y⟩) (fun _ => rfl)
def p111 (x : S111) : Prop := (fun l => ∀ x ∈ l, (fun n => (Lit.int .u8 n).wf = true) x) x.f0 ∧ (fun n => (Lit.int .i64 n).wf = true) x.f1 ∧ (fun n => (Lit.int .i64 n).wf = true) x.f2
theorem o111 : Opens Tryd.prog t111 111 p111 :=
 opens_struct (fl := [(22, 1), (3, 1), (30, 1)]) (opensF_cons 1 (opens_slice (e := 5) (opens_int (by kernel_rfl)) (by kernel_rfl) (by kernel_rfl) (Nat.le_of_ble_eq_true (by kernel_rfl))) (opensF_cons 1 (opens_int (by kernel_rfl)) (opensF_one (opens_int (by kernel_rfl)) 1))) (by kernel_rfl) (by kernel_rfl) (by kernel_rfl) (fun (x : S111) => (x.f0, x.f1, x.f2)) (fun y => ⟨y.1, y.2.1, y.2.2⟩) (fun _ => rfl)
def p50 (x : S50) : Prop := (fun n => (Lit.int .u8 n).wf = true) x.f0 ∧ (fun n => (Lit.int .u8 n).wf = true) x.f1
theorem o50 : Opens Tryd.prog t50 50 p50 :=
 opens_array (n := 2) (e := 5) (fl := [(5, 1), (5, 1)]) (opensF_cons 1 (opens_int (by kernel_rfl)) (opensF_one (opens_int (by kernel_rfl)) 1)) (by kernel_rfl) (by kernel_rfl) (by kernel_rfl) (fun (x : S50) => (x.f0, x.f1)) (fun y => ⟨y.1, y.2⟩) (fun _ => rfl)
def p124 (x : S124) : Prop := (fun l => ∀ x ∈ l, (fun n => (Lit.int .u8 n).wf = true) x) x.f0 ∧ (fun n => (Lit.int .i64 n).wf = true) x.f1
theorem o124 : Opens Tryd.prog t124 124 p124 :=
 opens_struct (fl := [(22, 1), (3, 1)]) (opensF_cons 1 (opens_slice (e := 5) (opens_int (by kernel_rfl)) (by kernel_rfl) (by kernel_rfl) (Nat.le_of_ble_eq_true (by kernel_rfl))) (opensF_one (opens_int (by kernel_rfl)) 1)) (by kernel_rfl) (by kernel_rfl) (by kernel_rfl) (fun (x : S124) => (x.f0, x.f1)) (fun y => ⟨y.1, y.2⟩) (fun _ => rfl)
def p121 (x : S121) : Prop := (fun n => (Lit.int .i64 n).wf = true) x.f0
theorem o121 : Opens Tryd.prog t121 121 p121 :=
 opens_struct (fl := [(30, 1)]) (opensF_one (opens_int (by kernel_rfl)) 1) (by kernel_rfl) (by kernel_rfl) (by kernel_rfl) (fun (x : S121) => x.f0) (fun y => ⟨y⟩) (fun _ => rfl)

end Go.Proofs.YtiomeaoeegikkaaDoor
namespace Go.Proofs.YtiomeaoeegikkaaDoor.lh
open Go Go.ChangeShapes Go.WideShapes Go.RowKit Go.Proofs.YtiomeaoeegikkaaDoor Go.Proofs.YtiomeaoeegikkaaDoor.RW
set_option maxRecDepth 1000000
abbrev laid {H : Type} : List (String × DataW H) := [("errors.errorType", Rows.laid_errors_errorType)]
theorem et : Tryd.prog.globalNamed "errors.errorType" = some 0 := by kernel_rfl
theorem rt : (Tryd.prog.cutTypes.find? (·.1 == "internal/reflectlite.rtype")).map (·.2) = some 96 := by kernel_rfl
theorem oneRow : ((List.range Tryd.prog.types.size).filter fun t => Tryd.prog.rowNamed t [101, 114, 114, 111, 114]) = [62] := by kernel_rfl
theorem handle_of_laid {W : World} (h : laidMetH Tryd.prog laid W) : W.cell? ⟨0, 0, none⟩ = some (.iface 96 (.agg #[.pointer (some ⟨1, 62, none⟩)])) := by
  have h' : laidMet Tryd.prog [] W ∧ handlesMet Tryd.prog laid W := h
  obtain ⟨name, u, ty, e1, e2, e3, e4, e5⟩ := h'.2 _ (List.mem_singleton.2 rfl)
  have en : name = [101, 114, 114, 111, 114] := (Option.some.inj e1).symm
  subst en
  obtain rfl := Option.some.inj (rt.symm.trans e2)
  have hm : ty ∈ (List.range Tryd.prog.types.size).filter fun t => Tryd.prog.rowNamed t [101, 114, 114, 111, 114] := List.mem_filter.2 ⟨List.mem_range.2 e3, e4⟩
  rw [oneRow] at hm
  obtain rfl := List.mem_singleton.1 hm
  have hh : typeHandle Tryd.prog 62 = .pointer (some ⟨1, 62, none⟩) := by kernel_rfl
  rw [hh] at e5
  simpa using World.var?_cell et e5 0
theorem glob_of_laid {W : World} (h : laidMetH Tryd.prog laid W) : Glob (wImm W) := handle_of_laid h
noncomputable def laidWorld (os : Os) : World :=
  let w0 := World.holding Tryd.prog os ⟨#[], #[], []⟩
  { w0 with heap := w0.heap.modify 0 fun
      | .cells _ t frozen => .cells #[.iface 96 (.agg #[.pointer (some ⟨1, 62, none⟩)])] t frozen
      | o => o }
theorem laidWorld_met (os : Os) (args : Array Value) : laidMetH Tryd.prog laid ((laidWorld os).forCall (fun _ _ => 0) ⟨#[], args, []⟩).memory :=
  laidMetH_of_parts (laidMet_nil _ _) (by kernel_rfl)
end Go.Proofs.YtiomeaoeegikkaaDoor.lh
namespace Go.Proofs.YtiomeaoeegikkaaDoor
open Go Go.Proofs.YtiomeaoeegikkaaDoor.RW
set_option linter.unusedVariables false
set_option maxRecDepth 100000
set_option maxHeartbeats 8000000

/-! ### codec_crcTable: function 53, armillary/codec.crcTable -/
noncomputable def K53_0 : Code := cBody Tryd.f53
def codec_crcTable.k1  (x1 : List Int) : Option (List Int) := (some x1)
def codec_crcTable.k3 (x2 : List Int) (x3 : Int) (x5 : Int) : Option (List Int) := (if 0 ≤ x3 then (if x3 < (256 : Int) then (some (x2.set ((x3).toNat) x5)) else none) else none)
def codec_crcTable.l2 : Nat → Int → Int → Option (Int)
 | 0, _, _ => none
 | k + 1, x6, x7 => (if x7 < 8 then (codec_crcTable.l2 k (bXor .u32 (Int.fdiv x6 2) (W .u32 (3988292384 * (bAnd .u32 x6 1)))) (W .i64 (x7 + 1))) else (some x6))
def codec_crcTable.l1 : Nat → (List Int) → Int → Option (List Int)
 | 0, _, _ => none
 | k + 1, x2, x3 => (if x3 < 256 then (((codec_crcTable.l2 k (W .u32 (x3)) 0).bind (codec_crcTable.k3 x2 x3)).bind (fun x4 => (codec_crcTable.l1 k x4 (W .i64 (x3 + 1))))) else (some x2))
def codec_crcTable.f (k : Nat)  : Option (List Int) := ((codec_crcTable.l1 k (List.replicate 256 0) 0).bind (codec_crcTable.k1))
def codec_crcTable.Post (I : Imm) (w : World) (r : List Int) (v : Value) (w' : World) : Prop :=
 ∃ (J : Imm), v = .agg (arrV (Value.int .u32) 0 256 r).toArray ∧ Got w w' I J [] ∧ 256 ≤ r.length
theorem codec_crcTable.calls (k : Nat) (I0 : Imm)  (w : World) (hI : I0.at_ w)  (r : List Int) (h : codec_crcTable.f k  = some r) :
  Calls Tryd.prog 53 [].toArray w fun e w' => ∃ v, e = .returned v ∧ codec_crcTable.Post I0 w r v w' := by
 have H : ((codec_crcTable.l1 k (List.replicate 256 0) 0).bind (codec_crcTable.k1)) = some r := h
 clear h
 refine calls_body Tryd.func53 (by kernel_rfl) 23 (by kernel_rfl) (by kernel_rfl) ⟨w, fun _ => False, I0⟩ I0 [] [] (by kernel_rfl) (Sat.start w _ I0 hI) ?_
 generalize w.heap.size = nx0
 show OK _ K53_0 _ _ _ _ _ _ _ _
 refine OK.sr ?_
 refine RL.spt 1 [(0, pt nx0 0)] (nx0 + 1) [⟨nx0, arrV (Value.int .u32) 0 256 (List.replicate 256 0), 93⟩] ?_
 refine OK.sr ?_
 refine RL.spt 1 [(1, pt (nx0 + 1) 0), (0, pt nx0 0)] (nx0 + 2) [⟨nx0, arrV (Value.int .u32) 0 256 (List.replicate 256 0), 93⟩, ⟨nx0 + 1, arrV (Value.int .u32) 0 256 (List.replicate 256 0), 93⟩] ?_
 refine OK.sq ?_
 refine OK.sr ?_
 refine RL.st 1 [(4, i6 0), (1, pt (nx0 + 1) 0), (0, pt nx0 0)] ?_
 refine OK.join (fun K' I' _ L' X' => ∃ (x1 : List Int), K' = [(0, pt nx0 0), (1, pt (nx0 + 1) 0)] ∧ L' = [⟨nx0, arrV (Value.int .u32) 0 256 (List.replicate 256 0), 93⟩, ⟨nx0 + 1, arrV (Value.int .u32) 0 256 x1, 93⟩] ∧ X' = [] ∧ Imm.le I0 I' ∧ 256 ≤ x1.length ∧ codec_crcTable.k1 x1 = some r) ?_ ?_
 ·rintro _ I1 nx1 _ _ ⟨x1, rfl, rfl, rfl, hi1, hz1, H⟩
  rw [codec_crcTable.k1] at H
  refine QN.then_ ?_
  refine OK.sr ?_
  refine RL.simP (K' := [(0, pt nx0 0)]) (nx' := nx1) (L' := [⟨nx0, arrV (Value.int .u32) 0 256 x1, 93⟩, ⟨nx0 + 1, arrV (Value.int .u32) 0 256 x1, 93⟩]) [] (RFacts.nil _ _ _) 2 [.l 1, .l 0] (by kernel_rfl) (by kernel_rfl) ?_
  refine RL.nt ?_
  refine OK.re ?_
  obtain rfl := Option.some.inj H
  refine QN.body rfl [] (RFacts.nil _ _ _) (.l 0) (.agg (arrV (Value.int .u32) 0 256 x1).toArray) (by kernel_rfl) (by kernel_rfl) (by kernel_rfl) ?_ _ (.inr rfl)
  exact fun w' hs' => ⟨_, rfl, I1, rfl, hs'.got _ .slnil, hz1⟩
 ·intro Q_1 hJ1 hQ1
  obtain ⟨y1, H, HK1⟩ := bnd H
  refine OK.bk 0 ?_
  refine OK.sub (K' := [(0, pt nx0 0), (1, pt (nx0 + 1) 0), (4, i6 0)]) (L' := [⟨nx0, arrV (Value.int .u32) 0 256 (List.replicate 256 0), 93⟩, ⟨nx0 + 1, arrV (Value.int .u32) 0 256 (List.replicate 256 0), 93⟩]) (by kernel_rfl) (.cons_cons _ (.cons_cons _ .slnil)) (.refl _) ?_
  refine OK.lp (fun n_ K' I' _ L' X' => ∃ (x2 : List Int) (x3 : Int), K' = [(0, pt nx0 0), (1, pt (nx0 + 1) 0), (4, i6 x3)] ∧ L' = [⟨nx0, arrV (Value.int .u32) 0 256 (List.replicate 256 0), 93⟩, ⟨nx0 + 1, arrV (Value.int .u32) 0 256 x2, 93⟩] ∧ X' = [] ∧ Imm.le I0 I' ∧ 256 ≤ x2.length ∧ codec_crcTable.l1 n_ x2 x3 = some y1) k ⟨(List.replicate 256 0), 0, rfl, rfl, rfl, (Imm.le_refl _), (Nat.le_of_eq List.length_replicate.symm), H⟩ ?_ ?_
  ·rintro _ _ _ _ _ ⟨x2, x3, rfl, rfl, rfl, _, hz2, H⟩
   cases H
  ·rintro kq1 _ I2 nx2 _ _ ⟨x2, x3, rfl, rfl, rfl, hi2, hz2, H⟩ Q_l1 hJ2 hQ2
   rw [codec_crcTable.l1] at H
   refine OK.sr ?_
   refine RL.st 1 [(5, .bool (decide (x3 < 256))), (0, pt nx0 0), (1, pt (nx0 + 1) 0), (4, i6 x3)] ?_
   refine OK.sq ?_
   refine OK.cd (decide (x3 < 256)) (fun hb => ?_) (fun hb => ?_)
   ·skip
    have hc := (of_decide_eq_true hb)
    rw [if_pos hc] at H
    clear hb
    refine OK.skt ?_
    refine OK.sq ?_
    refine OK.join (fun K' I' _ L' X' => ∃ (x4 : List Int), K' = [(0, pt nx0 0), (1, pt (nx0 + 1) 0), (4, i6 x3)] ∧ L' = [⟨nx0, arrV (Value.int .u32) 0 256 (List.replicate 256 0), 93⟩, ⟨nx0 + 1, arrV (Value.int .u32) 0 256 x4, 93⟩] ∧ X' = [] ∧ Imm.le I2 I' ∧ 256 ≤ x4.length ∧ (codec_crcTable.l1 kq1 x4 (W .i64 (x3 + 1))) = some y1) ?_ ?_
    ·rintro _ I3 nx3 _ _ ⟨x4, rfl, rfl, rfl, hi3, hz3, H⟩
     replace H : (codec_crcTable.l1 kq1 x4 (W .i64 (x3 + 1))) = some y1 := H
     refine QN.then_ ?_
     refine OK.rg ?_
     refine RL.s 2 [(4, i6 (W .i64 (x3 + 1))), (0, pt nx0 0), (1, pt (nx0 + 1) 0)] ?_
     refine RL.nil (by kernel_rfl) ?_
     exact QN.sb (hJ2 _ _ _ _ _ ⟨x4, W .i64 (x3 + 1), rfl, rfl, rfl, (Imm.le_trans hi2 hi3), hz3, H⟩) (.cons_cons _ (.cons_cons _ .slnil)) (.refl _)
    ·intro Q_2 hJ3 hQ3
     obtain ⟨y2, H, HK2⟩ := bnd H
     refine OK.bk 1 ?_
     refine OK.sr ?_
     refine RL.st 2 [(2, i6 x3), (0, pt nx0 0), (1, pt (nx0 + 1) 0), (4, i6 x3)] ?_
     refine OK.sr ?_
     refine RL.st 3 [(3, .int .u32 (W .u32 (x3))), (2, i6 x3), (0, pt nx0 0), (1, pt (nx0 + 1) 0), (4, i6 x3)] ?_
     refine OK.sq ?_
     refine OK.sr ?_
     refine RL.st 1 [(9, i6 0), (3, .int .u32 (W .u32 (x3))), (2, i6 x3), (0, pt nx0 0), (1, pt (nx0 + 1) 0), (4, i6 x3)] ?_
     refine OK.join (fun K' I' _ L' X' => ∃ (x5 : Int), K' = [(0, pt nx0 0), (1, pt (nx0 + 1) 0), (2, i6 x3), (3, .int .u32 x5), (4, i6 x3)] ∧ L' = [⟨nx0, arrV (Value.int .u32) 0 256 (List.replicate 256 0), 93⟩, ⟨nx0 + 1, arrV (Value.int .u32) 0 256 x2, 93⟩] ∧ X' = [] ∧ Imm.le I2 I' ∧ codec_crcTable.k3 x2 x3 x5 = some y2) ?_ ?_
     ·rintro _ I4 nx4 _ _ ⟨x5, rfl, rfl, rfl, hi4, H⟩
      rw [codec_crcTable.k3] at H
      refine QN.then_ ?_
      refine OK.rg ?_
      refine RL.s 2 [(19, .int .u32 x5), (18, i6 x3), (0, pt nx0 0), (1, pt (nx0 + 1) 0), (4, i6 x3)] ?_
      obtain ⟨hib0, H⟩ := ifs H
      obtain ⟨hib1, H⟩ := ifs H
      have ha01 := hib0; have ha11 := hib1
      refine RL.idxArr (T := 93) (e := 38) 1 .i64 x3 (nx0 + 1) (0) 256 (some 20) (by kernel_rfl) (by kernel_rfl) (by kernel_rfl) (by kernel_rfl) hib0 hib1 (K' := [(20, pt (nx0 + 1) (0 + (x3).toNat * 1)), (19, .int .u32 x5), (18, i6 x3), (0, pt nx0 0), (1, pt (nx0 + 1) 0), (4, i6 x3)]) (by kernel_rfl) ?_
      refine RL.stA (g := nx0 + 1) (ty := 93) (cs := arrV (Value.int .u32) 0 256 x2) (Value.int .u32) 0 256 x2 x5 [] [] 0 ((x3).toNat) 1 (by kernel_rfl) (by kernel_rfl) (by kernel_rfl) (by omega) hz2 (0 + (x3).toNat * 1) (by omega) 38 (by kernel_rfl) (by kernel_rfl) (by kernel_rfl) (by rfl) (fun _ h => by cases h) (fun _ h => by cases h) (cs' := arrV (Value.int .u32) 0 256 (x2.set ((x3).toNat) x5)) (by kernel_rfl) ?_
      refine RL.nil (by kernel_rfl) ?_
      refine QN.sub (K' := [(0, pt nx0 0), (1, pt (nx0 + 1) 0), (4, i6 x3)]) (L' := [⟨nx0, arrV (Value.int .u32) 0 256 (List.replicate 256 0), 93⟩, ⟨nx0 + 1, arrV (Value.int .u32) 0 256 (x2.set ((x3).toNat) x5), 93⟩]) (by kernel_rfl) (.cons_cons _ (.cons_cons _ .slnil)) (.refl _) ?_
      refine QN.blkN ?_
      obtain rfl := Option.some.inj H
      exact QN.sb (hJ3 _ _ _ _ _ ⟨(x2.set ((x3).toNat) x5), rfl, rfl, rfl, hi4, (le_set hz2), HK2⟩) (.cons_cons _ (.cons_cons _ .slnil)) (.refl _)
     ·intro Q_3 hJ4 hQ4
      obtain ⟨y3, H, HK3⟩ := bnd H
      refine OK.bk 2 ?_
      refine OK.sub (K' := [(0, pt nx0 0), (1, pt (nx0 + 1) 0), (2, i6 x3), (3, .int .u32 (W .u32 (x3))), (4, i6 x3), (9, i6 0)]) (L' := [⟨nx0, arrV (Value.int .u32) 0 256 (List.replicate 256 0), 93⟩, ⟨nx0 + 1, arrV (Value.int .u32) 0 256 x2, 93⟩]) (by kernel_rfl) (.cons_cons _ (.cons_cons _ .slnil)) (.refl _) ?_
      refine OK.lp (fun n_ K' I' _ L' X' => ∃ (x6 : Int) (x7 : Int), K' = [(0, pt nx0 0), (1, pt (nx0 + 1) 0), (2, i6 x3), (3, .int .u32 x6), (4, i6 x3), (9, i6 x7)] ∧ L' = [⟨nx0, arrV (Value.int .u32) 0 256 (List.replicate 256 0), 93⟩, ⟨nx0 + 1, arrV (Value.int .u32) 0 256 x2, 93⟩] ∧ X' = [] ∧ Imm.le I2 I' ∧ codec_crcTable.l2 n_ x6 x7 = some y3) kq1 ⟨W .u32 (x3), 0, rfl, rfl, rfl, (Imm.le_refl _), H⟩ ?_ ?_
      ·rintro _ _ _ _ _ ⟨x6, x7, rfl, rfl, rfl, _, H⟩
       cases H
      ·rintro kq2 _ I5 nx5 _ _ ⟨x6, x7, rfl, rfl, rfl, hi5, H⟩ Q_l2 hJ5 hQ5
       rw [codec_crcTable.l2] at H
       refine OK.sr ?_
       refine RL.st 1 [(10, .bool (decide (x7 < 8))), (0, pt nx0 0), (1, pt (nx0 + 1) 0), (2, i6 x3), (3, .int .u32 x6), (4, i6 x3), (9, i6 x7)] ?_
       refine OK.sq ?_
       refine OK.cd (decide (x7 < 8)) (fun hb => ?_) (fun hb => ?_)
       ·skip
        have hc := (of_decide_eq_true hb)
        rw [if_pos hc] at H
        clear hb
        refine OK.skt ?_
        refine OK.sq ?_
        refine OK.bk 3 ?_
        refine OK.rg ?_
        refine RL.s 7 [(3, .int .u32 (bXor .u32 (Int.fdiv x6 2) (W .u32 (3988292384 * (bAnd .u32 x6 1))))), (0, pt nx0 0), (1, pt (nx0 + 1) 0), (2, i6 x3), (4, i6 x3), (9, i6 x7)] ?_
        refine RL.nil (by kernel_rfl) ?_
        refine QN.blkN ?_
        refine QN.then_ ?_
        refine OK.rg ?_
        refine RL.s 2 [(9, i6 (W .i64 (x7 + 1))), (3, .int .u32 (bXor .u32 (Int.fdiv x6 2) (W .u32 (3988292384 * (bAnd .u32 x6 1))))), (0, pt nx0 0), (1, pt (nx0 + 1) 0), (2, i6 x3), (4, i6 x3)] ?_
        refine RL.nil (by kernel_rfl) ?_
        exact QN.sb (hJ5 _ _ _ _ _ ⟨bXor .u32 (Int.fdiv x6 2) (W .u32 (3988292384 * (bAnd .u32 x6 1))), W .i64 (x7 + 1), rfl, rfl, rfl, hi5, H⟩) (.cons_cons _ (.cons_cons _ .slnil)) (.refl _)
       ·skip
        have hc := (of_decide_eq_false hb)
        rw [if_neg hc] at H
        clear hb
        refine OK.ex 2 ?_
        refine QN.thenE ?_
        refine QN.outE hQ5 ?_
        refine QN.blkE ?_
        obtain rfl := Option.some.inj H
        exact QN.sb (hJ4 _ _ _ _ _ ⟨x6, rfl, rfl, rfl, hi5, HK3⟩) (.cons_cons _ (.cons_cons _ .slnil)) (.refl _)
   ·skip
    have hc := (of_decide_eq_false hb)
    rw [if_neg hc] at H
    clear hb
    refine OK.ex 0 ?_
    refine QN.thenE ?_
    refine QN.outE hQ2 ?_
    refine QN.blkE ?_
    obtain rfl := Option.some.inj H
    exact QN.sb (hJ1 _ _ _ _ _ ⟨x2, rfl, rfl, rfl, hi2, hz2, HK1⟩) (.cons_cons _ (.cons_cons _ .slnil)) (.refl _)

end Go.Proofs.YtiomeaoeegikkaaDoor
namespace Go.Proofs.YtiomeaoeegikkaaDoor
open Go Go.Proofs.YtiomeaoeegikkaaDoor.RW
set_option linter.unusedVariables false
set_option maxRecDepth 100000
set_option maxHeartbeats 8000000

/-! ### codec_Checksum: function 36, armillary/codec.Checksum -/
noncomputable def K36_0 : Code := cBody Tryd.f36
def codec_Checksum.k1  (x1 : Int) : Option (Int) := (some (bXor .u32 4294967295 x1))
def codec_Checksum.l1 (a0 : List Int) (t1 : List Int) : Nat → Int → Int → Option (Int)
 | 0, _, _ => none
 | k + 1, x2, x3 => (if x3 < (a0.length : Int) then (if 0 ≤ x3 then (if x3 < (a0.length : Int) then (if 0 ≤ (bXor .u8 (W .u8 (x2)) (a0.getD (x3).toNat 0)) then (if (bXor .u8 (W .u8 (x2)) (a0.getD (x3).toNat 0)) < (256 : Int) then (codec_Checksum.l1 a0 t1 k (bXor .u32 (Int.fdiv x2 256) (t1.getD ((bXor .u8 (W .u8 (x2)) (a0.getD (x3).toNat 0)).toNat) 0)) (W .i64 (x3 + 1))) else none) else none) else none) else none) else (some x2))
def codec_Checksum.f (k : Nat) (a0 : List Int) : Option (Int) := ((codec_crcTable.f k ).bind fun t1 => ((codec_Checksum.l1 a0 t1 k 4294967295 0).bind (codec_Checksum.k1)))
def codec_Checksum.Post (I : Imm) (w : World) (r : Int) (v : Value) (w' : World) : Prop :=
 ∃ (J : Imm), v = .int .u32 r ∧ Got w w' I J []
theorem codec_Checksum.calls (k : Nat) (I0 : Imm) (a0 : List Int) (Ap0 : Option Addr) (cp0 : Nat) (w : World) (hI : I0.at_ w) (hlp0 : a0.length ≤ cp0) (hrp0 : Rd (Ty.int .u8) I0 Ap0 a0) (r : Int) (h : codec_Checksum.f k a0 = some r) :
  Calls Tryd.prog 36 [.slice Ap0 a0.length cp0].toArray w fun e w' => ∃ v, e = .returned v ∧ codec_Checksum.Post I0 w r v w' := by
 have H : ((codec_crcTable.f k ).bind fun t1 => ((codec_Checksum.l1 a0 t1 k 4294967295 0).bind (codec_Checksum.k1))) = some r := h
 clear h
 refine calls_body Tryd.func36 (by kernel_rfl) 26 (by kernel_rfl) (by kernel_rfl) ⟨w, fun _ => False, I0⟩ I0 [] [(0, .slice Ap0 a0.length cp0)] (by kernel_rfl) (Sat.start w _ I0 hI) ?_
 generalize w.heap.size = nx0
 show OK _ K36_0 _ _ _ _ _ _ _ _
 refine OK.sr ?_
 refine RL.st 1 [(0, .slice Ap0 a0.length cp0)] ?_
 refine OK.sr ?_
 obtain ⟨t1, hA1, H⟩ := bnd H
 refine RL.callP 53 [] (some 7) (fun w => codec_crcTable.Post I0 w t1) (by kernel_rfl) (by kernel_rfl) (fun w hs => codec_crcTable.calls k I0  w hs.im  t1 hA1) ?_
 rintro w v w' hs ⟨I1, rfl, hg, hz1⟩
 have hi1 := hg.le
 refine RL.resume (X' := []) rfl (hs.call hg) ?_
 clear hs hg
 generalize w'.heap.size = nx1
 clear w w'
 refine RL.simP (K' := [(4, .int .u32 4294967295), (3, pt nx1 0), (0, .slice Ap0 a0.length cp0)]) (nx' := nx1 + 1) (L' := [⟨nx1, arrV (Value.int .u32) 0 256 t1, 93⟩]) [] (RFacts.nil _ _ _) 3 [.no, .l 0, .no] (by kernel_rfl) (by kernel_rfl) ?_
 refine RL.nt ?_
 refine OK.sq ?_
 refine OK.sr ?_
 refine RL.st 3 [(10, i6 0), (9, i6 (a0.length : Int)), (8, .slice Ap0 a0.length cp0), (4, .int .u32 4294967295), (3, pt nx1 0)] ?_
 refine OK.join (fun K' I' _ L' X' => ∃ (x1 : Int), K' = [(4, .int .u32 x1)] ∧ L' = [⟨nx1, arrV (Value.int .u32) 0 256 t1, 93⟩] ∧ X' = [] ∧ Imm.le I1 I' ∧ codec_Checksum.k1 x1 = some r) ?_ ?_
 ·rintro _ I2 nx2 _ _ ⟨x1, rfl, rfl, rfl, hi2, H⟩
  rw [codec_Checksum.k1] at H
  refine QN.then_ ?_
  refine OK.sr ?_
  refine RL.st 3 [(2, .int .u32 (bXor .u32 4294967295 x1))] ?_
  refine OK.re ?_
  obtain rfl := Option.some.inj H
  refine QN.body rfl [] (RFacts.nil _ _ _) (.no) (.int .u32 (bXor .u32 4294967295 x1)) (by kernel_rfl) (by kernel_rfl) (by kernel_rfl) ?_ _ (.inr rfl)
  exact fun w' hs' => ⟨_, rfl, I2, rfl, hs'.got _ .slnil⟩
 ·intro Q_1 hJ1 hQ1
  obtain ⟨y1, H, HK1⟩ := bnd H
  refine OK.bk 0 ?_
  refine OK.sub (K' := [(3, pt nx1 0), (4, .int .u32 4294967295), (8, .slice Ap0 a0.length cp0), (9, i6 (a0.length : Int)), (10, i6 0)]) (L' := [⟨nx1, arrV (Value.int .u32) 0 256 t1, 93⟩]) (by kernel_rfl) (.cons_cons _ .slnil) (.refl _) ?_
  refine OK.lp (fun n_ K' I' _ L' X' => ∃ (x2 : Int) (x3 : Int), K' = [(3, pt nx1 0), (4, .int .u32 x2), (8, .slice Ap0 a0.length cp0), (9, i6 (a0.length : Int)), (10, i6 x3)] ∧ L' = [⟨nx1, arrV (Value.int .u32) 0 256 t1, 93⟩] ∧ X' = [] ∧ Imm.le I1 I' ∧ codec_Checksum.l1 a0 t1 n_ x2 x3 = some y1) k ⟨4294967295, 0, rfl, rfl, rfl, (Imm.le_refl _), H⟩ ?_ ?_
  ·rintro _ _ _ _ _ ⟨x2, x3, rfl, rfl, rfl, _, H⟩
   cases H
  ·rintro kq1 _ I3 nx3 _ _ ⟨x2, x3, rfl, rfl, rfl, hi3, H⟩ Q_l1 hJ2 hQ2
   rw [codec_Checksum.l1] at H
   refine OK.sr ?_
   refine RL.st 1 [(11, .bool (decide (x3 < (a0.length : Int)))), (3, pt nx1 0), (4, .int .u32 x2), (8, .slice Ap0 a0.length cp0), (9, i6 (a0.length : Int)), (10, i6 x3)] ?_
   refine OK.sq ?_
   refine OK.cd (decide (x3 < (a0.length : Int))) (fun hb => ?_) (fun hb => ?_)
   ·skip
    have hc := (of_decide_eq_true hb)
    rw [if_pos hc] at H
    clear hb
    refine OK.skt ?_
    refine OK.sq ?_
    refine OK.bk 1 ?_
    refine OK.sr ?_
    obtain ⟨hib0, H⟩ := ifs H
    obtain ⟨hib1, H⟩ := ifs H
    obtain ⟨g1_, o1_, hA1_, hc1_⟩ := Ty.int_at (Rd.ext (Imm.le_trans hi1 hi3) hrp0) x3 hib0 hib1
    refine RL.idx 1 .i64 x3 hA1_ a0.length cp0 (some 12) (by kernel_rfl) (by kernel_rfl) (T := 22) (e := 5) (by kernel_rfl) (by kernel_rfl) hib0 hib1 (K' := [(12, pt g1_ (o1_ + (x3).toNat * 1)), (11, .bool (decide (x3 < (a0.length : Int)))), (3, pt nx1 0), (4, .int .u32 x2), (8, .slice Ap0 a0.length cp0), (9, i6 (a0.length : Int)), (10, i6 x3)]) (by kernel_rfl) ?_
    refine RL.simK (K' := [(6, .int .u8 (a0.getD (x3).toNat 0)), (3, pt nx1 0), (4, .int .u32 x2), (8, .slice Ap0 a0.length cp0), (9, i6 (a0.length : Int)), (10, i6 x3)]) [(⟨g1_, o1_ + (x3).toNat * 1, none⟩, .int .u8 (a0.getD (x3).toNat 0))] (RFacts.imm (hc1_ 0 _ rfl) (RFacts.nil _ _ _)) 2 [.r 0, .no] (by kernel_rfl) (by kernel_rfl) ?_
    refine RL.nt ?_
    refine OK.rg ?_
    refine RL.s 6 [(19, .int .u8 (bXor .u8 (W .u8 (x2)) (a0.getD (x3).toNat 0))), (15, .int .u32 (Int.fdiv x2 256)), (3, pt nx1 0), (4, .int .u32 x2), (8, .slice Ap0 a0.length cp0), (9, i6 (a0.length : Int)), (10, i6 x3)] ?_
    obtain ⟨hib0, H⟩ := ifs H
    obtain ⟨hib1, H⟩ := ifs H
    have ha02 := hib0; have ha12 := hib1
    refine RL.idxArr (T := 93) (e := 38) 1 .u8 (bXor .u8 (W .u8 (x2)) (a0.getD (x3).toNat 0)) nx1 (0) 256 (some 20) (by kernel_rfl) (by kernel_rfl) (by kernel_rfl) (by kernel_rfl) hib0 hib1 (K' := [(20, pt nx1 (0 + (bXor .u8 (W .u8 (x2)) (a0.getD (x3).toNat 0)).toNat * 1)), (19, .int .u8 (bXor .u8 (W .u8 (x2)) (a0.getD (x3).toNat 0))), (15, .int .u32 (Int.fdiv x2 256)), (3, pt nx1 0), (4, .int .u32 x2), (8, .slice Ap0 a0.length cp0), (9, i6 (a0.length : Int)), (10, i6 x3)]) (by kernel_rfl) ?_
    refine RL.ldA (g := nx1) (ty := 93) (cs := arrV (Value.int .u32) 0 256 t1) (Value.int .u32) 0 256 t1 [] [] 0 ((bXor .u8 (W .u8 (x2)) (a0.getD (x3).toNat 0)).toNat) 0 (by kernel_rfl) (by kernel_rfl) (by kernel_rfl) (by omega) (0 + (bXor .u8 (W .u8 (x2)) (a0.getD (x3).toNat 0)).toNat * 1) (by omega) (some 21) (by kernel_rfl) (by kernel_rfl) (by kernel_rfl) (K' := [(21, .int .u32 (t1.getD ((bXor .u8 (W .u8 (x2)) (a0.getD (x3).toNat 0)).toNat) 0)), (20, pt nx1 (0 + (bXor .u8 (W .u8 (x2)) (a0.getD (x3).toNat 0)).toNat * 1)), (19, .int .u8 (bXor .u8 (W .u8 (x2)) (a0.getD (x3).toNat 0))), (15, .int .u32 (Int.fdiv x2 256)), (3, pt nx1 0), (4, .int .u32 x2), (8, .slice Ap0 a0.length cp0), (9, i6 (a0.length : Int)), (10, i6 x3)]) (by kernel_rfl) ?_
    refine RL.s 2 [(4, .int .u32 (bXor .u32 (Int.fdiv x2 256) (t1.getD ((bXor .u8 (W .u8 (x2)) (a0.getD (x3).toNat 0)).toNat) 0))), (3, pt nx1 0), (8, .slice Ap0 a0.length cp0), (9, i6 (a0.length : Int)), (10, i6 x3)] ?_
    refine RL.nil (by kernel_rfl) ?_
    refine QN.blkN ?_
    refine QN.then_ ?_
    refine OK.rg ?_
    refine RL.s 2 [(10, i6 (W .i64 (x3 + 1))), (4, .int .u32 (bXor .u32 (Int.fdiv x2 256) (t1.getD ((bXor .u8 (W .u8 (x2)) (a0.getD (x3).toNat 0)).toNat) 0))), (3, pt nx1 0), (8, .slice Ap0 a0.length cp0), (9, i6 (a0.length : Int))] ?_
    refine RL.nil (by kernel_rfl) ?_
    exact QN.sb (hJ2 _ _ _ _ _ ⟨bXor .u32 (Int.fdiv x2 256) (t1.getD ((bXor .u8 (W .u8 (x2)) (a0.getD (x3).toNat 0)).toNat) 0), W .i64 (x3 + 1), rfl, rfl, rfl, hi3, H⟩) (.cons_cons _ .slnil) (.refl _)
   ·skip
    have hc := (of_decide_eq_false hb)
    rw [if_neg hc] at H
    clear hb
    refine OK.ex 0 ?_
    refine QN.thenE ?_
    refine QN.outE hQ2 ?_
    refine QN.blkE ?_
    obtain rfl := Option.some.inj H
    exact QN.sb (hJ1 _ _ _ _ _ ⟨x2, rfl, rfl, rfl, hi3, HK1⟩) (.cons_cons _ .slnil) (.refl _)

end Go.Proofs.YtiomeaoeegikkaaDoor
namespace Go.Proofs.YtiomeaoeegikkaaDoor.led
open Go Go.Proofs.YtiomeaoeegikkaaDoor Go.Proofs.YtiomeaoeegikkaaDoor.RW
set_option linter.unusedVariables false
set_option maxRecDepth 100000
/-! ### fuel -/
def Ev {α : Type} (f : Nat → Option α) (r : α) : Prop := ∃ N, ∀ k, N ≤ k → f k = some r
theorem Ev.bind {α β : Type} {f : Nat → Option α} {g : Nat → α → Option β} {r : α} {s : β} (h : Ev f r) (h2 : Ev (fun k => g k r) s) : Ev (fun k => (f k).bind (g k)) s := by
  obtain ⟨N, h⟩ := h
  obtain ⟨M, h2⟩ := h2
  exact ⟨max N M, fun k hk => by show (f k).bind (g k) = _; rw [h k (by omega)]; exact h2 k (by omega)⟩
theorem Ev.const {α : Type} {x : Option α} {r : α} (h : x = some r) : Ev (fun _ => x) r := ⟨0, fun _ _ => h⟩
theorem Ev.succ {α : Type} {f g : Nat → Option α} {r : α} (h : ∀ k, f (k + 1) = g k) (hg : Ev g r) : Ev f r := by
  obtain ⟨N, hg⟩ := hg
  refine ⟨N + 1, fun k hk => ?_⟩
  obtain ⟨m, rfl⟩ : ∃ m, k = m + 1 := ⟨k - 1, by omega⟩
  rw [h]
  exact hg m (by omega)
theorem Ev.congr {α : Type} {f g : Nat → Option α} {r : α} (h : ∀ k, f k = g k) (hg : Ev g r) : Ev f r := by
  obtain ⟨N, hg⟩ := hg
  exact ⟨N, fun k hk => (h k).trans (hg k hk)⟩
theorem Ev.get {α : Type} {f : Nat → Option α} {r : α} (h : Ev f r) : ∃ k, f k = some r := ⟨h.choose, h.choose_spec _ (Nat.le_refl _)⟩
theorem Ev.bind1 {α β : Type} {x : Option α} {g : Nat → α → Option β} {r : α} {s : β} (h : x = some r) (h2 : Ev (fun k => g k r) s) : Ev (fun k => x.bind (g k)) s := Ev.bind (Ev.const h) h2

/-! ### numbers -/
theorem W64 {x : Int} (h1 : -9223372036854775808 ≤ x) (h2 : x ≤ 9223372036854775807) : W .i64 x = x := by
  show IntKind.i64.wrap x = x
  rw [IntKind.wrap_i64]
  omega
theorem Wn {n : Nat} (h : n < 1000000000000) : W .i64 ((n : Int) + 1) = ((n + 1 : Nat) : Int) := by
  rw [W64 (by omega) (by omega)]; rfl
theorem tn (n : Nat) : ((n : Int)).toNat = n := Int.toNat_natCast n
theorem W8 (x : Int) : W .u8 x = x % 256 := by
  show IntKind.u8.wrap x = _
  simp [IntKind.wrap, IntKind.signed, IntKind.bits]
theorem W32 (x : Int) : W .u32 x = x % 4294967296 := by
  show IntKind.u32.wrap x = _
  simp [IntKind.wrap, IntKind.signed, IntKind.bits]
theorem WU64 (x : Int) : W .u64 x = x % 18446744073709551616 := by
  show IntKind.u64.wrap x = _
  simp [IntKind.wrap, IntKind.signed, IntKind.bits]
theorem bXor32 (a b : Nat) (ha : a < 4294967296) (hb : b < 4294967296) : bXor .u32 (a : Int) (b : Int) = ((a ^^^ b : Nat) : Int) := by
  show W .u32 (((BitVec.ofInt 32 (a : Int) ^^^ BitVec.ofInt 32 (b : Int)).toNat : Nat) : Int) = _
  rw [BitVec.ofInt_natCast, BitVec.ofInt_natCast, W32, BitVec.toNat_xor, BitVec.toNat_ofNat, BitVec.toNat_ofNat]
  have h3 : a ^^^ b < 2 ^ 32 := Nat.xor_lt_two_pow (by omega) (by omega)
  show ((a % 4294967296 ^^^ b % 4294967296 : Nat) : Int) % 4294967296 = _
  rw [Nat.mod_eq_of_lt ha, Nat.mod_eq_of_lt hb]
  omega
theorem bXor8 (a b : Nat) (ha : a < 256) (hb : b < 256) : bXor .u8 (a : Int) (b : Int) = ((a ^^^ b : Nat) : Int) := by
  show W .u8 (((BitVec.ofInt 8 (a : Int) ^^^ BitVec.ofInt 8 (b : Int)).toNat : Nat) : Int) = _
  rw [BitVec.ofInt_natCast, BitVec.ofInt_natCast, W8, BitVec.toNat_xor, BitVec.toNat_ofNat, BitVec.toNat_ofNat]
  have h3 : a ^^^ b < 2 ^ 8 := Nat.xor_lt_two_pow (by omega) (by omega)
  show ((a % 256 ^^^ b % 256 : Nat) : Int) % 256 = _
  rw [Nat.mod_eq_of_lt ha, Nat.mod_eq_of_lt hb]
  omega

/-! ### the checksum -/
/-- One step of a bit. -/
def st (y : Nat) : Nat := (y / 2) ^^^ (if y % 2 = 1 then 3988292384 else 0)
def st8 (y : Nat) : Nat := st (st (st (st (st (st (st (st y)))))))
theorem st_lt {y : Nat} (h : y < 4294967296) : st y < 4294967296 := by
  unfold st
  refine Nat.xor_lt_two_pow (n := 32) (by omega) ?_
  split <;> decide
theorem st8_lt {y : Nat} (h : y < 4294967296) : st8 y < 4294967296 := st_lt (st_lt (st_lt (st_lt (st_lt (st_lt (st_lt (st_lt h)))))))
theorem st_eq {y : Nat} (h : y < 4294967296) : bXor .u32 (Int.fdiv (y : Int) 2) (W .u32 (3988292384 * (bAnd .u32 (y : Int) 1))) = (st y : Int) := by
  have h1 : bAnd .u32 (y : Int) 1 = ((y % 2 : Nat) : Int) := by
    show W .u32 (((BitVec.ofInt 32 (y : Int) &&& 1#32).toNat : Nat) : Int) = _
    rw [BitVec.ofInt_natCast, W32, BitVec.toNat_and, BitVec.toNat_ofNat]
    show ((y % 4294967296 &&& 1 : Nat) : Int) % 4294967296 = _
    rw [Nat.and_one_is_mod, Nat.mod_eq_of_lt h]
    omega
  have h2 : Int.fdiv (y : Int) 2 = ((y / 2 : Nat) : Int) := by
    rw [Int.fdiv_eq_ediv_of_nonneg _ (by decide)]; omega
  rw [h1, h2, W32]
  unfold st
  rcases Nat.mod_two_eq_zero_or_one y with e | e
  · rw [e, if_neg (by decide)]
    exact bXor32 _ 0 (by omega) (by decide)
  · rw [e, if_pos rfl]
    exact bXor32 _ 3988292384 (by omega) (by decide)
theorem l2_step {k y j : Nat} (hy : y < 4294967296) (hj : j < 8) : codec_crcTable.l2 (k + 1) (y : Int) (j : Int) = codec_crcTable.l2 k (st y : Int) ((j + 1 : Nat) : Int) := by
  rw [codec_crcTable.l2, if_pos (by omega), st_eq hy, Wn (by omega)]
theorem l2_ev {y : Nat} (hy : y < 4294967296) : Ev (fun k => codec_crcTable.l2 k (y : Int) 0) (st8 y : Int) := by
  refine ⟨9, fun k hk => ?_⟩
  obtain ⟨m, rfl⟩ : ∃ m, k = m + 9 := ⟨k - 9, by omega⟩
  have s0 := l2_step (k := m + 8) (j := 0) hy (by decide)
  have s1 := l2_step (k := m + 7) (j := 1) (st_lt hy) (by decide)
  have s2 := l2_step (k := m + 6) (j := 2) (st_lt (st_lt hy)) (by decide)
  have s3 := l2_step (k := m + 5) (j := 3) (st_lt (st_lt (st_lt hy))) (by decide)
  have s4 := l2_step (k := m + 4) (j := 4) (st_lt (st_lt (st_lt (st_lt hy)))) (by decide)
  have s5 := l2_step (k := m + 3) (j := 5) (st_lt (st_lt (st_lt (st_lt (st_lt hy))))) (by decide)
  have s6 := l2_step (k := m + 2) (j := 6) (st_lt (st_lt (st_lt (st_lt (st_lt (st_lt hy)))))) (by decide)
  have s7 := l2_step (k := m + 1) (j := 7) (st_lt (st_lt (st_lt (st_lt (st_lt (st_lt (st_lt hy))))))) (by decide)
  refine s0.trans (s1.trans (s2.trans (s3.trans (s4.trans (s5.trans (s6.trans (s7.trans ?_)))))))
  rw [codec_crcTable.l2, if_neg (by decide)]
  rfl
def tab (n : Nat) : List Int := (List.range n).map (fun i => (st8 i : Int)) ++ List.replicate (256 - n) 0
theorem tab_set {n : Nat} (h : n < 256) : (tab n).set n (st8 n : Int) = tab (n + 1) := by
  unfold tab
  rw [List.set_append_right _ _ (by simp), show 256 - n = (256 - (n + 1)) + 1 from by omega, List.replicate_succ, List.range_succ, List.map_append]
  simp
theorem l1_ev : ∀ (d n : Nat), d + n = 256 → Ev (fun k => codec_crcTable.l1 k (tab n) (n : Int)) (tab 256)
  | 0, n, h => by
    obtain rfl : n = 256 := by omega
    exact Ev.succ (g := fun _ => some (tab 256)) (fun k => by rw [codec_crcTable.l1, if_neg (by decide)]) (Ev.const rfl)
  | d + 1, n, h => by
    have ih := l1_ev d (n + 1) (by omega)
    refine Ev.succ (g := fun k => ((codec_crcTable.l2 k (n : Int) 0).bind (codec_crcTable.k3 (tab n) (n : Int))).bind (fun x4 => codec_crcTable.l1 k x4 ((n + 1 : Nat) : Int))) (fun k => ?_) ?_
    · rw [codec_crcTable.l1, if_pos (by omega), Wn (by omega), W32, show (n : Int) % 4294967296 = (n : Int) from by omega]
    refine Ev.bind (Ev.bind (l2_ev (by omega)) (Ev.const (r := tab (n + 1)) ?_)) ih
    unfold codec_crcTable.k3
    rw [if_pos (by omega), if_pos (by omega), tn, tab_set (by omega)]
theorem table_ev : Ev (fun k => codec_crcTable.f k) (tab 256) := Ev.bind (l1_ev 256 0 rfl) (Ev.const rfl)
theorem tab_get {i : Nat} (h : i < 256) : (tab 256).getD i 0 = (st8 i : Int) := by
  unfold tab
  rw [List.getD_eq_getElem?_getD, List.getElem?_append_left (by simpa using h), List.getElem?_map, List.getElem?_range h]
  rfl
/-- Bytes. -/
def isBytes (l : List Int) : Prop := ∀ x ∈ l, 0 ≤ x ∧ x < 256
def upd1 (c : Nat) (x : Nat) : Nat := (c / 256) ^^^ st8 ((c % 256) ^^^ x)
theorem upd1_lt {c x : Nat} (hc : c < 4294967296) (hx : x < 256) : upd1 c x < 4294967296 :=
  Nat.xor_lt_two_pow (n := 32) (by omega) (st8_lt (Nat.lt_of_lt_of_le (Nat.xor_lt_two_pow (n := 8) (by omega) hx) (by decide)))
def crc (c : Nat) (l : List Int) : Nat := l.foldl (fun c x => upd1 c x.toNat) c
theorem crc_lt {l : List Int} : ∀ {c : Nat}, c < 4294967296 → isBytes l → crc c l < 4294967296 := by
  induction l with
  | nil => intro c hc _; exact hc
  | cons x l ih =>
    intro c hc h
    have hx := h x List.mem_cons_self
    exact ih (upd1_lt hc (by omega)) (fun y hy => h y (List.mem_cons_of_mem _ hy))
/-- The checksum of bytes. -/
def cs (l : List Int) : Nat := 4294967295 ^^^ crc 4294967295 l
theorem cs_lt {l : List Int} (h : isBytes l) : cs l < 4294967296 := Nat.xor_lt_two_pow (n := 32) (by decide) (crc_lt (by decide) h)
theorem cs_l1 (a0 : List Int) (hb : isBytes a0) (hl : a0.length < 1000000000) : ∀ (d n c : Nat), d + n = a0.length → c < 4294967296 → Ev (fun k => codec_Checksum.l1 a0 (tab 256) k (c : Int) (n : Int)) (crc c (a0.drop n) : Int)
  | 0, n, c, h, hc => by
    obtain rfl : n = a0.length := by omega
    rw [List.drop_length]
    exact Ev.succ (g := fun _ => some (c : Int)) (fun k => by rw [codec_Checksum.l1, if_neg (by omega)]) (Ev.const rfl)
  | d + 1, n, c, h, hc => by
    have hn : n < a0.length := by omega
    have hx := hb _ (List.getElem_mem hn)
    obtain ⟨x, hxe⟩ : ∃ x : Nat, a0[n] = (x : Int) := ⟨a0[n].toNat, by omega⟩
    have hg : a0.getD n 0 = (x : Int) := by rw [List.getD_eq_getElem?_getD, List.getElem?_eq_getElem hn, ← hxe]; rfl
    have hx' : x < 256 := by omega
    have ih := cs_l1 a0 hb hl d (n + 1) (upd1 c x) (by omega) (upd1_lt hc hx')
    rw [List.drop_eq_getElem_cons hn]
    have e : crc c (a0[n] :: a0.drop (n + 1)) = crc (upd1 c x) (a0.drop (n + 1)) := by
      show crc (upd1 c a0[n].toNat) _ = _
      rw [hxe, tn]
    rw [e]
    have h1 : bXor .u8 (W .u8 (c : Int)) (a0.getD n 0) = (((c % 256) ^^^ x : Nat) : Int) := by
      rw [W8, hg, show (c : Int) % 256 = ((c % 256 : Nat) : Int) from by omega]
      exact bXor8 _ _ (by omega) hx'
    have h2 : (c % 256) ^^^ x < 256 := Nat.xor_lt_two_pow (n := 8) (by omega) hx'
    refine Ev.succ (fun k => ?_) ih
    rw [codec_Checksum.l1, if_pos (by omega), if_pos (by omega), if_pos (by omega), tn, h1, if_pos (by omega), if_pos (by omega), tn, tab_get h2, Wn (by omega)]
    rw [Int.fdiv_eq_ediv_of_nonneg _ (by decide), show (c : Int) / 256 = ((c / 256 : Nat) : Int) from by omega, bXor32 _ _ (by omega) (st8_lt (by omega))]
    rfl
theorem checksum_ev {l : List Int} (hb : isBytes l) (hl : l.length < 1000000000) : Ev (fun k => codec_Checksum.f k l) (cs l : Int) := by
  refine Ev.bind table_ev (Ev.bind (r := (crc 4294967295 l : Int)) (cs_l1 l hb hl l.length 0 4294967295 rfl (by decide)) (Ev.const ?_))
  unfold codec_Checksum.k1
  rw [show (4294967295 : Int) = ((4294967295 : Nat) : Int) from rfl, bXor32 _ _ (by decide) (crc_lt (by decide) hb)]
  rfl
end Go.Proofs.YtiomeaoeegikkaaDoor.led
namespace Go.Proofs.YtiomeaoeegikkaaDoor
open Go Go.Proofs.YtiomeaoeegikkaaDoor.RW
set_option linter.unusedVariables false
set_option maxRecDepth 100000
set_option maxHeartbeats 8000000

/-! ### codec_validEntry: function 50, armillary/codec.validEntry -/
noncomputable def K50_0 : Code := cBody Tryd.f50
def codec_validEntry.k1  (x1 : Bool) : Option (Bool) := (some x1)
def codec_validEntry.f (a0 : S25) : Option (Bool) := ((if a0.f0 ≥ 1 then (if a0.f0 ≤ 4 then (if (a0.f1.size : Int) ≥ 1 then (if (a0.f1.size : Int) ≤ 40 then (some (decide ((a0.f2.length : Int) ≤ 20000))) else (some false)) else (some false)) else (some false)) else (some false)).bind (codec_validEntry.k1))
def codec_validEntry.Post (I : Imm) (w : World) (r : Bool) (v : Value) (w' : World) : Prop :=
 ∃ (J : Imm), v = .bool r ∧ Got w w' I J []
theorem codec_validEntry.calls (I0 : Imm) (a0 : S25) (Ap0_2 : Option Addr) (cp0_2 : Nat) (w : World) (hI : I0.at_ w) (hlp0_2 : a0.f2.length ≤ cp0_2) (hrp0_2 : Rd (Ty.int .u8) I0 Ap0_2 a0.f2) (r : Bool) (h : codec_validEntry.f a0 = some r) :
  Calls Tryd.prog 50 [.agg #[i6 a0.f0, .string a0.f1, .slice Ap0_2 a0.f2.length cp0_2]].toArray w fun e w' => ∃ v, e = .returned v ∧ codec_validEntry.Post I0 w r v w' := by
 have H : ((if a0.f0 ≥ 1 then (if a0.f0 ≤ 4 then (if (a0.f1.size : Int) ≥ 1 then (if (a0.f1.size : Int) ≤ 40 then (some (decide ((a0.f2.length : Int) ≤ 20000))) else (some false)) else (some false)) else (some false)) else (some false)).bind (codec_validEntry.k1)) = some r := h
 clear h
 refine calls_body Tryd.func50 (by kernel_rfl) 29 (by kernel_rfl) (by kernel_rfl) ⟨w, fun _ => False, I0⟩ I0 [] [(0, .agg #[i6 a0.f0, .string a0.f1, .slice Ap0_2 a0.f2.length cp0_2])] (by kernel_rfl) (Sat.start w _ I0 hI) ?_
 generalize w.heap.size = nx0
 show OK _ K50_0 _ _ _ _ _ _ _ _
 refine OK.sr ?_
 refine RL.spt 2 [(1, pt nx0 0)] (nx0 + 1) [⟨nx0, [i6 a0.f0, .string a0.f1, .slice Ap0_2 a0.f2.length cp0_2], 25⟩] ?_
 refine OK.sq ?_
 refine OK.join (fun K' I' _ L' X' => ∃ (x1 : Bool), K' = [(2, .bool x1)] ∧ L' = [⟨nx0, [i6 a0.f0, .string a0.f1, .slice Ap0_2 a0.f2.length cp0_2], 25⟩] ∧ X' = [] ∧ Imm.le I0 I' ∧ codec_validEntry.k1 x1 = some r) ?_ ?_
 ·rintro _ I1 nx1 _ _ ⟨x1, rfl, rfl, rfl, hi1, H⟩
  rw [codec_validEntry.k1] at H
  refine QN.then_ ?_
  refine OK.re ?_
  obtain rfl := Option.some.inj H
  refine QN.body rfl [] (RFacts.nil _ _ _) (.no) (.bool x1) (by kernel_rfl) (by kernel_rfl) (by kernel_rfl) ?_ _ (.inr rfl)
  exact fun w' hs' => ⟨_, rfl, I1, rfl, hs'.got _ .slnil⟩
 ·intro Q_1 hJ1 hQ1
  obtain ⟨y1, H, HK1⟩ := bnd H
  refine OK.rg ?_
  refine RL.simK (K' := [(6, .bool (decide (a0.f0 ≥ 1))), (1, pt nx0 0)]) [] (RFacts.nil _ _ _) 4 [.no, .l 0, .no, .no] (by kernel_rfl) (by kernel_rfl) ?_
  refine RL.cases (decide (a0.f0 ≥ 1)) (fun hb => ?_) (fun hb => ?_)
  ·have hc := (of_decide_eq_true hb)
   rw [hb]
   rw [if_pos hc] at H; clear hb
   refine RL.simK (K' := [(11, .bool (decide (a0.f0 ≤ 4))), (1, pt nx0 0)]) [] (RFacts.nil _ _ _) 5 [.no, .l 0, .no, .no, .no] (by kernel_rfl) (by kernel_rfl) ?_
   refine RL.cases (decide (a0.f0 ≤ 4)) (fun hb => ?_) (fun hb => ?_)
   ·have hc := (of_decide_eq_true hb)
    rw [hb]
    rw [if_pos hc] at H; clear hb
    refine RL.simK (K' := [(17, .bool (decide ((a0.f1.size : Int) ≥ 1))), (1, pt nx0 0)]) [] (RFacts.nil _ _ _) 6 [.no, .l 0, .no, .no, .no, .no] (by kernel_rfl) (by kernel_rfl) ?_
    refine RL.cases (decide ((a0.f1.size : Int) ≥ 1)) (fun hb => ?_) (fun hb => ?_)
    ·have hc := (of_decide_eq_true hb)
     rw [hb]
     rw [if_pos hc] at H; clear hb
     refine RL.simK (K' := [(23, .bool (decide ((a0.f1.size : Int) ≤ 40))), (1, pt nx0 0)]) [] (RFacts.nil _ _ _) 6 [.no, .l 0, .no, .no, .no, .no] (by kernel_rfl) (by kernel_rfl) ?_
     refine RL.cases (decide ((a0.f1.size : Int) ≤ 40)) (fun hb => ?_) (fun hb => ?_)
     ·have hc := (of_decide_eq_true hb)
      rw [hb]
      rw [if_pos hc] at H; clear hb
      refine RL.simK (K' := [(2, .bool (decide ((a0.f2.length : Int) ≤ 20000)))]) [] (RFacts.nil _ _ _) 6 [.no, .l 0, .no, .no, .no, .no] (by kernel_rfl) (by kernel_rfl) ?_
      refine RL.nil (by kernel_rfl) ?_
      obtain rfl := Option.some.inj H
      exact QN.sb (hJ1 _ _ _ _ _ ⟨(decide ((a0.f2.length : Int) ≤ 20000)), rfl, rfl, rfl, (Imm.le_refl _), HK1⟩) (.cons_cons _ .slnil) (.refl _)
     ·have hc := (of_decide_eq_false hb)
      rw [hb]
      rw [if_neg hc] at H; clear hb
      refine RL.s 6 [(2, .bool false)] ?_
      refine RL.nil (by kernel_rfl) ?_
      obtain rfl := Option.some.inj H
      exact QN.sb (hJ1 _ _ _ _ _ ⟨false, rfl, rfl, rfl, (Imm.le_refl _), HK1⟩) (.cons_cons _ .slnil) (.refl _)
    ·have hc := (of_decide_eq_false hb)
     rw [hb]
     rw [if_neg hc] at H; clear hb
     refine RL.s 12 [(2, .bool false)] ?_
     refine RL.nil (by kernel_rfl) ?_
     obtain rfl := Option.some.inj H
     exact QN.sb (hJ1 _ _ _ _ _ ⟨false, rfl, rfl, rfl, (Imm.le_refl _), HK1⟩) (.cons_cons _ .slnil) (.refl _)
   ·have hc := (of_decide_eq_false hb)
    rw [hb]
    rw [if_neg hc] at H; clear hb
    refine RL.s 18 [(2, .bool false)] ?_
    refine RL.nil (by kernel_rfl) ?_
    obtain rfl := Option.some.inj H
    exact QN.sb (hJ1 _ _ _ _ _ ⟨false, rfl, rfl, rfl, (Imm.le_refl _), HK1⟩) (.cons_cons _ .slnil) (.refl _)
  ·have hc := (of_decide_eq_false hb)
   rw [hb]
   rw [if_neg hc] at H; clear hb
   refine RL.s 23 [(2, .bool false)] ?_
   refine RL.nil (by kernel_rfl) ?_
   obtain rfl := Option.some.inj H
   exact QN.sb (hJ1 _ _ _ _ _ ⟨false, rfl, rfl, rfl, (Imm.le_refl _), HK1⟩) (.cons_cons _ .slnil) (.refl _)

end Go.Proofs.YtiomeaoeegikkaaDoor
namespace Go.Proofs.YtiomeaoeegikkaaDoor
open Go Go.Proofs.YtiomeaoeegikkaaDoor.RW
set_option linter.unusedVariables false
set_option maxRecDepth 100000
set_option maxHeartbeats 8000000

/-! ### slices_Clip_byte_byte: function 61, slices.Clip[[]byte,byte] -/
noncomputable def K61_0 : Code := cBody Tryd.f61
def slices_Clip_byte_byte.f (a0 : List Int) : Option (List Int) := (some a0)
def slices_Clip_byte_byte.Post (I : Imm) (w : World) (r : List Int) (v : Value) (w' : World) : Prop :=
 ∃ (J : Imm) (A0 : Option Addr), v = .slice A0 r.length r.length ∧ Got w w' I J [] ∧ Rd (Ty.int .u8) J A0 r
theorem slices_Clip_byte_byte.calls (I0 : Imm) (a0 : List Int) (Ap0 : Option Addr) (cp0 : Nat) (w : World) (hI : I0.at_ w) (hlp0 : a0.length ≤ cp0) (hrp0 : Rd (Ty.int .u8) I0 Ap0 a0) (r : List Int) (h : slices_Clip_byte_byte.f a0 = some r) :
  Calls Tryd.prog 61 [.slice Ap0 a0.length cp0].toArray w fun e w' => ∃ v, e = .returned v ∧ slices_Clip_byte_byte.Post I0 w r v w' := by
 have H : (some a0) = some r := h
 clear h
 refine calls_body Tryd.func61 (by kernel_rfl) 9 (by kernel_rfl) (by kernel_rfl) ⟨w, fun _ => False, I0⟩ I0 [] [(0, .slice Ap0 a0.length cp0)] (by kernel_rfl) (Sat.start w _ I0 hI) ?_
 generalize w.heap.size = nx0
 show OK _ K61_0 _ _ _ _ _ _ _ _
 refine OK.sr ?_
 refine RL.st 1 [(0, .slice Ap0 a0.length cp0)] ?_
 refine OK.sr ?_
 refine RL.s 5 [(7, i6 (a0.length : Int)), (5, i6 (a0.length : Int)), (3, .slice Ap0 a0.length cp0)] ?_
 refine RL.clip (T := 22) (e := 5) (l := a0) (S := Ap0) (cap := cp0) 1 .i64 .i64 (some 8) (by kernel_rfl) (by kernel_rfl) (by kernel_rfl) (by kernel_rfl) hlp0 (K' := [(8, .slice (slA Ap0 0 a0.length 1) a0.length a0.length), (7, i6 (a0.length : Int)), (5, i6 (a0.length : Int)), (3, .slice Ap0 a0.length cp0)]) (by kernel_rfl) ?_
 refine RL.st 1 [(2, .slice (slA Ap0 0 a0.length 1) a0.length a0.length)] ?_
 refine OK.re ?_
 obtain rfl := Option.some.inj H
 refine QN.body rfl [] (RFacts.nil _ _ _) (.no) (.slice (slA Ap0 0 a0.length 1) a0.length a0.length) (by kernel_rfl) (by kernel_rfl) (by kernel_rfl) ?_ _ (.inr rfl)
 exact fun w' hs' => ⟨_, rfl, I0, (slA Ap0 0 a0.length 1), rfl, hs'.got _ .slnil, (rd_clip hrp0)⟩

end Go.Proofs.YtiomeaoeegikkaaDoor
namespace Go.Proofs.YtiomeaoeegikkaaDoor
open Go Go.Proofs.YtiomeaoeegikkaaDoor.RW
set_option linter.unusedVariables false
set_option maxRecDepth 100000
set_option maxHeartbeats 8000000

/-! ### codec_AppendVarint: function 52, armillary/codec.AppendVarint -/
noncomputable def K52_0 : Code := cBody Tryd.f52
noncomputable def K52_12 : Code := cL (cL (cL (cR (cR (cR K52_0)))))
def codec_AppendVarint.l1 : Nat → (List Int) → Int → Option (List Int)
 | 0, _, _ => none
 | k + 1, x1, x2 => (if x2 ≥ 128 then (if (x1.length + [bOr .u8 (W .u8 (x2)) 128].length) * 1 ≤ 140737488355328 then (codec_AppendVarint.l1 k (x1 ++ [bOr .u8 (W .u8 (x2)) 128]) (Int.fdiv x2 128)) else none) else (if (x1.length + [W .u8 (x2)].length) * 1 ≤ 140737488355328 then (some (x1 ++ [W .u8 (x2)])) else none))
def codec_AppendVarint.f (k : Nat) (a0 : List Int) (a1 : Int) : Option (List Int) := ((slices_Clip_byte_byte.f a0).bind fun t1 => (if (bXor .u64 (W .u64 (W .i64 (a1 * 2))) (W .u64 (Int.fdiv a1 9223372036854775808))) ≥ 128 then (if (t1.length + [bOr .u8 (W .u8 (bXor .u64 (W .u64 (W .i64 (a1 * 2))) (W .u64 (Int.fdiv a1 9223372036854775808)))) 128].length) * 1 ≤ 140737488355328 then (codec_AppendVarint.l1 k (t1 ++ [bOr .u8 (W .u8 (bXor .u64 (W .u64 (W .i64 (a1 * 2))) (W .u64 (Int.fdiv a1 9223372036854775808)))) 128]) (Int.fdiv (bXor .u64 (W .u64 (W .i64 (a1 * 2))) (W .u64 (Int.fdiv a1 9223372036854775808))) 128)) else none) else (if (t1.length + [W .u8 (bXor .u64 (W .u64 (W .i64 (a1 * 2))) (W .u64 (Int.fdiv a1 9223372036854775808)))].length) * 1 ≤ 140737488355328 then (some (t1 ++ [W .u8 (bXor .u64 (W .u64 (W .i64 (a1 * 2))) (W .u64 (Int.fdiv a1 9223372036854775808)))])) else none)))
def codec_AppendVarint.Post (I : Imm) (w : World) (r : List Int) (v : Value) (w' : World) : Prop :=
 ∃ (J : Imm) (A0 : Option Addr) (c0 : Nat) (cs0 : List Value), v = .slice A0 r.length c0 ∧ Got w w' I J [orow 5 1 A0 r.length c0 cs0] ∧ Reps (Ty.int .u8) J r cs0
theorem codec_AppendVarint.calls (k : Nat) (I0 : Imm) (a0 : List Int) (Ap0 : Option Addr) (cp0 : Nat) (a1 : Int) (w : World) (hI : I0.at_ w) (hlp0 : a0.length ≤ cp0) (hrp0 : Rd (Ty.int .u8) I0 Ap0 a0) (r : List Int) (h : codec_AppendVarint.f k a0 a1 = some r) :
  Calls Tryd.prog 52 [.slice Ap0 a0.length cp0, i6 a1].toArray w fun e w' => ∃ v, e = .returned v ∧ codec_AppendVarint.Post I0 w r v w' := by
 have H : ((slices_Clip_byte_byte.f a0).bind fun t1 => (if (bXor .u64 (W .u64 (W .i64 (a1 * 2))) (W .u64 (Int.fdiv a1 9223372036854775808))) ≥ 128 then (if (t1.length + [bOr .u8 (W .u8 (bXor .u64 (W .u64 (W .i64 (a1 * 2))) (W .u64 (Int.fdiv a1 9223372036854775808)))) 128].length) * 1 ≤ 140737488355328 then (codec_AppendVarint.l1 k (t1 ++ [bOr .u8 (W .u8 (bXor .u64 (W .u64 (W .i64 (a1 * 2))) (W .u64 (Int.fdiv a1 9223372036854775808)))) 128]) (Int.fdiv (bXor .u64 (W .u64 (W .i64 (a1 * 2))) (W .u64 (Int.fdiv a1 9223372036854775808))) 128)) else none) else (if (t1.length + [W .u8 (bXor .u64 (W .u64 (W .i64 (a1 * 2))) (W .u64 (Int.fdiv a1 9223372036854775808)))].length) * 1 ≤ 140737488355328 then (some (t1 ++ [W .u8 (bXor .u64 (W .u64 (W .i64 (a1 * 2))) (W .u64 (Int.fdiv a1 9223372036854775808)))])) else none))) = some r := h
 clear h
 refine calls_body Tryd.func52 (by kernel_rfl) 30 (by kernel_rfl) (by kernel_rfl) ⟨w, fun _ => False, I0⟩ I0 [] [(0, .slice Ap0 a0.length cp0), (1, i6 a1)] (by kernel_rfl) (Sat.start w _ I0 hI) ?_
 generalize w.heap.size = nx0
 show OK _ K52_0 _ _ _ _ _ _ _ _
 refine OK.sr ?_
 refine RL.st 1 [(0, .slice Ap0 a0.length cp0), (1, i6 a1)] ?_
 refine OK.sr ?_
 refine RL.st 8 [(5, .int .u64 (bXor .u64 (W .u64 (W .i64 (a1 * 2))) (W .u64 (Int.fdiv a1 9223372036854775808)))), (0, .slice Ap0 a0.length cp0)] ?_
 refine OK.sr ?_
 refine RL.s 1 [(13, .slice Ap0 a0.length cp0), (5, .int .u64 (bXor .u64 (W .u64 (W .i64 (a1 * 2))) (W .u64 (Int.fdiv a1 9223372036854775808)))), (0, .slice Ap0 a0.length cp0)] ?_
 obtain ⟨t1, hA1, H⟩ := bnd H
 refine RL.callP 61 [.slice Ap0 a0.length cp0] (some 14) (fun w => slices_Clip_byte_byte.Post I0 w t1) (by kernel_rfl) (by kernel_rfl) (fun w hs => slices_Clip_byte_byte.calls I0 a0 Ap0 cp0 w hs.im hlp0 hrp0 t1 hA1) ?_
 rintro w v w' hs ⟨I1, A1, rfl, hg, hr1⟩
 have hi1 := hg.le
 refine RL.resume (X' := []) rfl (hs.call hg) ?_
 clear hs hg
 generalize w'.heap.size = nx1
 clear w w'
 refine RL.st 1 [(0, .slice A1 t1.length t1.length), (5, .int .u64 (bXor .u64 (W .u64 (W .i64 (a1 * 2))) (W .u64 (Int.fdiv a1 9223372036854775808))))] ?_
 refine OK.sq ?_
 refine OK.bk 0 ?_
 refine OK.loopPeel K52_12 (by kernel_rfl) (fun n_ K' I' _ L' X' => ∃ (x1 : List Int) (x2 : Int) (A2 : Option Addr) (c2 : Nat) (cs1 : List Value), K' = [(0, .slice A2 x1.length c2), (5, .int .u64 x2)] ∧ L' = [] ∧ X' = [orow 5 1 A2 x1.length c2 cs1] ∧ Imm.le I1 I' ∧ Reps (Ty.int .u8) I' x1 cs1 ∧ codec_AppendVarint.l1 n_ x1 x2 = some r) k ?_ ?_ ?_
 ·rintro _ _ _ _ _ ⟨x1, x2, A2, c2, cs1, rfl, rfl, rfl, _, hp1, H⟩
  cases H
 ·intro Q_f1 hJ2 hQ2
  refine OK.sq ?_
  refine OK.sr ?_
  refine RL.st 2 [(16, .bool (decide ((bXor .u64 (W .u64 (W .i64 (a1 * 2))) (W .u64 (Int.fdiv a1 9223372036854775808))) ≥ 128))), (0, .slice A1 t1.length t1.length), (5, .int .u64 (bXor .u64 (W .u64 (W .i64 (a1 * 2))) (W .u64 (Int.fdiv a1 9223372036854775808))))] ?_
  refine OK.cd (decide ((bXor .u64 (W .u64 (W .i64 (a1 * 2))) (W .u64 (Int.fdiv a1 9223372036854775808))) ≥ 128)) (fun hb => ?_) (fun hb => ?_)
  ·skip
   have hc := (of_decide_eq_true hb)
   rw [if_pos hc] at H
   clear hb
   refine OK.skt ?_
   refine OK.sq ?_
   refine OK.bk 1 ?_
   refine OK.rg ?_
   refine RL.sp 5 [(23, .slice (some ⟨nx1, 0, none⟩) 1 1), (19, .slice A1 t1.length t1.length), (0, .slice A1 t1.length t1.length), (5, .int .u64 (bXor .u64 (W .u64 (W .i64 (a1 * 2))) (W .u64 (Int.fdiv a1 9223372036854775808))))] (nx1 + 1) [⟨nx1, [.int .u8 (bOr .u8 (W .u8 (bXor .u64 (W .u64 (W .i64 (a1 * 2))) (W .u64 (Int.fdiv a1 9223372036854775808)))) 128)], 5⟩] ?_
   obtain ⟨hz3, H⟩ := ifs H
   refine RL.appendClip (T := 22) (e := 5) (S := A1) 1 1 22 0 1 nx1 5 [.int .u8 (bOr .u8 (W .u8 (bXor .u64 (W .u64 (W .i64 (a1 * 2))) (W .u64 (Int.fdiv a1 9223372036854775808)))) 128)] (Ty.int .u8) t1 [bOr .u8 (W .u8 (bXor .u64 (W .u64 (W .i64 (a1 * 2))) (W .u64 (Int.fdiv a1 9223372036854775808)))) 128] (some 24) (by kernel_rfl) (by kernel_rfl) (by kernel_rfl) (by kernel_rfl) (by kernel_rfl) (by decide) hr1 (by kernel_rfl) ⟨_, _, rfl, rfl, rfl⟩ (Nat.zero_lt_succ _) hz3 (by omega) (fun A5 c5 nx5 cs4 hp4 => ?_)
   refine RL.sub (K' := [(24, .slice A5 ((t1 ++ [bOr .u8 (W .u8 (bXor .u64 (W .u64 (W .i64 (a1 * 2))) (W .u64 (Int.fdiv a1 9223372036854775808)))) 128]).length) c5), (23, .slice (some ⟨nx1, 0, none⟩) 1 1), (19, .slice A1 t1.length t1.length), (0, .slice A1 t1.length t1.length), (5, .int .u64 (bXor .u64 (W .u64 (W .i64 (a1 * 2))) (W .u64 (Int.fdiv a1 9223372036854775808))))]) (L' := [⟨nx1, [.int .u8 (bOr .u8 (W .u8 (bXor .u64 (W .u64 (W .i64 (a1 * 2))) (W .u64 (Int.fdiv a1 9223372036854775808)))) 128)], 5⟩]) (X' := [orow 5 1 A5 ((t1 ++ [bOr .u8 (W .u8 (bXor .u64 (W .u64 (W .i64 (a1 * 2))) (W .u64 (Int.fdiv a1 9223372036854775808)))) 128]).length) c5 cs4]) (by kernel_rfl) (.refl _) (.refl _) ?_
   refine RL.s 1 [(0, .slice A5 ((t1 ++ [bOr .u8 (W .u8 (bXor .u64 (W .u64 (W .i64 (a1 * 2))) (W .u64 (Int.fdiv a1 9223372036854775808)))) 128]).length) c5), (5, .int .u64 (bXor .u64 (W .u64 (W .i64 (a1 * 2))) (W .u64 (Int.fdiv a1 9223372036854775808))))] ?_
   refine RL.nil (by kernel_rfl) ?_
   refine QN.blkN ?_
   refine QN.then_ ?_
   refine OK.rg ?_
   refine RL.s 3 [(5, .int .u64 (Int.fdiv (bXor .u64 (W .u64 (W .i64 (a1 * 2))) (W .u64 (Int.fdiv a1 9223372036854775808))) 128)), (0, .slice A5 ((t1 ++ [bOr .u8 (W .u8 (bXor .u64 (W .u64 (W .i64 (a1 * 2))) (W .u64 (Int.fdiv a1 9223372036854775808)))) 128]).length) c5)] ?_
   refine RL.nil (by kernel_rfl) ?_
   exact QN.sb (hJ2 _ _ _ _ _ ⟨(t1 ++ [bOr .u8 (W .u8 (bXor .u64 (W .u64 (W .i64 (a1 * 2))) (W .u64 (Int.fdiv a1 9223372036854775808)))) 128]), Int.fdiv (bXor .u64 (W .u64 (W .i64 (a1 * 2))) (W .u64 (Int.fdiv a1 9223372036854775808))) 128, A5, c5, cs4, rfl, rfl, rfl, (Imm.le_refl _), hp4, H⟩) (.cons _ .slnil) (.refl _)
  ·skip
   have hc := (of_decide_eq_false hb)
   rw [if_neg hc] at H
   clear hb
   refine OK.ex 0 ?_
   refine QN.thenE ?_
   refine QN.outE hQ2 ?_
   refine QN.blkE ?_
   refine QN.then_ ?_
   refine OK.sr ?_
   refine RL.sp 4 [(28, .slice (some ⟨nx1, 0, none⟩) 1 1), (25, .slice A1 t1.length t1.length)] (nx1 + 1) [⟨nx1, [.int .u8 (W .u8 (bXor .u64 (W .u64 (W .i64 (a1 * 2))) (W .u64 (Int.fdiv a1 9223372036854775808))))], 5⟩] ?_
   obtain ⟨hz4, H⟩ := ifs H
   refine RL.appendClip (T := 22) (e := 5) (S := A1) 1 1 22 0 1 nx1 5 [.int .u8 (W .u8 (bXor .u64 (W .u64 (W .i64 (a1 * 2))) (W .u64 (Int.fdiv a1 9223372036854775808))))] (Ty.int .u8) t1 [W .u8 (bXor .u64 (W .u64 (W .i64 (a1 * 2))) (W .u64 (Int.fdiv a1 9223372036854775808)))] (some 29) (by kernel_rfl) (by kernel_rfl) (by kernel_rfl) (by kernel_rfl) (by kernel_rfl) (by decide) hr1 (by kernel_rfl) ⟨_, _, rfl, rfl, rfl⟩ (Nat.zero_lt_succ _) hz4 (by omega) (fun A6 c6 nx6 cs5 hp5 => ?_)
   refine RL.sub (K' := [(29, .slice A6 ((t1 ++ [W .u8 (bXor .u64 (W .u64 (W .i64 (a1 * 2))) (W .u64 (Int.fdiv a1 9223372036854775808)))]).length) c6), (28, .slice (some ⟨nx1, 0, none⟩) 1 1), (25, .slice A1 t1.length t1.length)]) (L' := [⟨nx1, [.int .u8 (W .u8 (bXor .u64 (W .u64 (W .i64 (a1 * 2))) (W .u64 (Int.fdiv a1 9223372036854775808))))], 5⟩]) (X' := [orow 5 1 A6 ((t1 ++ [W .u8 (bXor .u64 (W .u64 (W .i64 (a1 * 2))) (W .u64 (Int.fdiv a1 9223372036854775808)))]).length) c6 cs5]) (by kernel_rfl) (.refl _) (.refl _) ?_
   refine RL.st 1 [(4, .slice A6 ((t1 ++ [W .u8 (bXor .u64 (W .u64 (W .i64 (a1 * 2))) (W .u64 (Int.fdiv a1 9223372036854775808)))]).length) c6)] ?_
   refine OK.re ?_
   obtain rfl := Option.some.inj H
   refine QN.body rfl [] (RFacts.nil _ _ _) (.no) (.slice A6 ((t1 ++ [W .u8 (bXor .u64 (W .u64 (W .i64 (a1 * 2))) (W .u64 (Int.fdiv a1 9223372036854775808)))]).length) c6) (by kernel_rfl) (by kernel_rfl) (by kernel_rfl) ?_ _ (.inr rfl)
   exact fun w' hs' => ⟨_, rfl, I1, A6, c6, cs5, rfl, hs'.got _ (.cons_cons _ .slnil), hp5⟩
 ·rintro kq1 _ I2 nx2 _ _ ⟨x1, x2, A2, c2, cs1, rfl, rfl, rfl, hi2, hp1, H⟩ Q_l1 hJ1 hQ1
  rw [codec_AppendVarint.l1] at H
  refine OK.sq ?_
  refine OK.sr ?_
  refine RL.st 2 [(16, .bool (decide (x2 ≥ 128))), (0, .slice A2 x1.length c2), (5, .int .u64 x2)] ?_
  refine OK.cd (decide (x2 ≥ 128)) (fun hb => ?_) (fun hb => ?_)
  ·skip
   have hc := (of_decide_eq_true hb)
   rw [if_pos hc] at H
   clear hb
   refine OK.skt ?_
   refine OK.sq ?_
   refine OK.bk 1 ?_
   refine OK.rg ?_
   refine RL.sp 5 [(23, .slice (some ⟨nx2, 0, none⟩) 1 1), (19, .slice A2 x1.length c2), (0, .slice A2 x1.length c2), (5, .int .u64 x2)] (nx2 + 1) [⟨nx2, [.int .u8 (bOr .u8 (W .u8 (x2)) 128)], 5⟩] ?_
   obtain ⟨hz1, H⟩ := ifs H
   refine RL.appendB (T := 22) (e := 5) (S := A2) 1 1 22 c2 0 1 nx2 5 cs1 [.int .u8 (bOr .u8 (W .u8 (x2)) 128)] (Ty.int .u8) x1 [bOr .u8 (W .u8 (x2)) 128] 0 (some 24) (by kernel_rfl) (by kernel_rfl) (by kernel_rfl) (by kernel_rfl) (by kernel_rfl) (by decide) (by kernel_rfl) hp1 (by kernel_rfl) ⟨_, _, rfl, rfl, rfl⟩ hz1 (by omega) (fun A3 c3 nx3 cs2 hp2 => ?_)
   refine RL.sub (K' := [(24, .slice A3 ((x1 ++ [bOr .u8 (W .u8 (x2)) 128]).length) c3), (23, .slice (some ⟨nx2, 0, none⟩) 1 1), (5, .int .u64 x2)]) (L' := [⟨nx2, [.int .u8 (bOr .u8 (W .u8 (x2)) 128)], 5⟩]) (X' := [orow 5 1 A3 ((x1 ++ [bOr .u8 (W .u8 (x2)) 128]).length) c3 cs2]) (by kernel_rfl) (.refl _) (.refl _) ?_
   refine RL.s 1 [(0, .slice A3 ((x1 ++ [bOr .u8 (W .u8 (x2)) 128]).length) c3), (5, .int .u64 x2)] ?_
   refine RL.nil (by kernel_rfl) ?_
   refine QN.blkN ?_
   refine QN.then_ ?_
   refine OK.rg ?_
   refine RL.s 3 [(5, .int .u64 (Int.fdiv x2 128)), (0, .slice A3 ((x1 ++ [bOr .u8 (W .u8 (x2)) 128]).length) c3)] ?_
   refine RL.nil (by kernel_rfl) ?_
   exact QN.sb (hJ1 _ _ _ _ _ ⟨(x1 ++ [bOr .u8 (W .u8 (x2)) 128]), Int.fdiv x2 128, A3, c3, cs2, rfl, rfl, rfl, hi2, hp2, H⟩) (.cons _ .slnil) (.refl _)
  ·skip
   have hc := (of_decide_eq_false hb)
   rw [if_neg hc] at H
   clear hb
   refine OK.ex 0 ?_
   refine QN.thenE ?_
   refine QN.outE hQ1 ?_
   refine QN.blkE ?_
   refine QN.then_ ?_
   refine OK.sr ?_
   refine RL.sp 4 [(28, .slice (some ⟨nx2, 0, none⟩) 1 1), (25, .slice A2 x1.length c2)] (nx2 + 1) [⟨nx2, [.int .u8 (W .u8 (x2))], 5⟩] ?_
   obtain ⟨hz2, H⟩ := ifs H
   refine RL.appendB (T := 22) (e := 5) (S := A2) 1 1 22 c2 0 1 nx2 5 cs1 [.int .u8 (W .u8 (x2))] (Ty.int .u8) x1 [W .u8 (x2)] 0 (some 29) (by kernel_rfl) (by kernel_rfl) (by kernel_rfl) (by kernel_rfl) (by kernel_rfl) (by decide) (by kernel_rfl) hp1 (by kernel_rfl) ⟨_, _, rfl, rfl, rfl⟩ hz2 (by omega) (fun A4 c4 nx4 cs3 hp3 => ?_)
   refine RL.sub (K' := [(29, .slice A4 ((x1 ++ [W .u8 (x2)]).length) c4), (28, .slice (some ⟨nx2, 0, none⟩) 1 1)]) (L' := [⟨nx2, [.int .u8 (W .u8 (x2))], 5⟩]) (X' := [orow 5 1 A4 ((x1 ++ [W .u8 (x2)]).length) c4 cs3]) (by kernel_rfl) (.refl _) (.refl _) ?_
   refine RL.st 1 [(4, .slice A4 ((x1 ++ [W .u8 (x2)]).length) c4)] ?_
   refine OK.re ?_
   obtain rfl := Option.some.inj H
   refine QN.body rfl [] (RFacts.nil _ _ _) (.no) (.slice A4 ((x1 ++ [W .u8 (x2)]).length) c4) (by kernel_rfl) (by kernel_rfl) (by kernel_rfl) ?_ _ (.inr rfl)
   exact fun w' hs' => ⟨_, rfl, I2, A4, c4, cs3, rfl, hs'.got _ (.cons_cons _ .slnil), hp3⟩

end Go.Proofs.YtiomeaoeegikkaaDoor
namespace Go.Proofs.YtiomeaoeegikkaaDoor
open Go Go.Proofs.YtiomeaoeegikkaaDoor.RW
set_option linter.unusedVariables false
set_option maxRecDepth 100000
set_option maxHeartbeats 8000000

/-! ### codec_appendBytes: function 51, armillary/codec.appendBytes -/
noncomputable def K51_0 : Code := cBody Tryd.f51
def codec_appendBytes.f (k : Nat) (a0 : List Int) (a1 : List Int) : Option (List Int) := ((codec_AppendVarint.f k a0 (a1.length : Int)).bind fun t1 => (if (t1.length + a1.length) * 1 ≤ 140737488355328 then (some (t1 ++ a1)) else none))
def codec_appendBytes.Post (I : Imm) (w : World) (r : List Int) (v : Value) (w' : World) : Prop :=
 ∃ (J : Imm) (A0 : Option Addr) (c0 : Nat) (cs0 : List Value), v = .slice A0 r.length c0 ∧ Got w w' I J [orow 5 1 A0 r.length c0 cs0] ∧ Reps (Ty.int .u8) J r cs0
theorem codec_appendBytes.calls (k : Nat) (I0 : Imm) (a0 : List Int) (Ap0 : Option Addr) (cp0 : Nat) (a1 : List Int) (Ap1 : Option Addr) (cp1 : Nat) (w : World) (hI : I0.at_ w) (hlp0 : a0.length ≤ cp0) (hrp0 : Rd (Ty.int .u8) I0 Ap0 a0) (hlp1 : a1.length ≤ cp1) (hrp1 : Rd (Ty.int .u8) I0 Ap1 a1) (r : List Int) (h : codec_appendBytes.f k a0 a1 = some r) :
  Calls Tryd.prog 51 [.slice Ap0 a0.length cp0, .slice Ap1 a1.length cp1].toArray w fun e w' => ∃ v, e = .returned v ∧ codec_appendBytes.Post I0 w r v w' := by
 have H : ((codec_AppendVarint.f k a0 (a1.length : Int)).bind fun t1 => (if (t1.length + a1.length) * 1 ≤ 140737488355328 then (some (t1 ++ a1)) else none)) = some r := h
 clear h
 refine calls_body Tryd.func51 (by kernel_rfl) 11 (by kernel_rfl) (by kernel_rfl) ⟨w, fun _ => False, I0⟩ I0 [] [(0, .slice Ap0 a0.length cp0), (1, .slice Ap1 a1.length cp1)] (by kernel_rfl) (Sat.start w _ I0 hI) ?_
 generalize w.heap.size = nx0
 show OK _ K51_0 _ _ _ _ _ _ _ _
 refine OK.sr ?_
 refine RL.st 1 [(0, .slice Ap0 a0.length cp0), (1, .slice Ap1 a1.length cp1)] ?_
 refine OK.sr ?_
 refine RL.s 3 [(7, i6 (a1.length : Int)), (5, .slice Ap0 a0.length cp0), (1, .slice Ap1 a1.length cp1)] ?_
 obtain ⟨t1, hA1, H⟩ := bnd H
 refine RL.callP 52 [.slice Ap0 a0.length cp0, i6 (a1.length : Int)] (some 8) (fun w => codec_AppendVarint.Post I0 w t1) (by kernel_rfl) (by kernel_rfl) (fun w hs => codec_AppendVarint.calls k I0 a0 Ap0 cp0 (a1.length : Int) w hs.im hlp0 hrp0 t1 hA1) ?_
 rintro w v w' hs ⟨I1, A1, c1, cs1, rfl, hg, hp1⟩
 have hi1 := hg.le
 refine RL.resume (X' := [orow 5 1 A1 t1.length c1 cs1]) rfl (hs.call hg) ?_
 clear hs hg
 generalize w'.heap.size = nx1
 clear w w'
 refine RL.s 1 [(9, .slice Ap1 a1.length cp1), (8, .slice A1 t1.length c1)] ?_
 obtain ⟨hz1, H⟩ := ifs H
 refine RL.appendR (T := 22) (e := 5) (S := A1) (S2 := Ap1) 1 1 22 c1 cp1 cs1 (Ty.int .u8) t1 a1 0 (some 10) (by kernel_rfl) (by kernel_rfl) (by kernel_rfl) (by kernel_rfl) (by kernel_rfl) (by decide) (by kernel_rfl) hp1 (Rd.ext hi1 hrp1) hz1 (by omega) (fun A2 c2 nx2 cs2 hp2 => ?_)
 refine RL.sub (K' := [(10, .slice A2 ((t1 ++ a1).length) c2), (9, .slice Ap1 a1.length cp1)]) (L' := []) (X' := [orow 5 1 A2 ((t1 ++ a1).length) c2 cs2]) (by kernel_rfl) (.refl _) (.refl _) ?_
 refine RL.st 1 [(4, .slice A2 ((t1 ++ a1).length) c2)] ?_
 refine OK.re ?_
 obtain rfl := Option.some.inj H
 refine QN.body rfl [] (RFacts.nil _ _ _) (.no) (.slice A2 ((t1 ++ a1).length) c2) (by kernel_rfl) (by kernel_rfl) (by kernel_rfl) ?_ _ (.inr rfl)
 exact fun w' hs' => ⟨_, rfl, I1, A2, c2, cs2, rfl, hs'.got _ (.cons_cons _ .slnil), hp2⟩

end Go.Proofs.YtiomeaoeegikkaaDoor
namespace Go.Proofs.YtiomeaoeegikkaaDoor
open Go Go.Proofs.YtiomeaoeegikkaaDoor.RW
set_option linter.unusedVariables false
set_option maxRecDepth 100000
set_option maxHeartbeats 8000000

/-! ### codec_EncodeEntry: function 35, armillary/codec.EncodeEntry -/
noncomputable def K35_0 : Code := cBody Tryd.f35
noncomputable def O35_14 : List Oper := cOps (cL (cR (cR K35_0)))
def codec_EncodeEntry.f (k : Nat) (a0 : S25) : Option (List Int × Int) := ((codec_validEntry.f a0).bind fun t1 => (if t1 = true then ((codec_AppendVarint.f k [] a0.f0).bind fun t2 => (if a0.f1.size ≤ 9223372036854775807 then ((codec_appendBytes.f k t2 (bytesOf a0.f1)).bind fun t3 => ((codec_appendBytes.f k t3 a0.f2).bind fun t4 => (some (t4, 0)))) else none)) else (some ([], 1))))
def codec_EncodeEntry.Post (I : Imm) (w : World) (r : List Int × Int) (v : Value) (w' : World) : Prop :=
 ∃ (J : Imm) (A0 : Option Addr) (c0 : Nat) (cs0 : List Value), v = .tuple #[.slice A0 r.1.length c0, .int .i64 r.2] ∧ Got w w' I J [orow 5 1 A0 r.1.length c0 cs0] ∧ Reps (Ty.int .u8) J r.1 cs0
noncomputable def a35_14n : List Nat := [0, 1, 3, 0, 8, 24, 63, 127]
theorem a35_14 : ancs O35_14 [] = a35_14n := by kernel_rfl
theorem a35_14o : drawOk O35_14 a35_14n 6 = true := by kernel_rfl
noncomputable def u35d1l (a0 : S25) (t2 : List Int) : List Ld :=
 [⟨2, fun x => .slice ((x 0).1) t2.length ((x 0).2.1), fun x => [orow 5 1 (x 0).1 t2.length (x 0).2.1 (x 0).2.2], fun x J => Reps (Ty.int .u8) J t2 (x 0).2.2 ∧ True, fun x J J' h f => ⟨Reps.ext h f.1, trivial⟩⟩,
  ⟨5, fun x => .slice (some ⟨(x 0).2.1, 0, none⟩) ((bytesOf a0.f1).length) ((x 1).2.1), fun x => [], fun x J => (bytesOf a0.f1).length ≤ (x 1).2.1 ∧ Rd (Ty.int .u8) J (some ⟨(x 0).2.1, 0, none⟩) (bytesOf a0.f1) ∧ True, fun x J J' h f => ⟨f.1, Rd.ext h f.2.1, trivial⟩⟩]
noncomputable def u35d1g  : List (Nat × ((Nat → Wt) → Value)) := []
noncomputable def u35d1q (a0 : S25) (Ap0_2 : Option Addr) (cp0_2 : Nat) (nx0 : Nat) (t1 : Bool) (t2 : List Int) (u : Nat → Wt) : Option (List Value × List (Nat × Value) × List (Nat × Nat)) := qSim Tryd.prog [] [⟨nx0, [i6 a0.f0, .string a0.f1, .slice Ap0_2 a0.f2.length cp0_2], 25⟩] O35_14 ⟨19, []⟩ (Ld.vl (u35d1l a0 t2)) u35d1g u [.no, .l 0, .no, .no, .l 0, .no] 0 (O35_14.take 6) [(7, .bool (!t1)), (1, pt nx0 0)]
noncomputable def u35d1s (a0 : S25) (nx0 : Nat) (t2 : List Int) (u : Nat → Wt) : List Value := [pt nx0 0, i6 a0.f0, .slice ((u 2 0).1) t2.length ((u 2 0).2.1), pt nx0 1, .string a0.f1, .slice (some ⟨(u 5 0).2.1, 0, none⟩) ((bytesOf a0.f1).length) ((u 5 1).2.1)]
noncomputable def u35d1f (a0 : S25) (nx0 : Nat) (t1 : Bool) (t2 : List Int) (i : Nat) (u : Nat → Wt) : List (Nat × Value) := foldPut ⟨19, []⟩ [(7, .bool (!t1)), (1, pt nx0 0)] (O35_14.take i) (((u35d1s a0 nx0 t2) u).take i)
theorem u35d1v (a0 : S25) (Ap0_2 : Option Addr) (cp0_2 : Nat) (nx0 : Nat) (t1 : Bool) (t2 : List Int) (u : Nat → Wt) : (u35d1q a0 Ap0_2 cp0_2 nx0 t1 t2 u).map (fun x => (x.1, x.2.1)) = some ((u35d1s a0 nx0 t2) u, (u35d1f a0 nx0 t1 t2 6) u) := by kernel_rfl
theorem u35d1e (a0 : S25) (Ap0_2 : Option Addr) (cp0_2 : Nat) (nx0 : Nat) (t1 : Bool) (t2 : List Int) (u : Nat → Wt) : (u35d1q a0 Ap0_2 cp0_2 nx0 t1 t2 u).map (fun x => x.2.2.map (·.1)) = (u35d1q a0 Ap0_2 cp0_2 nx0 t1 t2 u).map (fun x => x.2.2.map (·.2)) := by kernel_rfl
theorem codec_EncodeEntry.calls (k : Nat) (I0 : Imm) (a0 : S25) (Ap0_2 : Option Addr) (cp0_2 : Nat) (w : World) (hI : I0.at_ w) (hlp0_2 : a0.f2.length ≤ cp0_2) (hrp0_2 : Rd (Ty.int .u8) I0 Ap0_2 a0.f2) (r : List Int × Int) (h : codec_EncodeEntry.f k a0 = some r) :
  Calls Tryd.prog 35 [.agg #[i6 a0.f0, .string a0.f1, .slice Ap0_2 a0.f2.length cp0_2]].toArray w fun e w' => ∃ v, e = .returned v ∧ codec_EncodeEntry.Post I0 w r v w' := by
 have H : ((codec_validEntry.f a0).bind fun t1 => (if t1 = true then ((codec_AppendVarint.f k [] a0.f0).bind fun t2 => (if a0.f1.size ≤ 9223372036854775807 then ((codec_appendBytes.f k t2 (bytesOf a0.f1)).bind fun t3 => ((codec_appendBytes.f k t3 a0.f2).bind fun t4 => (some (t4, 0)))) else none)) else (some ([], 1)))) = some r := h
 clear h
 refine calls_body Tryd.func35 (by kernel_rfl) 19 (by kernel_rfl) (by kernel_rfl) ⟨w, fun _ => False, I0⟩ I0 [] [(0, .agg #[i6 a0.f0, .string a0.f1, .slice Ap0_2 a0.f2.length cp0_2])] (by kernel_rfl) (Sat.start w _ I0 hI) ?_
 generalize w.heap.size = nx0
 show OK _ K35_0 _ _ _ _ _ _ _ _
 refine OK.sr ?_
 refine RL.spt 3 [(1, pt nx0 0)] (nx0 + 1) [⟨nx0, [i6 a0.f0, .string a0.f1, .slice Ap0_2 a0.f2.length cp0_2], 25⟩] ?_
 refine OK.sq ?_
 refine OK.sr ?_
 refine RL.simK (K' := [(5, .agg #[i6 a0.f0, .string a0.f1, .slice Ap0_2 a0.f2.length cp0_2]), (1, pt nx0 0)]) [] (RFacts.nil _ _ _) 1 [.l 0] (by kernel_rfl) (by kernel_rfl) ?_
 obtain ⟨t1, hA1, H⟩ := bnd H
 refine RL.callP 50 [.agg #[i6 a0.f0, .string a0.f1, .slice Ap0_2 a0.f2.length cp0_2]] (some 6) (fun w => codec_validEntry.Post I0 w t1) (by kernel_rfl) (by kernel_rfl) (fun w hs => codec_validEntry.calls I0 a0 Ap0_2 cp0_2 w hs.im hlp0_2 hrp0_2 t1 hA1) ?_
 rintro w v w' hs ⟨I1, rfl, hg⟩
 have hi1 := hg.le
 refine RL.resume (X' := []) rfl (hs.call hg) ?_
 clear hs hg
 generalize w'.heap.size = nx1
 clear w w'
 refine RL.st 1 [(7, .bool (!t1)), (1, pt nx0 0)] ?_
 refine OK.cd (!t1) (fun hb => ?_) (fun hb => ?_)
 ·have hb : t1 = false := by simpa using hb
  have hc := (Bool.eq_false_iff.1 hb)
  rw [if_neg hc] at H
  clear hb
  refine OK.sr ?_
  refine RL.st 2 [(3, i6 1), (2, .slice none 0 0)] ?_
  refine OK.re ?_
  refine QN.thenR ?_
  obtain rfl := Option.some.inj H
  refine QN.body rfl [] (RFacts.nil _ _ _) (.no) (.tuple #[.slice none 0 0, i6 1]) (by kernel_rfl) (by kernel_rfl) (by kernel_rfl) ?_ _ (.inr rfl)
  exact fun w' hs' => ⟨_, rfl, I1, none, 0, [], rfl, gotNil1 (hs'.got [] (List.nil_sublist _)), rfl⟩
 ·have hb : t1 = true := by simpa using hb
  have hc := hb
  rw [if_pos hc] at H
  clear hb
  refine OK.skt ?_
  refine OK.sq ?_
  obtain ⟨t2, hA2, H⟩ := bnd H
  obtain ⟨hz1, H⟩ := ifs H
  refine OK.drawnC 3 6 O35_14 a35_14n (by kernel_rfl) (by kernel_rfl) (u35d1l a0 t2) u35d1g [] (RI.nil _) [.no, .l 0, .no, .no, .l 0, .no] a35_14 a35_14o (by kernel_rfl) (by kernel_rfl) (u35d1s a0 nx0 t2) (u35d1f a0 nx0 t1 t2 6) (u35d1v a0 Ap0_2 cp0_2 nx0 t1 t2) (u35d1e a0 Ap0_2 cp0_2 nx0 t1 t2) [u35d1f a0 nx0 t1 t2 2, u35d1f a0 nx0 t1 t2 5] (framesOk.cons (fun u => rfl) (framesOk.cons (fun u => rfl) framesOk.nil)) ?_ [] framesOk.nil ?_ ?_
  ·refine LoudsG.cons ?_ (LoudsG.cons ?_ (LoudsG.nil))
   ·intro D u J w hp hJ hs hF
    refine Does.call 52 [.slice none 0 0, i6 a0.f0] (by kernel_rfl) ((codec_AppendVarint.calls k J [] none 0 a0.f0 w hs.im (Nat.le_refl _) (Rd.nil _ _ _) t2 hA2).mono ?_)
    rintro e w' ⟨v, rfl, J2, A0_, c0_, cs0_, rfl, hg, hp0_⟩
    exact ⟨_, rfl, fun _ => (A0_, c0_, cs0_), J2, rfl, hg, hp0_, trivial⟩
   ·intro D u J w hp hJ hs hF
    refine (Does.toBytes (src := 9) (dst := 22) (e := 5) (s := a0.f1) (u := .string) hs.im (by kernel_rfl) (by kernel_rfl) (by kernel_rfl) hz1 (by kernel_rfl)).mono ?_
    rintro v w' ⟨J2, c_, rfl, hg, hl_, hr_⟩
    exact ⟨fun q_ => bif Nat.beq q_ 0 then (none, w.heap.size, []) else (none, c_, []), J2, rfl, hg, hl_, hr_, trivial⟩
  ·refine Givens.nil
  intro u I2 nx2 hi2 hF
  have hf1 := ((hF.1 rfl).1)
  have hf2 := ((hF.2.1 rfl).1)
  have hf3 := ((hF.2.1 rfl).2.1)
  clear hF
  refine RL.norm (K' := [(13, .slice (some ⟨(u 5 0).2.1, 0, none⟩) ((bytesOf a0.f1).length) ((u 5 1).2.1)), (12, .string a0.f1), (11, pt nx0 1), (10, .slice ((u 2 0).1) t2.length ((u 2 0).2.1)), (9, i6 a0.f0), (8, pt nx0 0), (7, .bool (!t1)), (1, pt nx0 0)]) (X' := [orow 5 1 (u 2 0).1 t2.length (u 2 0).2.1 (u 2 0).2.2]) (by kernel_rfl) rfl rfl rfl ?_
  revert hf1 hf2 hf3
  generalize (u 2 0).1 = A1
  generalize (u 2 0).2.1 = c1
  generalize (u 2 0).2.2 = cs1
  generalize (u 5 0).1 = A2
  generalize (u 5 0).2.1 = c2
  generalize (u 5 0).2.2 = cs2
  generalize (u 5 1).1 = A3
  generalize (u 5 1).2.1 = c3
  generalize (u 5 1).2.2 = cs3
  intro hf1 hf2 hf3
  clear u
  refine RL.freeze (e := 5) (sz := 1) (S := A1) (n := t2.length) (cap := c1) 0 (by kernel_rfl) hf1 rfl (fun I3 hi3 hl1 hr1 => ?_)
  skip
  obtain ⟨t3, hA3, H⟩ := bnd H
  refine RL.callP 51 [.slice A1 t2.length c1, .slice (some ⟨c2, 0, none⟩) ((bytesOf a0.f1).length) (c3)] (some 14) (fun w => codec_appendBytes.Post I3 w t3) (by kernel_rfl) (by kernel_rfl) (fun w hs => codec_appendBytes.calls k I3 t2 A1 c1 (bytesOf a0.f1) (some ⟨c2, 0, none⟩) (c3) w hs.im hl1 hr1 hf2 (Rd.ext hi3 hf3) t3 hA3) ?_
  rintro w v w' hs ⟨I4, A4, c4, cs4, rfl, hg, hp1⟩
  have hi4 := hg.le
  refine RL.resume (X' := [orow 5 1 A4 t3.length c4 cs4]) rfl (hs.call hg) ?_
  clear hs hg
  generalize w'.heap.size = nx3
  clear w w'
  refine RL.st 1 [(4, .slice A4 t3.length c4), (1, pt nx0 0)] ?_
  refine OK.sr ?_
  refine RL.simK (K' := [(17, .slice Ap0_2 a0.f2.length cp0_2), (15, .slice A4 t3.length c4)]) [] (RFacts.nil _ _ _) 3 [.no, .no, .l 0] (by kernel_rfl) (by kernel_rfl) ?_
  refine RL.freeze (e := 5) (sz := 1) (S := A4) (n := t3.length) (cap := c4) 0 (by kernel_rfl) hp1 rfl (fun I5 hi5 hl2 hr2 => ?_)
  skip
  obtain ⟨t4, hA4, H⟩ := bnd H
  refine RL.callP 51 [.slice A4 t3.length c4, .slice Ap0_2 a0.f2.length cp0_2] (some 18) (fun w => codec_appendBytes.Post I5 w t4) (by kernel_rfl) (by kernel_rfl) (fun w hs => codec_appendBytes.calls k I5 t3 A4 c4 a0.f2 Ap0_2 cp0_2 w hs.im hl2 hr2 hlp0_2 (Rd.ext (Imm.le_trans (Imm.le_trans (Imm.le_trans (Imm.le_trans hi1 hi2) hi3) hi4) hi5) hrp0_2) t4 hA4) ?_
  rintro w v w' hs ⟨I6, A5, c5, cs5, rfl, hg, hp2⟩
  have hi6 := hg.le
  refine RL.resume (X' := [orow 5 1 A5 t4.length c5 cs5]) rfl (hs.call hg) ?_
  clear hs hg
  generalize w'.heap.size = nx4
  clear w w'
  refine RL.st 2 [(3, i6 0), (2, .slice A5 t4.length c5)] ?_
  refine OK.re ?_
  obtain rfl := Option.some.inj H
  refine QN.body rfl [] (RFacts.nil _ _ _) (.no) (.tuple #[.slice A5 t4.length c5, i6 0]) (by kernel_rfl) (by kernel_rfl) (by kernel_rfl) ?_ _ (.inr rfl)
  exact fun w' hs' => ⟨_, rfl, I6, A5, c5, cs5, rfl, hs'.got _ (.cons_cons _ .slnil), hp2⟩

end Go.Proofs.YtiomeaoeegikkaaDoor
namespace Go.Proofs.YtiomeaoeegikkaaDoor
open Go Go.Proofs.YtiomeaoeegikkaaDoor.RW
set_option linter.unusedVariables false
set_option maxRecDepth 100000
set_option maxHeartbeats 8000000

/-! ### ledger_putWords0: function 37, armillary/ledger.putWord -/
noncomputable def K37s0_0 : Code := cBody Tryd.f37
def ledger_putWords0.f (a1 : Int) : Option (List Int) := (if (([] : List Int).length + [W .u8 (a1), W .u8 (Int.fdiv a1 256), W .u8 (Int.fdiv a1 65536), W .u8 (Int.fdiv a1 16777216)].length) * 1 ≤ 140737488355328 then (some (([] : List Int) ++ [W .u8 (a1), W .u8 (Int.fdiv a1 256), W .u8 (Int.fdiv a1 65536), W .u8 (Int.fdiv a1 16777216)])) else none)
def ledger_putWords0.Post (S : Nat → Prop) (a1 : Int) (I : Imm) (w : World) (r : List Int) (v : Value) (w' : World) : Prop :=
 ∃ (J : Imm) (Ar0 : Option Addr) (cr0 : Nat) (csr0 : List Value), v = .slice Ar0 r.length cr0 ∧ Sat ⟨w, S, I⟩ J w'.heap.size [] [orow 5 1 Ar0 r.length cr0 csr0] w' ∧ Reps (Ty.int .u8) J r csr0
theorem ledger_putWords0.calls (I0 : Imm) (a1 : Int) (w : World) (hs : Sat ⟨w, SM [] [], I0⟩ I0 w.heap.size [] [] w)  (r : List Int) (h : ledger_putWords0.f a1 = some r) :
  Calls Tryd.prog 37 [.slice none 0 0, .int .u32 a1].toArray w fun e w' => ∃ v, e = .returned v ∧ ledger_putWords0.Post (SM [] []) a1 I0 w r v w' := by
 have H : (if (([] : List Int).length + [W .u8 (a1), W .u8 (Int.fdiv a1 256), W .u8 (Int.fdiv a1 65536), W .u8 (Int.fdiv a1 16777216)].length) * 1 ≤ 140737488355328 then (some (([] : List Int) ++ [W .u8 (a1), W .u8 (Int.fdiv a1 256), W .u8 (Int.fdiv a1 65536), W .u8 (Int.fdiv a1 16777216)])) else none) = some r := h
 clear h
 refine calls_bodyL Tryd.func37 (by kernel_rfl) 19 (by kernel_rfl) (by kernel_rfl) ⟨w, SM [] [], I0⟩ I0 [] [] [(0, .slice none 0 0), (1, .int .u32 a1)] (by kernel_rfl) hs ?_
 generalize w.heap.size = nx0
 show OK _ K37s0_0 _ _ _ _ _ _ _ _
 refine OK.sr ?_
 refine RL.st 1 [(0, .slice none 0 0), (1, .int .u32 a1)] ?_
 refine OK.sr ?_
 refine RL.sp 13 [(17, .slice (some ⟨nx0, 0, none⟩) 4 4), (5, .slice none 0 0)] (nx0 + 1) [⟨nx0, [.int .u8 (W .u8 (a1)), .int .u8 (W .u8 (Int.fdiv a1 256)), .int .u8 (W .u8 (Int.fdiv a1 65536)), .int .u8 (W .u8 (Int.fdiv a1 16777216))], 5⟩] ?_
 refine RL.nilRow 5 1 ?_
 have hnil : Reps (Ty.int .u8) I0 ([] : List Int) [] := rfl
 obtain ⟨hz1, H⟩ := ifs H
 refine RL.appendB (T := 22) (e := 5) (S := none) 1 1 22 0 0 4 nx0 5 [] [.int .u8 (W .u8 (a1)), .int .u8 (W .u8 (Int.fdiv a1 256)), .int .u8 (W .u8 (Int.fdiv a1 65536)), .int .u8 (W .u8 (Int.fdiv a1 16777216))] (Ty.int .u8) ([] : List Int) [W .u8 (a1), W .u8 (Int.fdiv a1 256), W .u8 (Int.fdiv a1 65536), W .u8 (Int.fdiv a1 16777216)] 0 (some 18) (by kernel_rfl) (by kernel_rfl) (by kernel_rfl) (by kernel_rfl) (by kernel_rfl) (by decide) (by kernel_rfl) hnil (by kernel_rfl) ⟨_, _, rfl, rfl, ⟨_, _, rfl, rfl, ⟨_, _, rfl, rfl, ⟨_, _, rfl, rfl, rfl⟩⟩⟩⟩ hz1 (by omega) (fun A1 c1 nx1 cs1 hp1 => ?_)
 refine RL.sub (K' := [(18, .slice A1 ((([] : List Int) ++ [W .u8 (a1), W .u8 (Int.fdiv a1 256), W .u8 (Int.fdiv a1 65536), W .u8 (Int.fdiv a1 16777216)]).length) c1), (17, .slice (some ⟨nx0, 0, none⟩) 4 4), (5, .slice none 0 0)]) (L' := [⟨nx0, [.int .u8 (W .u8 (a1)), .int .u8 (W .u8 (Int.fdiv a1 256)), .int .u8 (W .u8 (Int.fdiv a1 65536)), .int .u8 (W .u8 (Int.fdiv a1 16777216))], 5⟩]) (X' := [orow 5 1 A1 ((([] : List Int) ++ [W .u8 (a1), W .u8 (Int.fdiv a1 256), W .u8 (Int.fdiv a1 65536), W .u8 (Int.fdiv a1 16777216)]).length) c1 cs1]) (by kernel_rfl) (.refl _) (.refl _) ?_
 refine RL.st 1 [(4, .slice A1 ((([] : List Int) ++ [W .u8 (a1), W .u8 (Int.fdiv a1 256), W .u8 (Int.fdiv a1 65536), W .u8 (Int.fdiv a1 16777216)]).length) c1)] ?_
 refine OK.re ?_
 obtain rfl := Option.some.inj H
 refine QN.body rfl [] (RFacts.nil _ _ _) (.no) (.slice A1 ((([] : List Int) ++ [W .u8 (a1), W .u8 (Int.fdiv a1 256), W .u8 (Int.fdiv a1 65536), W .u8 (Int.fdiv a1 16777216)]).length) c1) (by kernel_rfl) (by kernel_rfl) (by kernel_rfl) ?_ _ (.inr rfl)
 exact fun w' hs' => ⟨_, rfl, I0, A1, c1, cs1, rfl, ((hs'.fin.selB [] (by kernel_rfl)).sel [0] (by kernel_rfl)), hp1⟩

end Go.Proofs.YtiomeaoeegikkaaDoor
namespace Go.Proofs.YtiomeaoeegikkaaDoor
open Go Go.Proofs.YtiomeaoeegikkaaDoor.RW
set_option linter.unusedVariables false
set_option maxRecDepth 100000
set_option maxHeartbeats 8000000

/-! ### ledger_putWords1: function 37, armillary/ledger.putWord -/
noncomputable def K37s1_0 : Code := cBody Tryd.f37
def ledger_putWords1.f (a0 : List Int) (a1 : Int) : Option (List Int) := (if (a0.length + [W .u8 (a1), W .u8 (Int.fdiv a1 256), W .u8 (Int.fdiv a1 65536), W .u8 (Int.fdiv a1 16777216)].length) * 1 ≤ 140737488355328 then (some (a0 ++ [W .u8 (a1), W .u8 (Int.fdiv a1 256), W .u8 (Int.fdiv a1 65536), W .u8 (Int.fdiv a1 16777216)])) else none)
def ledger_putWords1.Post (S : Nat → Prop) (a0 : List Int) (Aa0 : Option Addr) (ca0 : Nat) (csa0 : List Value) (a1 : Int) (I : Imm) (w : World) (r : List Int) (v : Value) (w' : World) : Prop :=
 ∃ (J : Imm) (Ar0 : Option Addr) (cr0 : Nat) (csr0 : List Value), v = .slice Ar0 r.length cr0 ∧ Sat ⟨w, S, I⟩ J w'.heap.size [] [orow 5 1 Ar0 r.length cr0 csr0] w' ∧ Reps (Ty.int .u8) J r csr0
theorem ledger_putWords1.calls (I0 : Imm) (a0 : List Int) (Aa0 : Option Addr) (ca0 : Nat) (csa0 : List Value) (a1 : Int) (w : World) (hs : Sat ⟨w, SM [] [orow 5 1 Aa0 a0.length ca0 csa0], I0⟩ I0 w.heap.size [] [orow 5 1 Aa0 a0.length ca0 csa0] w) (hpa0 : Reps (Ty.int .u8) I0 a0 csa0) (r : List Int) (h : ledger_putWords1.f a0 a1 = some r) :
  Calls Tryd.prog 37 [.slice Aa0 a0.length ca0, .int .u32 a1].toArray w fun e w' => ∃ v, e = .returned v ∧ ledger_putWords1.Post (SM [] [orow 5 1 Aa0 a0.length ca0 csa0]) a0 Aa0 ca0 csa0 a1 I0 w r v w' := by
 have H : (if (a0.length + [W .u8 (a1), W .u8 (Int.fdiv a1 256), W .u8 (Int.fdiv a1 65536), W .u8 (Int.fdiv a1 16777216)].length) * 1 ≤ 140737488355328 then (some (a0 ++ [W .u8 (a1), W .u8 (Int.fdiv a1 256), W .u8 (Int.fdiv a1 65536), W .u8 (Int.fdiv a1 16777216)])) else none) = some r := h
 clear h
 refine calls_bodyL Tryd.func37 (by kernel_rfl) 19 (by kernel_rfl) (by kernel_rfl) ⟨w, SM [] [orow 5 1 Aa0 a0.length ca0 csa0], I0⟩ I0 [] [orow 5 1 Aa0 a0.length ca0 csa0] [(0, .slice Aa0 a0.length ca0), (1, .int .u32 a1)] (by kernel_rfl) hs ?_
 generalize w.heap.size = nx0
 show OK _ K37s1_0 _ _ _ _ _ _ _ _
 refine OK.sr ?_
 refine RL.st 1 [(0, .slice Aa0 a0.length ca0), (1, .int .u32 a1)] ?_
 refine OK.sr ?_
 refine RL.sp 13 [(17, .slice (some ⟨nx0, 0, none⟩) 4 4), (5, .slice Aa0 a0.length ca0)] (nx0 + 1) [⟨nx0, [.int .u8 (W .u8 (a1)), .int .u8 (W .u8 (Int.fdiv a1 256)), .int .u8 (W .u8 (Int.fdiv a1 65536)), .int .u8 (W .u8 (Int.fdiv a1 16777216))], 5⟩] ?_
 obtain ⟨hz1, H⟩ := ifs H
 refine RL.appendB (T := 22) (e := 5) (S := Aa0) 1 1 22 ca0 0 4 nx0 5 csa0 [.int .u8 (W .u8 (a1)), .int .u8 (W .u8 (Int.fdiv a1 256)), .int .u8 (W .u8 (Int.fdiv a1 65536)), .int .u8 (W .u8 (Int.fdiv a1 16777216))] (Ty.int .u8) a0 [W .u8 (a1), W .u8 (Int.fdiv a1 256), W .u8 (Int.fdiv a1 65536), W .u8 (Int.fdiv a1 16777216)] 0 (some 18) (by kernel_rfl) (by kernel_rfl) (by kernel_rfl) (by kernel_rfl) (by kernel_rfl) (by decide) (by kernel_rfl) hpa0 (by kernel_rfl) ⟨_, _, rfl, rfl, ⟨_, _, rfl, rfl, ⟨_, _, rfl, rfl, ⟨_, _, rfl, rfl, rfl⟩⟩⟩⟩ hz1 (by omega) (fun A1 c1 nx1 cs1 hp1 => ?_)
 refine RL.sub (K' := [(18, .slice A1 ((a0 ++ [W .u8 (a1), W .u8 (Int.fdiv a1 256), W .u8 (Int.fdiv a1 65536), W .u8 (Int.fdiv a1 16777216)]).length) c1), (17, .slice (some ⟨nx0, 0, none⟩) 4 4)]) (L' := [⟨nx0, [.int .u8 (W .u8 (a1)), .int .u8 (W .u8 (Int.fdiv a1 256)), .int .u8 (W .u8 (Int.fdiv a1 65536)), .int .u8 (W .u8 (Int.fdiv a1 16777216))], 5⟩]) (X' := [orow 5 1 A1 ((a0 ++ [W .u8 (a1), W .u8 (Int.fdiv a1 256), W .u8 (Int.fdiv a1 65536), W .u8 (Int.fdiv a1 16777216)]).length) c1 cs1]) (by kernel_rfl) (.refl _) (.refl _) ?_
 refine RL.st 1 [(4, .slice A1 ((a0 ++ [W .u8 (a1), W .u8 (Int.fdiv a1 256), W .u8 (Int.fdiv a1 65536), W .u8 (Int.fdiv a1 16777216)]).length) c1)] ?_
 refine OK.re ?_
 obtain rfl := Option.some.inj H
 refine QN.body rfl [] (RFacts.nil _ _ _) (.no) (.slice A1 ((a0 ++ [W .u8 (a1), W .u8 (Int.fdiv a1 256), W .u8 (Int.fdiv a1 65536), W .u8 (Int.fdiv a1 16777216)]).length) c1) (by kernel_rfl) (by kernel_rfl) (by kernel_rfl) ?_ _ (.inr rfl)
 exact fun w' hs' => ⟨_, rfl, I0, A1, c1, cs1, rfl, ((hs'.fin.selB [] (by kernel_rfl)).sel [0] (by kernel_rfl)), hp1⟩

end Go.Proofs.YtiomeaoeegikkaaDoor
namespace Go.Proofs.YtiomeaoeegikkaaDoor
open Go Go.Proofs.YtiomeaoeegikkaaDoor.RW
set_option linter.unusedVariables false
set_option maxRecDepth 100000
set_option maxHeartbeats 8000000

/-! ### ledger_record: function 28, armillary/ledger.record -/
noncomputable def K28_0 : Code := cBody Tryd.f28
def ledger_record.f (k : Nat) (a0 : S25) : Option (List Int × Int) := ((codec_EncodeEntry.f k a0).bind fun t1 => (if t1.2 ≠ 0 then (some ([], t1.2)) else ((ledger_putWords0.f (W .u32 ((t1.1.length : Int)))).bind fun t2 => (if (t2.length + t1.1.length) * 1 ≤ 140737488355328 then ((codec_Checksum.f k (t2 ++ t1.1)).bind fun t3 => ((ledger_putWords1.f (t2 ++ t1.1) t3).bind fun t4 => (some (t4, 0)))) else none))))
def ledger_record.Post (I : Imm) (w : World) (r : List Int × Int) (v : Value) (w' : World) : Prop :=
 ∃ (J : Imm) (A0 : Option Addr) (c0 : Nat) (cs0 : List Value), v = .tuple #[.slice A0 r.1.length c0, .int .i64 r.2] ∧ Got w w' I J [orow 5 1 A0 r.1.length c0 cs0] ∧ Reps (Ty.int .u8) J r.1 cs0
theorem ledger_record.calls (k : Nat) (I0 : Imm) (a0 : S25) (Ap0_2 : Option Addr) (cp0_2 : Nat) (w : World) (hI : I0.at_ w) (hlp0_2 : a0.f2.length ≤ cp0_2) (hrp0_2 : Rd (Ty.int .u8) I0 Ap0_2 a0.f2) (r : List Int × Int) (h : ledger_record.f k a0 = some r) :
  Calls Tryd.prog 28 [.agg #[i6 a0.f0, .string a0.f1, .slice Ap0_2 a0.f2.length cp0_2]].toArray w fun e w' => ∃ v, e = .returned v ∧ ledger_record.Post I0 w r v w' := by
 have H : ((codec_EncodeEntry.f k a0).bind fun t1 => (if t1.2 ≠ 0 then (some ([], t1.2)) else ((ledger_putWords0.f (W .u32 ((t1.1.length : Int)))).bind fun t2 => (if (t2.length + t1.1.length) * 1 ≤ 140737488355328 then ((codec_Checksum.f k (t2 ++ t1.1)).bind fun t3 => ((ledger_putWords1.f (t2 ++ t1.1) t3).bind fun t4 => (some (t4, 0)))) else none)))) = some r := h
 clear h
 refine calls_body Tryd.func28 (by kernel_rfl) 26 (by kernel_rfl) (by kernel_rfl) ⟨w, fun _ => False, I0⟩ I0 [] [(0, .agg #[i6 a0.f0, .string a0.f1, .slice Ap0_2 a0.f2.length cp0_2])] (by kernel_rfl) (Sat.start w _ I0 hI) ?_
 generalize w.heap.size = nx0
 show OK _ K28_0 _ _ _ _ _ _ _ _
 refine OK.sr ?_
 refine RL.spt 3 [(1, pt nx0 0)] (nx0 + 1) [⟨nx0, [i6 a0.f0, .string a0.f1, .slice Ap0_2 a0.f2.length cp0_2], 25⟩] ?_
 refine OK.sr ?_
 refine RL.simK (K' := [(8, .agg #[i6 a0.f0, .string a0.f1, .slice Ap0_2 a0.f2.length cp0_2])]) [] (RFacts.nil _ _ _) 1 [.l 0] (by kernel_rfl) (by kernel_rfl) ?_
 obtain ⟨t1, hA1, H⟩ := bnd H
 refine RL.callP 35 [.agg #[i6 a0.f0, .string a0.f1, .slice Ap0_2 a0.f2.length cp0_2]] (some 9) (fun w => codec_EncodeEntry.Post I0 w t1) (by kernel_rfl) (by kernel_rfl) (fun w hs => codec_EncodeEntry.calls k I0 a0 Ap0_2 cp0_2 w hs.im hlp0_2 hrp0_2 t1 hA1) ?_
 rintro w v w' hs ⟨I1, A1, c1, cs1, rfl, hg, hp1⟩
 have hi1 := hg.le
 refine RL.resume (X' := [orow 5 1 A1 t1.1.length c1 cs1]) rfl (hs.call hg) ?_
 clear hs hg
 generalize w'.heap.size = nx1
 clear w w'
 refine RL.st 5 [(5, i6 t1.2), (4, .slice A1 t1.1.length c1)] ?_
 refine OK.sq ?_
 refine OK.sr ?_
 refine RL.st 2 [(13, .bool (t1.2 != 0)), (5, i6 t1.2), (4, .slice A1 t1.1.length c1)] ?_
 refine OK.cd (t1.2 != 0) (fun hb => ?_) (fun hb => ?_)
 ·skip
  have hc := (bne_iff_ne.1 hb)
  rw [if_pos hc] at H
  clear hb
  refine OK.sr ?_
  refine RL.st 3 [(3, i6 t1.2), (2, .slice none 0 0)] ?_
  refine OK.re ?_
  refine QN.thenR ?_
  obtain rfl := Option.some.inj H
  refine QN.body rfl [] (RFacts.nil _ _ _) (.no) (.tuple #[.slice none 0 0, i6 t1.2]) (by kernel_rfl) (by kernel_rfl) (by kernel_rfl) ?_ _ (.inr rfl)
  exact fun w' hs' => ⟨_, rfl, I1, none, 0, [], rfl, gotNil1 (hs'.got [] (List.nil_sublist _)), rfl⟩
 ·skip
  have hc := (not_not_intro (bne_eq_false_iff_eq.1 hb))
  rw [if_neg hc] at H
  clear hb
  refine OK.skt ?_
  refine OK.sr ?_
  refine RL.s 3 [(17, .int .u32 (W .u32 ((t1.1.length : Int)))), (4, .slice A1 t1.1.length c1)] ?_
  obtain ⟨t2, hA2, H⟩ := bnd H
  refine RL.callM (L1 := []) (L2 := [⟨nx0, [i6 a0.f0, .string a0.f1, .slice Ap0_2 a0.f2.length cp0_2], 25⟩]) (X1 := []) (X2 := [orow 5 1 A1 t1.1.length c1 cs1]) rfl rfl 37 [.slice none 0 0, .int .u32 (W .u32 ((t1.1.length : Int)))] (some 18) (fun w => ledger_putWords0.Post (SM [] []) (W .u32 ((t1.1.length : Int))) I1 w t2) (by kernel_rfl) (by kernel_rfl) (fun w hs => ledger_putWords0.calls I1 (W .u32 ((t1.1.length : Int))) w hs  t2 hA2) ?_
  rintro w v w' hs ⟨I2, A2, c2, cs2, rfl, hg, hp2⟩
  have hi2 : Imm.le I1 I2 := hg.le
  refine RL.resume (L' := [⟨nx0, [i6 a0.f0, .string a0.f1, .slice Ap0_2 a0.f2.length cp0_2], 25⟩]) (X' := [orow 5 1 A2 t2.length c2 cs2, orow 5 1 A1 t1.1.length c1 cs1]) rfl (hs.outof hg) ?_
  clear hs hg
  generalize w'.heap.size = nx2
  clear w w'
  refine RL.st 1 [(6, .slice A2 t2.length c2), (4, .slice A1 t1.1.length c1)] ?_
  refine OK.sr ?_
  refine RL.s 2 [(20, .slice A1 t1.1.length c1), (19, .slice A2 t2.length c2), (6, .slice A2 t2.length c2)] ?_
  refine RL.freeze (e := 5) (sz := 1) (S := A1) (n := t1.1.length) (cap := c1) 1 (by kernel_rfl) (Reps.ext hi2 hp1) rfl (fun I3 hi3 hl1 hr1 => ?_)
  skip
  obtain ⟨hz1, H⟩ := ifs H
  refine RL.appendR (T := 22) (e := 5) (S := A2) (S2 := A1) 1 1 22 c2 c1 cs2 (Ty.int .u8) t2 t1.1 0 (some 21) (by kernel_rfl) (by kernel_rfl) (by kernel_rfl) (by kernel_rfl) (by kernel_rfl) (by decide) (by kernel_rfl) (Reps.ext hi3 hp2) hr1 hz1 (by omega) (fun A3 c3 nx3 cs3 hp3 => ?_)
  refine RL.sub (K' := [(21, .slice A3 ((t2 ++ t1.1).length) c3), (20, .slice A1 t1.1.length c1)]) (L' := [⟨nx0, [i6 a0.f0, .string a0.f1, .slice Ap0_2 a0.f2.length cp0_2], 25⟩]) (X' := [orow 5 1 A3 ((t2 ++ t1.1).length) c3 cs3]) (by kernel_rfl) (.refl _) (.refl _) ?_
  refine RL.st 1 [(6, .slice A3 ((t2 ++ t1.1).length) c3)] ?_
  refine OK.sr ?_
  refine RL.s 2 [(23, .slice A3 ((t2 ++ t1.1).length) c3), (22, .slice A3 ((t2 ++ t1.1).length) c3)] ?_
  obtain ⟨t3, hA3, H⟩ := bnd H
  refine RL.callP 36 [.slice A3 ((t2 ++ t1.1).length) c3] (some 24) (fun w v w' => ∃ I', Imm.le I3 I' ∧ codec_Checksum.Post I' w t3 v w') (by kernel_rfl) (by kernel_rfl) (fun w hs => ?_) ?_
  ·skip
   obtain ⟨JL1, hj1, hn1, hw1, hs⟩ := Sat.freeze (e := 5) (sz := 1) (S := A3) (n := (t2 ++ t1.1).length) (cap := c3) (m := 0) hs (by kernel_rfl) hp3 rfl
   exact (codec_Checksum.calls k JL1 (t2 ++ t1.1) A3 c3 _ hs.im hn1 hw1 t3 hA3).mono (fun e w' ⟨v, hv, hp⟩ => ⟨v, hv, JL1, hj1, hp⟩)
  rintro w v w' hs ⟨I', hle, J, rfl, hg⟩
  refine RL.resume (X' := [orow 5 1 A3 ((t2 ++ t1.1).length) c3 cs3]) rfl (hs.call (hg.back hle)) ?_
  clear hs hg hle I' J
  generalize w'.heap.size = nx4
  clear w w'
  obtain ⟨t4, hA4, H⟩ := bnd H
  refine RL.callM (L1 := []) (L2 := [⟨nx0, [i6 a0.f0, .string a0.f1, .slice Ap0_2 a0.f2.length cp0_2], 25⟩]) (X1 := [orow 5 1 A3 ((t2 ++ t1.1).length) c3 cs3]) (X2 := []) rfl rfl 37 [.slice A3 ((t2 ++ t1.1).length) c3, .int .u32 t3] (some 25) (fun w => ledger_putWords1.Post (SM [] [orow 5 1 A3 ((t2 ++ t1.1).length) c3 cs3]) (t2 ++ t1.1) A3 c3 cs3 t3 I3 w t4) (by kernel_rfl) (by kernel_rfl) (fun w hs => ledger_putWords1.calls I3 (t2 ++ t1.1) A3 c3 cs3 t3 w hs hp3 t4 hA4) ?_
  rintro w v w' hs ⟨I4, A4, c4, cs4, rfl, hg, hp4⟩
  have hi4 : Imm.le I3 I4 := hg.le
  refine RL.resume (L' := [⟨nx0, [i6 a0.f0, .string a0.f1, .slice Ap0_2 a0.f2.length cp0_2], 25⟩]) (X' := [orow 5 1 A4 t4.length c4 cs4]) rfl (hs.outof hg) ?_
  clear hs hg
  generalize w'.heap.size = nx5
  clear w w'
  refine RL.sub (K' := [(25, .slice A4 t4.length c4), (24, .int .u32 t3)]) (L' := [⟨nx0, [i6 a0.f0, .string a0.f1, .slice Ap0_2 a0.f2.length cp0_2], 25⟩]) (X' := [orow 5 1 A4 t4.length c4 cs4]) (by kernel_rfl) (.refl _) (.refl _) ?_
  refine RL.st 2 [(3, i6 0), (2, .slice A4 t4.length c4)] ?_
  refine OK.re ?_
  obtain rfl := Option.some.inj H
  refine QN.body rfl [] (RFacts.nil _ _ _) (.no) (.tuple #[.slice A4 t4.length c4, i6 0]) (by kernel_rfl) (by kernel_rfl) (by kernel_rfl) ?_ _ (.inr rfl)
  exact fun w' hs' => ⟨_, rfl, I4, A4, c4, cs4, rfl, hs'.got _ (.cons_cons _ .slnil), hp4⟩

end Go.Proofs.YtiomeaoeegikkaaDoor
namespace Go.Proofs.YtiomeaoeegikkaaDoor
open Go Go.Proofs.YtiomeaoeegikkaaDoor.RW
set_option linter.unusedVariables false
set_option maxRecDepth 100000
set_option maxHeartbeats 8000000

/-! ### slices_Grow_byte_bytes0: function 41, slices.Grow[[]byte,byte] -/
noncomputable def K41s0_0 : Code := cBody Tryd.f41
def slices_Grow_byte_bytes0.k1  (x1 : List Int) : Option (List Int) := (some x1)
def slices_Grow_byte_bytes0.f (a1 : Int) : Option (List Int) := (if a1 < 0 then none else ((if (W .i64 (a1 - 0)) > 0 then (if 0 < (W .i64 (a1 - 0)) then (if (W .i64 (a1 - 0)).toNat * 1 ≤ 140737488355328 then (if (0 : Int) ≤ (0 : Int) then (if (0 : Int) ≤ ((List.replicate (W .i64 (a1 - 0)).toNat (0 : Int)).length : Int) then (some ((List.replicate (W .i64 (a1 - 0)).toNat (0 : Int)).take (0 : Int).toNat)) else none) else none) else none) else none) else (some ([] : List Int))).bind (slices_Grow_byte_bytes0.k1)))
def slices_Grow_byte_bytes0.Post (S : Nat → Prop) (a1 : Int) (I : Imm) (w : World) (r : List Int) (v : Value) (w' : World) : Prop :=
 ∃ (J : Imm) (Ar0 : Option Addr) (cr0 : Nat) (csr0 : List Value), v = .slice Ar0 r.length cr0 ∧ Sat ⟨w, S, I⟩ J w'.heap.size [] [orow 5 1 Ar0 r.length cr0 csr0] w' ∧ Reps (Ty.int .u8) J r csr0
theorem slices_Grow_byte_bytes0.calls (I0 : Imm) (a1 : Int) (w : World) (hs : Sat ⟨w, SM [] [], I0⟩ I0 w.heap.size [] [] w)  (r : List Int) (h : slices_Grow_byte_bytes0.f a1 = some r) :
  Calls Tryd.prog 41 [.slice none 0 0, i6 a1].toArray w fun e w' => ∃ v, e = .returned v ∧ slices_Grow_byte_bytes0.Post (SM [] []) a1 I0 w r v w' := by
 have H : (if a1 < 0 then none else ((if (W .i64 (a1 - 0)) > 0 then (if 0 < (W .i64 (a1 - 0)) then (if (W .i64 (a1 - 0)).toNat * 1 ≤ 140737488355328 then (if (0 : Int) ≤ (0 : Int) then (if (0 : Int) ≤ ((List.replicate (W .i64 (a1 - 0)).toNat (0 : Int)).length : Int) then (some ((List.replicate (W .i64 (a1 - 0)).toNat (0 : Int)).take (0 : Int).toNat)) else none) else none) else none) else none) else (some ([] : List Int))).bind (slices_Grow_byte_bytes0.k1))) = some r := h
 clear h
 refine calls_bodyL Tryd.func41 (by kernel_rfl) 27 (by kernel_rfl) (by kernel_rfl) ⟨w, SM [] [], I0⟩ I0 [] [] [(0, .slice none 0 0), (1, i6 a1)] (by kernel_rfl) hs ?_
 generalize w.heap.size = nx0
 show OK _ K41s0_0 _ _ _ _ _ _ _ _
 refine OK.sr ?_
 refine RL.st 1 [(0, .slice none 0 0), (1, i6 a1)] ?_
 refine OK.sq ?_
 refine OK.sr ?_
 refine RL.st 2 [(6, .bool (decide (a1 < 0))), (0, .slice none 0 0), (1, i6 a1)] ?_
 refine OK.cd (decide (a1 < 0)) (fun hb => ?_) (fun hb => ?_)
 ·skip
  have hc := (of_decide_eq_true hb)
  rw [if_pos hc] at H
  clear hb
  refine OK.rg ?_
  cases H
 ·skip
  have hc := (of_decide_eq_false hb)
  rw [if_neg hc] at H
  clear hb
  refine OK.skt ?_
  refine OK.sq ?_
  refine OK.sr ?_
  refine RL.st 8 [(1, i6 (W .i64 (a1 - 0))), (0, .slice none 0 0)] ?_
  refine OK.sr ?_
  refine RL.st 2 [(16, .bool (decide ((W .i64 (a1 - 0)) > 0))), (1, i6 (W .i64 (a1 - 0))), (0, .slice none 0 0)] ?_
  refine OK.join (fun K' I' _ L' X' => ∃ (x1 : List Int) (A1 : Option Addr) (c1 : Nat) (cs1 : List Value), K' = [(0, .slice A1 x1.length c1)] ∧ L' = [] ∧ X' = [orow 5 1 A1 x1.length c1 cs1] ∧ Imm.le I0 I' ∧ Reps (Ty.int .u8) I' x1 cs1 ∧ slices_Grow_byte_bytes0.k1 x1 = some r) ?_ ?_
  ·rintro _ I1 nx1 _ _ ⟨x1, A1, c1, cs1, rfl, rfl, rfl, hi1, hp1, H⟩
   rw [slices_Grow_byte_bytes0.k1] at H
   refine QN.then_ ?_
   refine OK.sr ?_
   refine RL.st 2 [(4, .slice A1 x1.length c1)] ?_
   refine OK.re ?_
   obtain rfl := Option.some.inj H
   refine QN.body rfl [] (RFacts.nil _ _ _) (.no) (.slice A1 x1.length c1) (by kernel_rfl) (by kernel_rfl) (by kernel_rfl) ?_ _ (.inr rfl)
   exact fun w' hs' => ⟨_, rfl, I1, A1, c1, cs1, rfl, ((hs'.fin.selB [] (by kernel_rfl)).sel [0] (by kernel_rfl)), hp1⟩
  ·intro Q_1 hJ1 hQ1
   obtain ⟨y1, H, HK1⟩ := bnd H
   refine OK.cd (decide ((W .i64 (a1 - 0)) > 0)) (fun hb => ?_) (fun hb => ?_)
   ·skip
    have hc := (of_decide_eq_true hb)
    rw [if_pos hc] at H
    clear hb
    refine OK.rg ?_
    refine RL.s 5 [(21, i6 (W .i64 (a1 - 0))), (20, .slice none 0 0), (0, .slice none 0 0)] ?_
    obtain ⟨hm1, H⟩ := ifs H
    obtain ⟨hm2, H⟩ := ifs H
    refine RL.appendZ (T := 22) (Tn := 3) (e := 5) .i64 .i64 (W .i64 (a1 - 0)) 22 (Ty.int .u8) (0) (.int .u8 0) 1 (some 22) (by kernel_rfl) (by kernel_rfl) (by kernel_rfl) (by kernel_rfl) (by kernel_rfl) (by kernel_rfl) rfl hm1 hm2 (by omega) (fun c2 nx2 hp2 => ?_)
    refine RL.sub (K' := [(22, .slice (some ⟨nx0, 0, none⟩) ((List.replicate (W .i64 (a1 - 0)).toNat (0 : Int)).length) c2), (21, i6 (W .i64 (a1 - 0))), (20, .slice none 0 0), (0, .slice none 0 0)]) (L' := []) (X' := [orow 5 1 (some ⟨nx0, 0, none⟩) ((List.replicate (W .i64 (a1 - 0)).toNat (0 : Int)).length) c2 (List.replicate (W .i64 (a1 - 0)).toNat (.int .u8 0))]) (by kernel_rfl) (.refl _) (.refl _) ?_
    refine RL.s 2 [(24, i6 0), (22, .slice (some ⟨nx0, 0, none⟩) ((List.replicate (W .i64 (a1 - 0)).toNat (0 : Int)).length) c2), (0, .slice none 0 0)] ?_
    obtain ⟨hs1_1, H⟩ := ifs H
    obtain ⟨hs2_1, H⟩ := ifs H
    refine RL.trim (T := 22) (e := 5) (S := (some ⟨nx0, 0, none⟩)) (cap := c2) (cs := (List.replicate (W .i64 (a1 - 0)).toNat (.int .u8 0))) (hi := 0) 1 0 (Ty.int .u8) (List.replicate (W .i64 (a1 - 0)).toNat (0 : Int)) .i64 (some 25) (by kernel_rfl) (by kernel_rfl) (by kernel_rfl) (by kernel_rfl) (by kernel_rfl) (by kernel_rfl) hp2 hs1_1 hs2_1 (fun cs2 hp3 => ?_)
    refine RL.sub (K' := [(25, .slice (some ⟨nx0, 0, none⟩) (((List.replicate (W .i64 (a1 - 0)).toNat (0 : Int)).take (0 : Int).toNat).length) c2), (24, i6 0), (0, .slice none 0 0)]) (L' := []) (X' := [orow 5 1 (some ⟨nx0, 0, none⟩) (((List.replicate (W .i64 (a1 - 0)).toNat (0 : Int)).take (0 : Int).toNat).length) c2 cs2]) (by kernel_rfl) (.refl _) (.refl _) ?_
    refine RL.s 1 [(0, .slice (some ⟨nx0, 0, none⟩) (((List.replicate (W .i64 (a1 - 0)).toNat (0 : Int)).take (0 : Int).toNat).length) c2)] ?_
    refine RL.nil (by kernel_rfl) ?_
    obtain rfl := Option.some.inj H
    exact QN.sb (hJ1 _ _ _ _ _ ⟨((List.replicate (W .i64 (a1 - 0)).toNat (0 : Int)).take (0 : Int).toNat), (some ⟨nx0, 0, none⟩), c2, cs2, rfl, rfl, rfl, (Imm.le_refl _), hp3, HK1⟩) .slnil (.refl _)
   ·skip
    have hc := (of_decide_eq_false hb)
    rw [if_neg hc] at H
    clear hb
    refine OK.sk ?_
    refine QN.nilRow 5 1 ?_
    have hp4 : Reps (Ty.int .u8) I0 ([] : List Int) [] := rfl
    obtain rfl := Option.some.inj H
    exact QN.sb (hJ1 _ _ _ _ _ ⟨([] : List Int), none, 0, [], rfl, rfl, rfl, (Imm.le_refl _), hp4, HK1⟩) .slnil (.refl _)

end Go.Proofs.YtiomeaoeegikkaaDoor
namespace Go.Proofs.YtiomeaoeegikkaaDoor
open Go Go.Proofs.YtiomeaoeegikkaaDoor.RW
set_option linter.unusedVariables false
set_option maxRecDepth 100000
set_option maxHeartbeats 8000000

/-! ### slices_Concat_byte_byte: function 29, slices.Concat[[]byte,byte] -/
noncomputable def K29_0 : Code := cBody Tryd.f29
def slices_Concat_byte_byte.k1  (x2 : List Int) : Option (List Int) := (some x2)
def slices_Concat_byte_byte.l1 (a0 : List (List Int)) : Nat → (List Int) → Int → Option (List Int)
 | 0, _, _ => none
 | k + 1, x3, x4 => (if x4 < (a0.length : Int) then (if 0 ≤ x4 then (if x4 < (a0.length : Int) then (if (x3.length + (a0.getD (x4).toNat []).length) * 1 ≤ 140737488355328 then (slices_Concat_byte_byte.l1 a0 k (x3 ++ (a0.getD (x4).toNat [])) (W .i64 (x4 + 1))) else none) else none) else none) else (some x3))
def slices_Concat_byte_byte.k2 (k : Nat) (a0 : List (List Int)) (x1 : Int) : Option (List Int) := ((slices_Grow_byte_bytes0.f x1).bind fun t1 => ((slices_Concat_byte_byte.l1 a0 k t1 0).bind (slices_Concat_byte_byte.k1)))
def slices_Concat_byte_byte.l2 (a0 : List (List Int)) : Nat → Int → Int → Option (Int)
 | 0, _, _ => none
 | k + 1, x5, x6 => (if x6 < (a0.length : Int) then (if 0 ≤ x6 then (if x6 < (a0.length : Int) then (if (W .i64 (x5 + ((a0.getD (x6).toNat []).length : Int))) < 0 then none else (slices_Concat_byte_byte.l2 a0 k (W .i64 (x5 + ((a0.getD (x6).toNat []).length : Int))) (W .i64 (x6 + 1)))) else none) else none) else (some x5))
def slices_Concat_byte_byte.f (k : Nat) (a0 : List (List Int)) : Option (List Int) := ((slices_Concat_byte_byte.l2 a0 k 0 0).bind (slices_Concat_byte_byte.k2 k a0))
def slices_Concat_byte_byte.Post (I : Imm) (w : World) (r : List Int) (v : Value) (w' : World) : Prop :=
 ∃ (J : Imm) (A0 : Option Addr) (c0 : Nat) (cs0 : List Value), v = .slice A0 r.length c0 ∧ Got w w' I J [orow 5 1 A0 r.length c0 cs0] ∧ Reps (Ty.int .u8) J r cs0
theorem slices_Concat_byte_byte.calls (k : Nat) (I0 : Imm) (a0 : List (List Int)) (Ap0 : Option Addr) (cp0 : Nat) (w : World) (hI : I0.at_ w) (hlp0 : a0.length ≤ cp0) (hrp0 : Rd (Ty.slice (Ty.int .u8)) I0 Ap0 a0) (r : List Int) (h : slices_Concat_byte_byte.f k a0 = some r) :
  Calls Tryd.prog 29 [.slice Ap0 a0.length cp0].toArray w fun e w' => ∃ v, e = .returned v ∧ slices_Concat_byte_byte.Post I0 w r v w' := by
 have H : ((slices_Concat_byte_byte.l2 a0 k 0 0).bind (slices_Concat_byte_byte.k2 k a0)) = some r := h
 clear h
 refine calls_body Tryd.func29 (by kernel_rfl) 36 (by kernel_rfl) (by kernel_rfl) ⟨w, fun _ => False, I0⟩ I0 [] [(0, .slice Ap0 a0.length cp0)] (by kernel_rfl) (Sat.start w _ I0 hI) ?_
 generalize w.heap.size = nx0
 show OK _ K29_0 _ _ _ _ _ _ _ _
 refine OK.sr ?_
 refine RL.st 1 [(0, .slice Ap0 a0.length cp0)] ?_
 refine OK.sr ?_
 refine RL.st 1 [(3, i6 0), (0, .slice Ap0 a0.length cp0)] ?_
 refine OK.sq ?_
 refine OK.sr ?_
 refine RL.st 3 [(11, i6 0), (10, i6 (a0.length : Int)), (9, .slice Ap0 a0.length cp0), (3, i6 0), (0, .slice Ap0 a0.length cp0)] ?_
 refine OK.join (fun K' I' _ L' X' => ∃ (x1 : Int), K' = [(0, .slice Ap0 a0.length cp0), (3, i6 x1)] ∧ L' = [] ∧ X' = [] ∧ Imm.le I0 I' ∧ slices_Concat_byte_byte.k2 k a0 x1 = some r) ?_ ?_
 ·rintro _ I1 nx1 _ _ ⟨x1, rfl, rfl, rfl, hi1, H⟩
  rw [slices_Concat_byte_byte.k2] at H
  refine QN.then_ ?_
  refine OK.sr ?_
  refine RL.s 1 [(23, i6 x1), (0, .slice Ap0 a0.length cp0)] ?_
  obtain ⟨t1, hA1, H⟩ := bnd H
  refine RL.callM (L1 := []) (L2 := []) (X1 := []) (X2 := []) rfl rfl 41 [.slice none 0 0, i6 x1] (some 24) (fun w => slices_Grow_byte_bytes0.Post (SM [] []) x1 I1 w t1) (by kernel_rfl) (by kernel_rfl) (fun w hs => slices_Grow_byte_bytes0.calls I1 x1 w hs  t1 hA1) ?_
  rintro w v w' hs ⟨I2, A1, c1, cs1, rfl, hg, hp1⟩
  have hi2 : Imm.le I1 I2 := hg.le
  refine RL.resume (L' := []) (X' := [orow 5 1 A1 t1.length c1 cs1]) rfl (hs.outof hg) ?_
  clear hs hg
  generalize w'.heap.size = nx2
  clear w w'
  refine RL.st 1 [(6, .slice A1 t1.length c1), (0, .slice Ap0 a0.length cp0)] ?_
  refine OK.sq ?_
  refine OK.sr ?_
  refine RL.st 3 [(27, i6 0), (26, i6 (a0.length : Int)), (25, .slice Ap0 a0.length cp0), (6, .slice A1 t1.length c1)] ?_
  refine OK.join (fun K' I' _ L' X' => ∃ (x2 : List Int) (A2 : Option Addr) (c2 : Nat) (cs2 : List Value), K' = [(6, .slice A2 x2.length c2)] ∧ L' = [] ∧ X' = [orow 5 1 A2 x2.length c2 cs2] ∧ Imm.le I2 I' ∧ Reps (Ty.int .u8) I' x2 cs2 ∧ slices_Concat_byte_byte.k1 x2 = some r) ?_ ?_
  ·rintro _ I3 nx3 _ _ ⟨x2, A2, c2, cs2, rfl, rfl, rfl, hi3, hp2, H⟩
   rw [slices_Concat_byte_byte.k1] at H
   refine QN.then_ ?_
   refine OK.sr ?_
   refine RL.st 2 [(2, .slice A2 x2.length c2)] ?_
   refine OK.re ?_
   obtain rfl := Option.some.inj H
   refine QN.body rfl [] (RFacts.nil _ _ _) (.no) (.slice A2 x2.length c2) (by kernel_rfl) (by kernel_rfl) (by kernel_rfl) ?_ _ (.inr rfl)
   exact fun w' hs' => ⟨_, rfl, I3, A2, c2, cs2, rfl, hs'.got _ (.cons_cons _ .slnil), hp2⟩
  ·intro Q_1 hJ2 hQ2
   obtain ⟨y2, H, HK2⟩ := bnd H
   refine OK.bk 2 ?_
   refine OK.sub (K' := [(6, .slice A1 t1.length c1), (25, .slice Ap0 a0.length cp0), (26, i6 (a0.length : Int)), (27, i6 0)]) (L' := []) (by kernel_rfl) .slnil (.refl _) ?_
   refine OK.lp (fun n_ K' I' _ L' X' => ∃ (x3 : List Int) (x4 : Int) (A3 : Option Addr) (c3 : Nat) (cs3 : List Value), K' = [(6, .slice A3 x3.length c3), (25, .slice Ap0 a0.length cp0), (26, i6 (a0.length : Int)), (27, i6 x4)] ∧ L' = [] ∧ X' = [orow 5 1 A3 x3.length c3 cs3] ∧ Imm.le I2 I' ∧ Reps (Ty.int .u8) I' x3 cs3 ∧ slices_Concat_byte_byte.l1 a0 n_ x3 x4 = some y2) k ⟨t1, 0, A1, c1, cs1, rfl, rfl, rfl, (Imm.le_refl _), hp1, H⟩ ?_ ?_
   ·rintro _ _ _ _ _ ⟨x3, x4, A3, c3, cs3, rfl, rfl, rfl, _, hp3, H⟩
    cases H
   ·rintro kq1 _ I4 nx4 _ _ ⟨x3, x4, A3, c3, cs3, rfl, rfl, rfl, hi4, hp3, H⟩ Q_l1 hJ3 hQ3
    rw [slices_Concat_byte_byte.l1] at H
    refine OK.sr ?_
    refine RL.st 1 [(28, .bool (decide (x4 < (a0.length : Int)))), (6, .slice A3 x3.length c3), (25, .slice Ap0 a0.length cp0), (26, i6 (a0.length : Int)), (27, i6 x4)] ?_
    refine OK.sq ?_
    refine OK.cd (decide (x4 < (a0.length : Int))) (fun hb => ?_) (fun hb => ?_)
    ·skip
     have hc := (of_decide_eq_true hb)
     rw [if_pos hc] at H
     clear hb
     refine OK.skt ?_
     refine OK.sq ?_
     refine OK.bk 3 ?_
     refine OK.sr ?_
     obtain ⟨hib0, H⟩ := ifs H
     obtain ⟨hib1, H⟩ := ifs H
     obtain ⟨g1_, o1_, hA1_, A1_, c1_, hl1_, hr1_, hc1_⟩ := Ty.slice_at (Rd.ext (Imm.le_trans (Imm.le_trans hi1 hi2) hi4) hrp0) x4 hib0 hib1
     refine RL.idx 1 .i64 x4 hA1_ a0.length cp0 (some 29) (by kernel_rfl) (by kernel_rfl) (T := 29) (e := 22) (by kernel_rfl) (by kernel_rfl) hib0 hib1 (K' := [(29, pt g1_ (o1_ + (x4).toNat * 1)), (28, .bool (decide (x4 < (a0.length : Int)))), (6, .slice A3 x3.length c3), (25, .slice Ap0 a0.length cp0), (26, i6 (a0.length : Int)), (27, i6 x4)]) (by kernel_rfl) ?_
     refine RL.simK (K' := [(8, .slice A1_ ((a0.getD (x4).toNat []).length) c1_), (6, .slice A3 x3.length c3), (25, .slice Ap0 a0.length cp0), (26, i6 (a0.length : Int)), (27, i6 x4)]) [(⟨g1_, o1_ + (x4).toNat * 1, none⟩, .slice A1_ ((a0.getD (x4).toNat []).length) c1_)] (RFacts.imm (hc1_ 0 _ rfl) (RFacts.nil _ _ _)) 2 [.r 0, .no] (by kernel_rfl) (by kernel_rfl) ?_
     refine RL.nt ?_
     refine OK.rg ?_
     refine RL.s 2 [(32, .slice A1_ ((a0.getD (x4).toNat []).length) c1_), (31, .slice A3 x3.length c3), (6, .slice A3 x3.length c3), (25, .slice Ap0 a0.length cp0), (26, i6 (a0.length : Int)), (27, i6 x4)] ?_
     obtain ⟨hz1, H⟩ := ifs H
     refine RL.appendR (T := 22) (e := 5) (S := A3) (S2 := A1_) 1 1 22 c3 c1_ cs3 (Ty.int .u8) x3 (a0.getD (x4).toNat []) 0 (some 33) (by kernel_rfl) (by kernel_rfl) (by kernel_rfl) (by kernel_rfl) (by kernel_rfl) (by decide) (by kernel_rfl) hp3 hr1_ hz1 (by omega) (fun A4 c4 nx5 cs4 hp4 => ?_)
     refine RL.sub (K' := [(33, .slice A4 ((x3 ++ (a0.getD (x4).toNat [])).length) c4), (32, .slice A1_ ((a0.getD (x4).toNat []).length) c1_), (25, .slice Ap0 a0.length cp0), (26, i6 (a0.length : Int)), (27, i6 x4)]) (L' := []) (X' := [orow 5 1 A4 ((x3 ++ (a0.getD (x4).toNat [])).length) c4 cs4]) (by kernel_rfl) (.refl _) (.refl _) ?_
     refine RL.s 1 [(6, .slice A4 ((x3 ++ (a0.getD (x4).toNat [])).length) c4), (25, .slice Ap0 a0.length cp0), (26, i6 (a0.length : Int)), (27, i6 x4)] ?_
     refine RL.nil (by kernel_rfl) ?_
     refine QN.blkN ?_
     refine QN.then_ ?_
     refine OK.rg ?_
     refine RL.s 2 [(27, i6 (W .i64 (x4 + 1))), (6, .slice A4 ((x3 ++ (a0.getD (x4).toNat [])).length) c4), (25, .slice Ap0 a0.length cp0), (26, i6 (a0.length : Int))] ?_
     refine RL.nil (by kernel_rfl) ?_
     exact QN.sb (hJ3 _ _ _ _ _ ⟨(x3 ++ (a0.getD (x4).toNat [])), W .i64 (x4 + 1), A4, c4, cs4, rfl, rfl, rfl, hi4, hp4, H⟩) .slnil (.refl _)
    ·skip
     have hc := (of_decide_eq_false hb)
     rw [if_neg hc] at H
     clear hb
     refine OK.ex 2 ?_
     refine QN.thenE ?_
     refine QN.outE hQ3 ?_
     refine QN.blkE ?_
     obtain rfl := Option.some.inj H
     exact QN.sb (hJ2 _ _ _ _ _ ⟨x3, A3, c3, cs3, rfl, rfl, rfl, hi4, hp3, HK2⟩) .slnil (.refl _)
 ·intro Q_2 hJ1 hQ1
  obtain ⟨y1, H, HK1⟩ := bnd H
  refine OK.bk 0 ?_
  refine OK.sub (K' := [(0, .slice Ap0 a0.length cp0), (3, i6 0), (9, .slice Ap0 a0.length cp0), (10, i6 (a0.length : Int)), (11, i6 0)]) (L' := []) (by kernel_rfl) .slnil (.refl _) ?_
  refine OK.lp (fun n_ K' I' _ L' X' => ∃ (x5 : Int) (x6 : Int), K' = [(0, .slice Ap0 a0.length cp0), (3, i6 x5), (9, .slice Ap0 a0.length cp0), (10, i6 (a0.length : Int)), (11, i6 x6)] ∧ L' = [] ∧ X' = [] ∧ Imm.le I0 I' ∧ slices_Concat_byte_byte.l2 a0 n_ x5 x6 = some y1) k ⟨0, 0, rfl, rfl, rfl, (Imm.le_refl _), H⟩ ?_ ?_
  ·rintro _ _ _ _ _ ⟨x5, x6, rfl, rfl, rfl, _, H⟩
   cases H
  ·rintro kq2 _ I5 nx6 _ _ ⟨x5, x6, rfl, rfl, rfl, hi5, H⟩ Q_l2 hJ4 hQ4
   rw [slices_Concat_byte_byte.l2] at H
   refine OK.sr ?_
   refine RL.st 1 [(12, .bool (decide (x6 < (a0.length : Int)))), (0, .slice Ap0 a0.length cp0), (3, i6 x5), (9, .slice Ap0 a0.length cp0), (10, i6 (a0.length : Int)), (11, i6 x6)] ?_
   refine OK.sq ?_
   refine OK.cd (decide (x6 < (a0.length : Int))) (fun hb => ?_) (fun hb => ?_)
   ·skip
    have hc := (of_decide_eq_true hb)
    rw [if_pos hc] at H
    clear hb
    refine OK.skt ?_
    refine OK.sq ?_
    refine OK.bk 1 ?_
    refine OK.sr ?_
    obtain ⟨hib0, H⟩ := ifs H
    obtain ⟨hib1, H⟩ := ifs H
    obtain ⟨g2_, o2_, hA2_, A2_, c2_, hl2_, hr2_, hc2_⟩ := Ty.slice_at (Rd.ext hi5 hrp0) x6 hib0 hib1
    refine RL.idx 1 .i64 x6 hA2_ a0.length cp0 (some 13) (by kernel_rfl) (by kernel_rfl) (T := 29) (e := 22) (by kernel_rfl) (by kernel_rfl) hib0 hib1 (K' := [(13, pt g2_ (o2_ + (x6).toNat * 1)), (12, .bool (decide (x6 < (a0.length : Int)))), (0, .slice Ap0 a0.length cp0), (3, i6 x5), (9, .slice Ap0 a0.length cp0), (10, i6 (a0.length : Int)), (11, i6 x6)]) (by kernel_rfl) ?_
    refine RL.simK (K' := [(5, .slice A2_ ((a0.getD (x6).toNat []).length) c2_), (0, .slice Ap0 a0.length cp0), (3, i6 x5), (9, .slice Ap0 a0.length cp0), (10, i6 (a0.length : Int)), (11, i6 x6)]) [(⟨g2_, o2_ + (x6).toNat * 1, none⟩, .slice A2_ ((a0.getD (x6).toNat []).length) c2_)] (RFacts.imm (hc2_ 0 _ rfl) (RFacts.nil _ _ _)) 2 [.r 0, .no] (by kernel_rfl) (by kernel_rfl) ?_
    refine RL.nt ?_
    refine OK.sr ?_
    refine RL.st 5 [(3, i6 (W .i64 (x5 + ((a0.getD (x6).toNat []).length : Int)))), (0, .slice Ap0 a0.length cp0), (9, .slice Ap0 a0.length cp0), (10, i6 (a0.length : Int)), (11, i6 x6)] ?_
    refine OK.sr ?_
    refine RL.st 2 [(20, .bool (decide ((W .i64 (x5 + ((a0.getD (x6).toNat []).length : Int))) < 0))), (3, i6 (W .i64 (x5 + ((a0.getD (x6).toNat []).length : Int)))), (0, .slice Ap0 a0.length cp0), (9, .slice Ap0 a0.length cp0), (10, i6 (a0.length : Int)), (11, i6 x6)] ?_
    refine OK.cd (decide ((W .i64 (x5 + ((a0.getD (x6).toNat []).length : Int))) < 0)) (fun hb => ?_) (fun hb => ?_)
    ·skip
     have hc := (of_decide_eq_true hb)
     rw [if_pos hc] at H
     clear hb
     refine OK.rg ?_
     cases H
    ·skip
     have hc := (of_decide_eq_false hb)
     rw [if_neg hc] at H
     clear hb
     refine OK.sk ?_
     refine QN.blkN ?_
     refine QN.then_ ?_
     refine OK.rg ?_
     refine RL.s 2 [(11, i6 (W .i64 (x6 + 1))), (3, i6 (W .i64 (x5 + ((a0.getD (x6).toNat []).length : Int)))), (0, .slice Ap0 a0.length cp0), (9, .slice Ap0 a0.length cp0), (10, i6 (a0.length : Int))] ?_
     refine RL.nil (by kernel_rfl) ?_
     exact QN.sb (hJ4 _ _ _ _ _ ⟨W .i64 (x5 + ((a0.getD (x6).toNat []).length : Int)), W .i64 (x6 + 1), rfl, rfl, rfl, hi5, H⟩) .slnil (.refl _)
   ·skip
    have hc := (of_decide_eq_false hb)
    rw [if_neg hc] at H
    clear hb
    refine OK.ex 0 ?_
    refine QN.thenE ?_
    refine QN.outE hQ4 ?_
    refine QN.blkE ?_
    obtain rfl := Option.some.inj H
    exact QN.sb (hJ1 _ _ _ _ _ ⟨x5, rfl, rfl, rfl, hi5, HK1⟩) .slnil (.refl _)

end Go.Proofs.YtiomeaoeegikkaaDoor
namespace Go.Proofs.YtiomeaoeegikkaaDoor
open Go Go.Proofs.YtiomeaoeegikkaaDoor.RW
set_option linter.unusedVariables false
set_option maxRecDepth 100000
set_option maxHeartbeats 8000000

/-! ### ledger_Append: function 14, armillary/ledger.Append -/
noncomputable def K14_0 : Code := cBody Tryd.f14
def ledger_Append.f (k : Nat) (a0 : List Int) (a1 : S25) : Option (List Int × Int) := ((ledger_record.f k a1).bind fun t1 => (if t1.2 ≠ 0 then (some ([], 1)) else ((slices_Concat_byte_byte.f k [a0, t1.1]).bind fun t2 => (some (t2, 0)))))
def ledger_Append.Post (I : Imm) (w : World) (r : List Int × Int) (v : Value) (w' : World) : Prop :=
 ∃ (J : Imm) (A0 : Option Addr) (c0 : Nat) (cs0 : List Value), v = .tuple #[.slice A0 r.1.length c0, .int .i64 r.2] ∧ Got w w' I J [orow 5 1 A0 r.1.length c0 cs0] ∧ Reps (Ty.int .u8) J r.1 cs0
theorem ledger_Append.calls (k : Nat) (I0 : Imm) (a0 : List Int) (Ap0 : Option Addr) (cp0 : Nat) (a1 : S25) (Ap1_2 : Option Addr) (cp1_2 : Nat) (w : World) (hI : I0.at_ w) (hlp0 : a0.length ≤ cp0) (hrp0 : Rd (Ty.int .u8) I0 Ap0 a0) (hlp1_2 : a1.f2.length ≤ cp1_2) (hrp1_2 : Rd (Ty.int .u8) I0 Ap1_2 a1.f2) (r : List Int × Int) (h : ledger_Append.f k a0 a1 = some r) :
  Calls Tryd.prog 14 [.slice Ap0 a0.length cp0, .agg #[i6 a1.f0, .string a1.f1, .slice Ap1_2 a1.f2.length cp1_2]].toArray w fun e w' => ∃ v, e = .returned v ∧ ledger_Append.Post I0 w r v w' := by
 have H : ((ledger_record.f k a1).bind fun t1 => (if t1.2 ≠ 0 then (some ([], 1)) else ((slices_Concat_byte_byte.f k [a0, t1.1]).bind fun t2 => (some (t2, 0))))) = some r := h
 clear h
 refine calls_body Tryd.func14 (by kernel_rfl) 19 (by kernel_rfl) (by kernel_rfl) ⟨w, fun _ => False, I0⟩ I0 [] [(0, .slice Ap0 a0.length cp0), (1, .agg #[i6 a1.f0, .string a1.f1, .slice Ap1_2 a1.f2.length cp1_2])] (by kernel_rfl) (Sat.start w _ I0 hI) ?_
 generalize w.heap.size = nx0
 show OK _ K14_0 _ _ _ _ _ _ _ _
 refine OK.sr ?_
 refine RL.spt 3 [(3, pt nx0 0), (0, .slice Ap0 a0.length cp0)] (nx0 + 1) [⟨nx0, [i6 a1.f0, .string a1.f1, .slice Ap1_2 a1.f2.length cp1_2], 25⟩] ?_
 refine OK.sr ?_
 refine RL.simK (K' := [(9, .agg #[i6 a1.f0, .string a1.f1, .slice Ap1_2 a1.f2.length cp1_2]), (0, .slice Ap0 a0.length cp0)]) [] (RFacts.nil _ _ _) 1 [.l 0] (by kernel_rfl) (by kernel_rfl) ?_
 obtain ⟨t1, hA1, H⟩ := bnd H
 refine RL.callP 28 [.agg #[i6 a1.f0, .string a1.f1, .slice Ap1_2 a1.f2.length cp1_2]] (some 10) (fun w => ledger_record.Post I0 w t1) (by kernel_rfl) (by kernel_rfl) (fun w hs => ledger_record.calls k I0 a1 Ap1_2 cp1_2 w hs.im hlp1_2 hrp1_2 t1 hA1) ?_
 rintro w v w' hs ⟨I1, A1, c1, cs1, rfl, hg, hp1⟩
 have hi1 := hg.le
 refine RL.resume (X' := [orow 5 1 A1 t1.1.length c1 cs1]) rfl (hs.call hg) ?_
 clear hs hg
 generalize w'.heap.size = nx1
 clear w w'
 refine RL.st 5 [(7, i6 t1.2), (6, .slice A1 t1.1.length c1), (0, .slice Ap0 a0.length cp0)] ?_
 refine OK.sq ?_
 refine OK.sr ?_
 refine RL.st 2 [(14, .bool (t1.2 != 0)), (6, .slice A1 t1.1.length c1), (0, .slice Ap0 a0.length cp0)] ?_
 refine OK.cd (t1.2 != 0) (fun hb => ?_) (fun hb => ?_)
 ·skip
  have hc := (bne_iff_ne.1 hb)
  rw [if_pos hc] at H
  clear hb
  refine OK.sr ?_
  refine RL.st 2 [(5, i6 1), (4, .slice none 0 0)] ?_
  refine OK.re ?_
  refine QN.thenR ?_
  obtain rfl := Option.some.inj H
  refine QN.body rfl [] (RFacts.nil _ _ _) (.no) (.tuple #[.slice none 0 0, i6 1]) (by kernel_rfl) (by kernel_rfl) (by kernel_rfl) ?_ _ (.inr rfl)
  exact fun w' hs' => ⟨_, rfl, I1, none, 0, [], rfl, gotNil1 (hs'.got [] (List.nil_sublist _)), rfl⟩
 ·skip
  have hc := (not_not_intro (bne_eq_false_iff_eq.1 hb))
  rw [if_neg hc] at H
  clear hb
  refine OK.skt ?_
  refine OK.sr ?_
  refine RL.sp 3 [(17, .slice (some ⟨nx1, 0, none⟩) 2 2)] (nx1 + 1) [⟨nx0, [i6 a1.f0, .string a1.f1, .slice Ap1_2 a1.f2.length cp1_2], 25⟩, ⟨nx1, [.slice Ap0 a0.length cp0, .slice A1 t1.1.length c1], 22⟩] ?_
  refine RL.freeze (e := 5) (sz := 1) (S := A1) (n := t1.1.length) (cap := c1) 0 (by kernel_rfl) hp1 rfl (fun I2 hi2 hl1 hr1 => ?_)
  skip
  refine RL.freezeL (d := (Ty.slice (Ty.int .u8))) (xs := [a0, t1.1]) (b := ⟨nx1, [.slice Ap0 a0.length cp0, .slice A1 t1.1.length c1], 22⟩) 1 (by kernel_rfl) ⟨_, _, rfl, ⟨_, _, rfl, hlp0, (Rd.ext (Imm.le_trans hi1 hi2) hrp0)⟩, ⟨_, _, rfl, ⟨_, _, rfl, hl1, hr1⟩, rfl⟩⟩ (Nat.le_of_ble_eq_true rfl) (fun I3 hi3 hr2 => ?_)
  obtain ⟨t2, hA2, H⟩ := bnd H
  refine RL.callP 29 [.slice (some ⟨nx1, 0, none⟩) 2 2] (some 18) (fun w => slices_Concat_byte_byte.Post I3 w t2) (by kernel_rfl) (by kernel_rfl) (fun w hs => slices_Concat_byte_byte.calls k I3 [a0, t1.1] (some ⟨nx1, 0, none⟩) 2 w hs.im (Nat.le_of_ble_eq_true rfl) hr2 t2 hA2) ?_
  rintro w v w' hs ⟨I4, A2, c2, cs2, rfl, hg, hp2⟩
  have hi4 := hg.le
  refine RL.resume (X' := [orow 5 1 A2 t2.length c2 cs2]) rfl (hs.call hg) ?_
  clear hs hg
  generalize w'.heap.size = nx2
  clear w w'
  refine RL.st 2 [(5, i6 0), (4, .slice A2 t2.length c2)] ?_
  refine OK.re ?_
  obtain rfl := Option.some.inj H
  refine QN.body rfl [] (RFacts.nil _ _ _) (.no) (.tuple #[.slice A2 t2.length c2, i6 0]) (by kernel_rfl) (by kernel_rfl) (by kernel_rfl) ?_ _ (.inr rfl)
  exact fun w' hs' => ⟨_, rfl, I4, A2, c2, cs2, rfl, hs'.got _ (.cons_cons _ .slnil), hp2⟩

end Go.Proofs.YtiomeaoeegikkaaDoor
namespace Go.Proofs.YtiomeaoeegikkaaDoor
open Go Go.Proofs.YtiomeaoeegikkaaDoor.RW
set_option linter.unusedVariables false
set_option maxRecDepth 100000
set_option maxHeartbeats 8000000

/-! ### armillarylaw28_build: function 24, armillary/armillarylaw28.build -/
noncomputable def K24_0 : Code := cBody Tryd.f24
def armillarylaw28_build.k1  : (List Int) ⊕ (List Int × Bool) → Option (List Int × Bool)
 | .inl x1 => (some (x1, true))
 | .inr r_ => some r_
def armillarylaw28_build.l1 (a1 : List S25) : Nat → (List Int) → Int → Option ((List Int) ⊕ (List Int × Bool))
 | 0, _, _ => none
 | k + 1, x2, x3 => (if x3 < (a1.length : Int) then (if 0 ≤ x3 then (if x3 < (a1.length : Int) then ((ledger_Append.f k x2 (a1.getD (x3).toNat z25)).bind fun t1 => ((if t1.2 ≠ 0 then (some true) else (some (decide ((t1.1.length : Int) ≤ (x2.length : Int))))).bind (fun x4 => (if x4 = true then (some (Sum.inr ([], false))) else (armillarylaw28_build.l1 a1 k t1.1 (W .i64 (x3 + 1))))))) else none) else none) else (some (Sum.inl x2)))
def armillarylaw28_build.f (k : Nat) (a0 : List Int) (a1 : List S25) : Option (List Int × Bool) := ((armillarylaw28_build.l1 a1 k a0 0).bind (armillarylaw28_build.k1))
def armillarylaw28_build.Post (I : Imm) (w : World) (r : List Int × Bool) (v : Value) (w' : World) : Prop :=
 ∃ (J : Imm) (A0 : Option Addr) (c0 : Nat), v = .tuple #[.slice A0 r.1.length c0, .bool r.2] ∧ Got w w' I J [] ∧ r.1.length ≤ c0 ∧ Rd (Ty.int .u8) J A0 r.1
theorem armillarylaw28_build.calls (k : Nat) (I0 : Imm) (a0 : List Int) (Ap0 : Option Addr) (cp0 : Nat) (a1 : List S25) (Ap1 : Option Addr) (cp1 : Nat) (w : World) (hI : I0.at_ w) (hlp0 : a0.length ≤ cp0) (hrp0 : Rd (Ty.int .u8) I0 Ap0 a0) (hlp1 : a1.length ≤ cp1) (hrp1 : Rd t25 I0 Ap1 a1) (r : List Int × Bool) (h : armillarylaw28_build.f k a0 a1 = some r) :
  Calls Tryd.prog 24 [.slice Ap0 a0.length cp0, .slice Ap1 a1.length cp1].toArray w fun e w' => ∃ v, e = .returned v ∧ armillarylaw28_build.Post I0 w r v w' := by
 have H : ((armillarylaw28_build.l1 a1 k a0 0).bind (armillarylaw28_build.k1)) = some r := h
 clear h
 refine calls_body Tryd.func24 (by kernel_rfl) 35 (by kernel_rfl) (by kernel_rfl) ⟨w, fun _ => False, I0⟩ I0 [] [(0, .slice Ap0 a0.length cp0), (1, .slice Ap1 a1.length cp1)] (by kernel_rfl) (Sat.start w _ I0 hI) ?_
 generalize w.heap.size = nx0
 show OK _ K24_0 _ _ _ _ _ _ _ _
 refine OK.sr ?_
 refine RL.st 2 [(0, .slice Ap0 a0.length cp0), (1, .slice Ap1 a1.length cp1)] ?_
 refine OK.sq ?_
 refine OK.sr ?_
 refine RL.st 1 [(6, i6 0), (0, .slice Ap0 a0.length cp0), (1, .slice Ap1 a1.length cp1)] ?_
 refine OK.join (fun K' I' _ L' X' => ∃ (x1 : List Int) (A1 : Option Addr) (c1 : Nat), K' = [(0, .slice A1 x1.length c1)] ∧ L' = [] ∧ X' = [] ∧ Imm.le I0 I' ∧ x1.length ≤ c1 ∧ Rd (Ty.int .u8) I' A1 x1 ∧ armillarylaw28_build.k1 (Sum.inl x1) = some r) ?_ ?_
 ·rintro _ I1 nx1 _ _ ⟨x1, A1, c1, rfl, rfl, rfl, hi1, hl1, hr1, H⟩
  rw [armillarylaw28_build.k1] at H
  refine QN.then_ ?_
  refine OK.sr ?_
  refine RL.st 3 [(5, .bool true), (4, .slice A1 x1.length c1)] ?_
  refine OK.re ?_
  obtain rfl := Option.some.inj H
  refine QN.body rfl [] (RFacts.nil _ _ _) (.no) (.tuple #[.slice A1 x1.length c1, .bool true]) (by kernel_rfl) (by kernel_rfl) (by kernel_rfl) ?_ _ (.inr rfl)
  exact fun w' hs' => ⟨_, rfl, I1, A1, c1, rfl, hs'.got _ .slnil, hl1, hr1⟩
 ·intro Q_1 hJ1 hQ1
  obtain ⟨y1, H, HK1⟩ := bnd H
  refine OK.bk 0 ?_
  refine OK.sub (K' := [(0, .slice Ap0 a0.length cp0), (1, .slice Ap1 a1.length cp1), (6, i6 0)]) (L' := []) (by kernel_rfl) .slnil (.refl _) ?_
  refine OK.lp (fun n_ K' I' _ L' X' => ∃ (x2 : List Int) (x3 : Int) (A2 : Option Addr) (c2 : Nat), K' = [(0, .slice A2 x2.length c2), (1, .slice Ap1 a1.length cp1), (6, i6 x3)] ∧ L' = [] ∧ X' = [] ∧ Imm.le I0 I' ∧ x2.length ≤ c2 ∧ Rd (Ty.int .u8) I' A2 x2 ∧ armillarylaw28_build.l1 a1 n_ x2 x3 = some y1) k ⟨a0, 0, Ap0, cp0, rfl, rfl, rfl, (Imm.le_refl _), hlp0, hrp0, H⟩ ?_ ?_
  ·rintro _ _ _ _ _ ⟨x2, x3, A2, c2, rfl, rfl, rfl, _, hl2, hr2, H⟩
   cases H
  ·rintro kq1 _ I2 nx2 _ _ ⟨x2, x3, A2, c2, rfl, rfl, rfl, hi2, hl2, hr2, H⟩ Q_l1 hJ2 hQ2
   rw [armillarylaw28_build.l1] at H
   refine OK.sq ?_
   refine OK.sr ?_
   refine RL.st 4 [(12, .bool (decide (x3 < (a1.length : Int)))), (0, .slice A2 x2.length c2), (1, .slice Ap1 a1.length cp1), (6, i6 x3)] ?_
   refine OK.cd (decide (x3 < (a1.length : Int))) (fun hb => ?_) (fun hb => ?_)
   ·skip
    have hc := (of_decide_eq_true hb)
    rw [if_pos hc] at H
    clear hb
    refine OK.skt ?_
    refine OK.sq ?_
    refine OK.bk 1 ?_
    refine OK.sr ?_
    refine RL.s 3 [(18, i6 x3), (17, .slice Ap1 a1.length cp1), (16, .slice A2 x2.length c2), (0, .slice A2 x2.length c2), (1, .slice Ap1 a1.length cp1), (6, i6 x3)] ?_
    obtain ⟨hib0, H⟩ := ifs H
    obtain ⟨hib1, H⟩ := ifs H
    obtain ⟨g1_, o1_, hA1_, A1_2_, c1_2_, hl1_2_, hr1_2_, hc1_⟩ := t25_at (Rd.ext hi2 hrp1) x3 hib0 hib1
    refine RL.idx 3 .i64 x3 hA1_ a1.length cp1 (some 19) (by kernel_rfl) (by kernel_rfl) (T := 23) (e := 25) (by kernel_rfl) (by kernel_rfl) hib0 hib1 (K' := [(19, pt g1_ (o1_ + (x3).toNat * 3)), (18, i6 x3), (17, .slice Ap1 a1.length cp1), (16, .slice A2 x2.length c2), (0, .slice A2 x2.length c2), (1, .slice Ap1 a1.length cp1), (6, i6 x3)]) (by kernel_rfl) ?_
    refine RL.simK (K' := [(20, .agg #[i6 ((a1.getD (x3).toNat z25).f0), .string ((a1.getD (x3).toNat z25).f1), .slice A1_2_ (((a1.getD (x3).toNat z25).f2).length) c1_2_]), (16, .slice A2 x2.length c2), (0, .slice A2 x2.length c2), (1, .slice Ap1 a1.length cp1), (6, i6 x3)]) [(⟨g1_, o1_ + (x3).toNat * 3, none⟩, i6 ((a1.getD (x3).toNat z25).f0)), (⟨g1_, o1_ + (x3).toNat * 3 + 1, none⟩, .string ((a1.getD (x3).toNat z25).f1)), (⟨g1_, o1_ + (x3).toNat * 3 + 2, none⟩, .slice A1_2_ (((a1.getD (x3).toNat z25).f2).length) c1_2_)] (RFacts.imm (hc1_ 0 _ rfl) (RFacts.imm (hc1_ 1 _ rfl) (RFacts.imm (hc1_ 2 _ rfl) (RFacts.nil _ _ _)))) 1 [.r 0] (by kernel_rfl) (by kernel_rfl) ?_
    obtain ⟨t1, hA1, H⟩ := bnd H
    refine RL.callP 14 [.slice A2 x2.length c2, .agg #[i6 ((a1.getD (x3).toNat z25).f0), .string ((a1.getD (x3).toNat z25).f1), .slice A1_2_ (((a1.getD (x3).toNat z25).f2).length) c1_2_]] (some 21) (fun w => ledger_Append.Post I2 w t1) (by kernel_rfl) (by kernel_rfl) (fun w hs => ledger_Append.calls kq1 I2 x2 A2 c2 (a1.getD (x3).toNat z25) A1_2_ c1_2_ w hs.im hl2 hr2 hl1_2_ hr1_2_ t1 hA1) ?_
    rintro w v w' hs ⟨I3, A3, c3, cs1, rfl, hg, hp1⟩
    have hi3 := hg.le
    refine RL.resume (X' := [orow 5 1 A3 t1.1.length c3 cs1]) rfl (hs.call hg) ?_
    clear hs hg
    generalize w'.heap.size = nx3
    clear w w'
    refine RL.st 5 [(8, i6 t1.2), (7, .slice A3 t1.1.length c3), (0, .slice A2 x2.length c2), (1, .slice Ap1 a1.length cp1), (6, i6 x3)] ?_
    refine OK.sq ?_
    refine OK.sq ?_
    refine OK.join (fun K' I' _ L' X' => ∃ (x4 : Bool), K' = [(1, .slice Ap1 a1.length cp1), (6, i6 x3), (7, .slice A3 t1.1.length c3), (32, .bool x4)] ∧ L' = [] ∧ X' = [orow 5 1 A3 t1.1.length c3 cs1] ∧ Imm.le I3 I' ∧ (if x4 = true then (some (Sum.inr ([], false))) else (armillarylaw28_build.l1 a1 kq1 t1.1 (W .i64 (x3 + 1)))) = some y1) ?_ ?_
    ·rintro _ I4 nx4 _ _ ⟨x4, rfl, rfl, rfl, hi4, H⟩
     replace H : (if x4 = true then (some (Sum.inr ([], false))) else (armillarylaw28_build.l1 a1 kq1 t1.1 (W .i64 (x3 + 1)))) = some y1 := H
     refine QN.then_ ?_
     refine OK.cd x4 (fun hb => ?_) (fun hb => ?_)
     ·skip
      have hc := hb
      rw [if_pos hc] at H
      clear hb
      refine OK.sr ?_
      refine RL.st 2 [(5, .bool false), (4, .slice none 0 0)] ?_
      refine OK.re ?_
      refine QN.thenR ?_
      refine QN.blkR ?_
      refine QN.thenR ?_
      refine QN.outR hQ2 ?_
      refine QN.blkR ?_
      refine QN.outR hQ1 ?_
      refine QN.thenR ?_
      obtain rfl := Option.some.inj H
      replace H : some ([], false) = some r := HK1
      obtain rfl := Option.some.inj H
      refine QN.body rfl [] (RFacts.nil _ _ _) (.no) (.tuple #[.slice none 0 0, .bool false]) (by kernel_rfl) (by kernel_rfl) (by kernel_rfl) ?_ _ (.inr rfl)
      exact fun w' hs' => ⟨_, rfl, I4, none, 0, rfl, hs'.got _ (.cons _ .slnil), (Nat.le_refl 0), (Rd.nil _ _ _)⟩
     ·skip
      have hc := (Bool.eq_false_iff.1 hb)
      rw [if_neg hc] at H
      clear hb
      refine OK.skt ?_
      refine OK.rg ?_
      refine RL.s 2 [(0, .slice A3 t1.1.length c3), (1, .slice Ap1 a1.length cp1), (6, i6 x3)] ?_
      refine RL.nil (by kernel_rfl) ?_
      refine QN.blkN ?_
      refine QN.then_ ?_
      refine OK.rg ?_
      refine RL.s 3 [(6, i6 (W .i64 (x3 + 1))), (0, .slice A3 t1.1.length c3), (1, .slice Ap1 a1.length cp1)] ?_
      refine RL.nil (by kernel_rfl) ?_
      refine QN.freeze (e := 5) (sz := 1) (S := A3) (n := t1.1.length) (cap := c3) 0 (by kernel_rfl) (Reps.ext hi4 hp1) rfl (fun I5 hi5 hl3 hr3 => ?_)
      skip
      exact QN.sb (hJ2 _ _ _ _ _ ⟨t1.1, W .i64 (x3 + 1), A3, c3, rfl, rfl, rfl, (Imm.le_trans (Imm.le_trans (Imm.le_trans hi2 hi3) hi4) hi5), hl3, hr3, H⟩) .slnil (.refl _)
    ·intro Q_2 hJ3 hQ3
     obtain ⟨y2, H, HK2⟩ := bnd H
     refine OK.rg ?_
     refine RL.s 3 [(26, .bool (t1.2 != 0)), (7, .slice A3 t1.1.length c3), (0, .slice A2 x2.length c2), (1, .slice Ap1 a1.length cp1), (6, i6 x3)] ?_
     refine RL.cases (t1.2 != 0) (fun hb => ?_) (fun hb => ?_)
     ·have hc := (bne_iff_ne.1 hb)
      rw [hb]
      rw [if_pos hc] at H; clear hb
      refine RL.s 6 [(32, .bool true), (7, .slice A3 t1.1.length c3), (1, .slice Ap1 a1.length cp1), (6, i6 x3)] ?_
      refine RL.nil (by kernel_rfl) ?_
      obtain rfl := Option.some.inj H
      exact QN.sb (hJ3 _ _ _ _ _ ⟨true, rfl, rfl, rfl, (Imm.le_refl _), HK2⟩) .slnil (.refl _)
     ·have hc := (not_not_intro (bne_eq_false_iff_eq.1 hb))
      rw [hb]
      rw [if_neg hc] at H; clear hb
      refine RL.s 6 [(32, .bool (decide ((t1.1.length : Int) ≤ (x2.length : Int)))), (7, .slice A3 t1.1.length c3), (1, .slice Ap1 a1.length cp1), (6, i6 x3)] ?_
      refine RL.nil (by kernel_rfl) ?_
      obtain rfl := Option.some.inj H
      exact QN.sb (hJ3 _ _ _ _ _ ⟨(decide ((t1.1.length : Int) ≤ (x2.length : Int))), rfl, rfl, rfl, (Imm.le_refl _), HK2⟩) .slnil (.refl _)
   ·skip
    have hc := (of_decide_eq_false hb)
    rw [if_neg hc] at H
    clear hb
    refine OK.ex 0 ?_
    refine QN.thenE ?_
    refine QN.outE hQ2 ?_
    refine QN.blkE ?_
    obtain rfl := Option.some.inj H
    exact QN.sb (hJ1 _ _ _ _ _ ⟨x2, A2, c2, rfl, rfl, rfl, hi2, hl2, hr2, HK1⟩) .slnil (.refl _)

end Go.Proofs.YtiomeaoeegikkaaDoor
namespace Go.Proofs.YtiomeaoeegikkaaDoor
open Go Go.Proofs.YtiomeaoeegikkaaDoor.RW
set_option linter.unusedVariables false
set_option maxRecDepth 100000
set_option maxHeartbeats 8000000

/-! ### armillaryref27_MadeEntry: function 25, armillary/armillaryref27.MadeEntry -/
noncomputable def K25_0 : Code := cBody Tryd.f25
noncomputable def O25_4 : List Oper := cOps (cL (cR K25_0))
def armillaryref27_MadeEntry.k1 (a0 : S25) (x1 : ByteArray) : Option (S25) := (some (⟨W .i64 (1 + (bAnd .i64 a0.f0 3)), x1, rpart a0.f2 0 (iMin (a0.f2.length : Int) 60)⟩ : S25))
def armillaryref27_MadeEntry.f (a0 : S25) : Option (S25) := (if (0 : Int) ≤ (iMin (a0.f1.size : Int) 40) then (if (iMin (a0.f1.size : Int) 40) ≤ (a0.f1.size : Int) then (if (0 : Int) ≤ (iMin (a0.f2.length : Int) 60) then (if (iMin (a0.f2.length : Int) 60) ≤ (a0.f2.length : Int) then ((if ((sPart a0.f1 0 (iMin (a0.f1.size : Int) 40)).size : Int) = 0 then (some (⟨#[107]⟩ : ByteArray)) else (some (sPart a0.f1 0 (iMin (a0.f1.size : Int) 40)))).bind (armillaryref27_MadeEntry.k1 a0)) else none) else none) else none) else none)
def armillaryref27_MadeEntry.Post (I : Imm) (w : World) (r : S25) (v : Value) (w' : World) : Prop :=
 ∃ (J : Imm) (A0_2 : Option Addr) (c0_2 : Nat), v = .agg #[.int .i64 r.f0, .string r.f1, .slice A0_2 r.f2.length c0_2] ∧ Got w w' I J [] ∧ r.f2.length ≤ c0_2 ∧ Rd (Ty.int .u8) J A0_2 r.f2
noncomputable def a25_4n : List Nat := [0, 1, 3, 7, 0, 16, 0, 64, 192, 448, 1008, 0, 2048, 0, 8192, 24576, 57344, 129024, 262143, 0, 1048575]
theorem a25_4 : ancs O25_4 [] = a25_4n := by kernel_rfl
theorem a25_4o : drawOk O25_4 a25_4n 20 = true := by kernel_rfl
noncomputable def u25d1l  : List Ld :=
 [⟨19, fun x => pt ((x 0).2.1) 0, fun x => [RW.kblk (x 0).2.1 25 [i6 0, .string (⟨#[]⟩ : ByteArray), .slice none 0 0]], fun x J => True, fun x J J' h f => trivial⟩]
noncomputable def u25d1g (a0 : S25) (Ap0_2 : Option Addr) (cp0_2 : Nat) : List (Nat × ((Nat → Wt) → Value)) := [(10, fun u => .string (sPart a0.f1 0 (iMin (a0.f1.size : Int) 40))), (17, fun u => .slice (slA Ap0_2 (0 : Int).toNat cp0_2 1) ((rpart a0.f2 0 (iMin (a0.f2.length : Int) 60)).length) (cp0_2 - (0 : Int).toNat))]
noncomputable def u25d1q (a0 : S25) (Ap0_2 : Option Addr) (cp0_2 : Nat) (nx0 : Nat) (u : Nat → Wt) : Option (List Value × List (Nat × Value) × List (Nat × Nat)) := qSim Tryd.prog [] [⟨nx0, [i6 a0.f0, .string a0.f1, .slice Ap0_2 a0.f2.length cp0_2], 25⟩, ⟨nx0 + 1, [i6 0, .string (⟨#[]⟩ : ByteArray), .slice none 0 0], 25⟩] O25_4 ⟨29, []⟩ (Ld.vl u25d1l) (u25d1g a0 Ap0_2 cp0_2) u [.no, .l 0, .no, .no, .no, .l 0, .no, .l 0, .no, .no, .no, .no, .l 0, .no, .l 0, .no, .no, .no, .no, .no] 0 (O25_4.take 20) [(2, pt (nx0 + 1) 0), (1, pt nx0 0)]
noncomputable def u25d1s (a0 : S25) (Ap0_2 : Option Addr) (cp0_2 : Nat) (nx0 : Nat) (u : Nat → Wt) : List Value := [pt nx0 0, i6 a0.f0, i6 (bAnd .i64 a0.f0 3), i6 (W .i64 (1 + (bAnd .i64 a0.f0 3))), pt nx0 1, .string a0.f1, pt nx0 1, .string a0.f1, i6 (a0.f1.size : Int), i6 (iMin (a0.f1.size : Int) 40), .string (sPart a0.f1 0 (iMin (a0.f1.size : Int) 40)), pt nx0 2, .slice Ap0_2 a0.f2.length cp0_2, pt nx0 2, .slice Ap0_2 a0.f2.length cp0_2, i6 (a0.f2.length : Int), i6 (iMin (a0.f2.length : Int) 60), .slice (slA Ap0_2 (0 : Int).toNat cp0_2 1) ((rpart a0.f2 0 (iMin (a0.f2.length : Int) 60)).length) (cp0_2 - (0 : Int).toNat), .agg #[i6 (W .i64 (1 + (bAnd .i64 a0.f0 3))), .string (sPart a0.f1 0 (iMin (a0.f1.size : Int) 40)), .slice (slA Ap0_2 (0 : Int).toNat cp0_2 1) ((rpart a0.f2 0 (iMin (a0.f2.length : Int) 60)).length) (cp0_2 - (0 : Int).toNat)], pt ((u 19 0).2.1) 0]
noncomputable def u25d1f (a0 : S25) (Ap0_2 : Option Addr) (cp0_2 : Nat) (nx0 : Nat) (i : Nat) (u : Nat → Wt) : List (Nat × Value) := foldPut ⟨29, []⟩ [(2, pt (nx0 + 1) 0), (1, pt nx0 0)] (O25_4.take i) (((u25d1s a0 Ap0_2 cp0_2 nx0) u).take i)
theorem u25d1v (a0 : S25) (Ap0_2 : Option Addr) (cp0_2 : Nat) (nx0 : Nat) (u : Nat → Wt) : (u25d1q a0 Ap0_2 cp0_2 nx0 u).map (fun x => (x.1, x.2.1)) = some ((u25d1s a0 Ap0_2 cp0_2 nx0) u, (u25d1f a0 Ap0_2 cp0_2 nx0 20) u) := by kernel_rfl
theorem u25d1e (a0 : S25) (Ap0_2 : Option Addr) (cp0_2 : Nat) (nx0 : Nat) (u : Nat → Wt) : (u25d1q a0 Ap0_2 cp0_2 nx0 u).map (fun x => x.2.2.map (·.1)) = (u25d1q a0 Ap0_2 cp0_2 nx0 u).map (fun x => x.2.2.map (·.2)) := by kernel_rfl
theorem armillaryref27_MadeEntry.calls (I0 : Imm) (a0 : S25) (Ap0_2 : Option Addr) (cp0_2 : Nat) (w : World) (hI : I0.at_ w) (hlp0_2 : a0.f2.length ≤ cp0_2) (hrp0_2 : Rd (Ty.int .u8) I0 Ap0_2 a0.f2) (r : S25) (h : armillaryref27_MadeEntry.f a0 = some r) :
  Calls Tryd.prog 25 [.agg #[i6 a0.f0, .string a0.f1, .slice Ap0_2 a0.f2.length cp0_2]].toArray w fun e w' => ∃ v, e = .returned v ∧ armillaryref27_MadeEntry.Post I0 w r v w' := by
 have H : (if (0 : Int) ≤ (iMin (a0.f1.size : Int) 40) then (if (iMin (a0.f1.size : Int) 40) ≤ (a0.f1.size : Int) then (if (0 : Int) ≤ (iMin (a0.f2.length : Int) 60) then (if (iMin (a0.f2.length : Int) 60) ≤ (a0.f2.length : Int) then ((if ((sPart a0.f1 0 (iMin (a0.f1.size : Int) 40)).size : Int) = 0 then (some (⟨#[107]⟩ : ByteArray)) else (some (sPart a0.f1 0 (iMin (a0.f1.size : Int) 40)))).bind (armillaryref27_MadeEntry.k1 a0)) else none) else none) else none) else none) = some r := h
 clear h
 refine calls_body Tryd.func25 (by kernel_rfl) 29 (by kernel_rfl) (by kernel_rfl) ⟨w, fun _ => False, I0⟩ I0 [] [(0, .agg #[i6 a0.f0, .string a0.f1, .slice Ap0_2 a0.f2.length cp0_2])] (by kernel_rfl) (Sat.start w _ I0 hI) ?_
 generalize w.heap.size = nx0
 show OK _ K25_0 _ _ _ _ _ _ _ _
 refine OK.sr ?_
 refine RL.spt 2 [(2, pt (nx0 + 1) 0), (1, pt nx0 0)] (nx0 + 2) [⟨nx0, [i6 a0.f0, .string a0.f1, .slice Ap0_2 a0.f2.length cp0_2], 25⟩, ⟨nx0 + 1, [i6 0, .string (⟨#[]⟩ : ByteArray), .slice none 0 0], 25⟩] ?_
 refine OK.sq ?_
 obtain ⟨hs1_1, H⟩ := ifs H
 obtain ⟨hs2_1, H⟩ := ifs H
 obtain ⟨hs1_2, H⟩ := ifs H
 obtain ⟨hs2_2, H⟩ := ifs H
 refine OK.drawnC 1 20 O25_4 a25_4n (by kernel_rfl) (by kernel_rfl) u25d1l (u25d1g a0 Ap0_2 cp0_2) [] (RI.nil _) [.no, .l 0, .no, .no, .no, .l 0, .no, .l 0, .no, .no, .no, .no, .l 0, .no, .l 0, .no, .no, .no, .no, .no] a25_4 a25_4o (by kernel_rfl) (by kernel_rfl) (u25d1s a0 Ap0_2 cp0_2 nx0) (u25d1f a0 Ap0_2 cp0_2 nx0 20) (u25d1v a0 Ap0_2 cp0_2 nx0) (u25d1e a0 Ap0_2 cp0_2 nx0) [u25d1f a0 Ap0_2 cp0_2 nx0 19] (framesOk.cons (fun u => rfl) framesOk.nil) ?_ [u25d1f a0 Ap0_2 cp0_2 nx0 10, u25d1f a0 Ap0_2 cp0_2 nx0 17] (framesOk.cons (fun u => rfl) (framesOk.cons (fun u => rfl) framesOk.nil)) ?_ ?_
 ·refine LoudsG.cons ?_ (LoudsG.nil)
  ·intro D u J w hp hJ hs hF
   refine (Does.make hs.im (fun n_ => pt n_ 0) (cs := [i6 0, .string (⟨#[]⟩ : ByteArray), .slice none 0 0]) (ty := 25) (fun n_ => by kernel_rfl)).mono ?_
   rintro v w' ⟨rfl, hg⟩
   exact ⟨fun _ => (none, w.heap.size, []), J, rfl, hg, trivial⟩
 ·refine Givens.cons (fun u w =>  ?_) (fun _ _ _ => rfl) (Givens.cons (fun u w =>  ?_) (fun _ _ _ => rfl) (Givens.nil))
  ·exact giv_strH (T := 9) a0.f1 (iMin (a0.f1.size : Int) 40) .i64 (by kernel_rfl) (by kernel_rfl) hs1_1 hs2_1 w
  ·exact giv_subH (T := 22) (e := 5) (l := a0.f2) (S := Ap0_2) (cap := cp0_2) (hi := iMin (a0.f2.length : Int) 60) 1 .i64 (by kernel_rfl) (by kernel_rfl) (by kernel_rfl) hlp0_2 hs1_2 hs2_2 w
 intro u I1 nx1 hi1 hF
 clear hF
 refine RL.norm (K' := [(3, pt ((u 19 0).2.1) 0), (22, .agg #[i6 (W .i64 (1 + (bAnd .i64 a0.f0 3))), .string (sPart a0.f1 0 (iMin (a0.f1.size : Int) 40)), .slice (slA Ap0_2 (0 : Int).toNat cp0_2 1) ((rpart a0.f2 0 (iMin (a0.f2.length : Int) 60)).length) (cp0_2 - (0 : Int).toNat)]), (21, .slice (slA Ap0_2 (0 : Int).toNat cp0_2 1) ((rpart a0.f2 0 (iMin (a0.f2.length : Int) 60)).length) (cp0_2 - (0 : Int).toNat)), (20, i6 (iMin (a0.f2.length : Int) 60)), (19, i6 (a0.f2.length : Int)), (18, .slice Ap0_2 a0.f2.length cp0_2), (17, pt nx0 2), (16, .slice Ap0_2 a0.f2.length cp0_2), (15, pt nx0 2), (14, .string (sPart a0.f1 0 (iMin (a0.f1.size : Int) 40))), (13, i6 (iMin (a0.f1.size : Int) 40)), (12, i6 (a0.f1.size : Int)), (11, .string a0.f1), (10, pt nx0 1), (9, .string a0.f1), (8, pt nx0 1), (7, i6 (W .i64 (1 + (bAnd .i64 a0.f0 3)))), (6, i6 (bAnd .i64 a0.f0 3)), (5, i6 a0.f0), (4, pt nx0 0), (2, pt (nx0 + 1) 0), (1, pt nx0 0)]) (X' := [RW.kblk (u 19 0).2.1 25 [i6 0, .string (⟨#[]⟩ : ByteArray), .slice none 0 0]]) (by kernel_rfl) rfl rfl rfl ?_
 generalize (u 19 0).1 = A1
 generalize (u 19 0).2.1 = c1
 generalize (u 19 0).2.2 = cs1
 clear u
 refine RL.kblk (g := c1) (ty := 25) (cs := [i6 0, .string (⟨#[]⟩ : ByteArray), .slice none 0 0]) 0 (by kernel_rfl) ?_
 show RL _ _ _ 20 _ [(3, pt c1 0), (22, .agg #[i6 (W .i64 (1 + (bAnd .i64 a0.f0 3))), .string (sPart a0.f1 0 (iMin (a0.f1.size : Int) 40)), .slice (slA Ap0_2 (0 : Int).toNat cp0_2 1) ((rpart a0.f2 0 (iMin (a0.f2.length : Int) 60)).length) (cp0_2 - (0 : Int).toNat)]), (21, .slice (slA Ap0_2 (0 : Int).toNat cp0_2 1) ((rpart a0.f2 0 (iMin (a0.f2.length : Int) 60)).length) (cp0_2 - (0 : Int).toNat)), (20, i6 (iMin (a0.f2.length : Int) 60)), (19, i6 (a0.f2.length : Int)), (18, .slice Ap0_2 a0.f2.length cp0_2), (17, pt nx0 2), (16, .slice Ap0_2 a0.f2.length cp0_2), (15, pt nx0 2), (14, .string (sPart a0.f1 0 (iMin (a0.f1.size : Int) 40))), (13, i6 (iMin (a0.f1.size : Int) 40)), (12, i6 (a0.f1.size : Int)), (11, .string a0.f1), (10, pt nx0 1), (9, .string a0.f1), (8, pt nx0 1), (7, i6 (W .i64 (1 + (bAnd .i64 a0.f0 3)))), (6, i6 (bAnd .i64 a0.f0 3)), (5, i6 a0.f0), (4, pt nx0 0), (2, pt (nx0 + 1) 0), (1, pt nx0 0)] _ _ _ [⟨nx0, [i6 a0.f0, .string a0.f1, .slice Ap0_2 a0.f2.length cp0_2], 25⟩, ⟨nx0 + 1, [i6 0, .string (⟨#[]⟩ : ByteArray), .slice none 0 0], 25⟩, ⟨c1, [i6 0, .string (⟨#[]⟩ : ByteArray), .slice none 0 0], 25⟩] []
 refine RL.simP (K' := [(3, pt c1 0), (2, pt (nx0 + 1) 0)]) (nx' := nx1) (L' := [⟨nx0, [i6 a0.f0, .string a0.f1, .slice Ap0_2 a0.f2.length cp0_2], 25⟩, ⟨nx0 + 1, [i6 0, .string (⟨#[]⟩ : ByteArray), .slice none 0 0], 25⟩, ⟨c1, [i6 (W .i64 (1 + (bAnd .i64 a0.f0 3))), .string (sPart a0.f1 0 (iMin (a0.f1.size : Int) 40)), .slice (slA Ap0_2 (0 : Int).toNat cp0_2 1) ((rpart a0.f2 0 (iMin (a0.f2.length : Int) 60)).length) (cp0_2 - (0 : Int).toNat)], 25⟩]) [] (RFacts.nil _ _ _) 1 [.l 2] (by kernel_rfl) (by kernel_rfl) ?_
 refine RL.nt ?_
 refine OK.sq ?_
 refine OK.sr ?_
 refine RL.simK (K' := [(26, .bool (((sPart a0.f1 0 (iMin (a0.f1.size : Int) 40)).size : Int) == 0)), (3, pt c1 0), (2, pt (nx0 + 1) 0)]) [] (RFacts.nil _ _ _) 4 [.no, .l 2, .no, .no] (by kernel_rfl) (by kernel_rfl) ?_
 refine RL.nt ?_
 refine OK.join (fun K' I' _ L' X' => ∃ (x1 : ByteArray), K' = [(2, pt (nx0 + 1) 0), (3, pt c1 0)] ∧ L' = [⟨nx0, [i6 a0.f0, .string a0.f1, .slice Ap0_2 a0.f2.length cp0_2], 25⟩, ⟨nx0 + 1, [i6 0, .string (⟨#[]⟩ : ByteArray), .slice none 0 0], 25⟩, ⟨c1, [i6 (W .i64 (1 + (bAnd .i64 a0.f0 3))), .string x1, .slice (slA Ap0_2 (0 : Int).toNat cp0_2 1) ((rpart a0.f2 0 (iMin (a0.f2.length : Int) 60)).length) (cp0_2 - (0 : Int).toNat)], 25⟩] ∧ X' = [] ∧ Imm.le I1 I' ∧ armillaryref27_MadeEntry.k1 a0 x1 = some r) ?_ ?_
 ·rintro _ I2 nx2 _ _ ⟨x1, rfl, rfl, rfl, hi2, H⟩
  rw [armillaryref27_MadeEntry.k1] at H
  refine QN.then_ ?_
  refine OK.sr ?_
  refine RL.simP (K' := [(2, pt (nx0 + 1) 0)]) (nx' := nx2) (L' := [⟨nx0, [i6 a0.f0, .string a0.f1, .slice Ap0_2 a0.f2.length cp0_2], 25⟩, ⟨nx0 + 1, [i6 (W .i64 (1 + (bAnd .i64 a0.f0 3))), .string x1, .slice (slA Ap0_2 (0 : Int).toNat cp0_2 1) ((rpart a0.f2 0 (iMin (a0.f2.length : Int) 60)).length) (cp0_2 - (0 : Int).toNat)], 25⟩, ⟨c1, [i6 (W .i64 (1 + (bAnd .i64 a0.f0 3))), .string x1, .slice (slA Ap0_2 (0 : Int).toNat cp0_2 1) ((rpart a0.f2 0 (iMin (a0.f2.length : Int) 60)).length) (cp0_2 - (0 : Int).toNat)], 25⟩]) [] (RFacts.nil _ _ _) 2 [.l 2, .l 1] (by kernel_rfl) (by kernel_rfl) ?_
  refine RL.nt ?_
  refine OK.re ?_
  obtain rfl := Option.some.inj H
  refine QN.body rfl [] (RFacts.nil _ _ _) (.l 1) (.agg #[i6 (W .i64 (1 + (bAnd .i64 a0.f0 3))), .string x1, .slice (slA Ap0_2 (0 : Int).toNat cp0_2 1) ((rpart a0.f2 0 (iMin (a0.f2.length : Int) 60)).length) (cp0_2 - (0 : Int).toNat)]) (by kernel_rfl) (by kernel_rfl) (by kernel_rfl) ?_ _ (.inr rfl)
  exact fun w' hs' => ⟨_, rfl, I2, (slA Ap0_2 (0 : Int).toNat cp0_2 1), (cp0_2 - (0 : Int).toNat), rfl, hs'.got _ .slnil, (part_le hlp0_2 (Int.le_refl 0) hs1_2 hs2_2), (Rd.ext (Imm.le_trans hi1 hi2) (rd_sub hrp0_2 hlp0_2 (Int.le_refl 0) hs1_2 hs2_2))⟩
 ·intro Q_1 hJ1 hQ1
  obtain ⟨y1, H, HK1⟩ := bnd H
  refine OK.cd (((sPart a0.f1 0 (iMin (a0.f1.size : Int) 40)).size : Int) == 0) (fun hb => ?_) (fun hb => ?_)
  ·skip
   have hc := (beq_iff_eq.1 hb)
   rw [if_pos hc] at H
   clear hb
   refine OK.rg ?_
   refine RL.simP (K' := [(3, pt c1 0), (2, pt (nx0 + 1) 0)]) (nx' := nx1) (L' := [⟨nx0, [i6 a0.f0, .string a0.f1, .slice Ap0_2 a0.f2.length cp0_2], 25⟩, ⟨nx0 + 1, [i6 0, .string (⟨#[]⟩ : ByteArray), .slice none 0 0], 25⟩, ⟨c1, [i6 (W .i64 (1 + (bAnd .i64 a0.f0 3))), .string (⟨#[107]⟩ : ByteArray), .slice (slA Ap0_2 (0 : Int).toNat cp0_2 1) ((rpart a0.f2 0 (iMin (a0.f2.length : Int) 60)).length) (cp0_2 - (0 : Int).toNat)], 25⟩]) [] (RFacts.nil _ _ _) 2 [.no, .l 2] (by kernel_rfl) (by kernel_rfl) ?_
   refine RL.nil (by kernel_rfl) ?_
   obtain rfl := Option.some.inj H
   exact QN.sb (hJ1 _ _ _ _ _ ⟨(⟨#[107]⟩ : ByteArray), rfl, rfl, rfl, (Imm.le_refl _), HK1⟩) (.cons_cons _ (.cons_cons _ (.cons_cons _ .slnil))) (.refl _)
  ·skip
   have hc := (beq_eq_false_iff_ne.1 hb)
   rw [if_neg hc] at H
   clear hb
   refine OK.sk ?_
   obtain rfl := Option.some.inj H
   exact QN.sb (hJ1 _ _ _ _ _ ⟨sPart a0.f1 0 (iMin (a0.f1.size : Int) 40), rfl, rfl, rfl, (Imm.le_refl _), HK1⟩) (.cons_cons _ (.cons_cons _ (.cons_cons _ .slnil))) (.refl _)

end Go.Proofs.YtiomeaoeegikkaaDoor
