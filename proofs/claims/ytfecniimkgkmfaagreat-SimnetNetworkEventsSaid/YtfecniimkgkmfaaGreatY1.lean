/- Words of the walk, the functions' walks and plain laws, joined; no conditions beyond those that the theorems name. -/
import Derived.Test.YtfecniimkgkmfaaGreatProg
import Derived.Calls
import Derived.Tactics
import Derived.Tactics2
import Derived.Below
import Derived.KernelRfl
import Derived.Orders
import Derived.LoopN
import Derived.Laws.OwnMore
import Derived.Laws.MakeOwn
import Derived.Maps.AppendAt
import Derived.IntWalk
import Derived.Lib.ConvBytes
import Derived.Laws.BytesArg
import Derived.Deep.Upon
import Derived.Laws.Slices
namespace Go.Proofs.YtfecniimkgkmfaaGreat.RW
open Go Go.RowKit

/-- A known block: its number, its cells, its type. -/
structure Blk where
 g : Nat
 cs : List Value
 ty : TypeId

/-- From w to w' nothing has turned but blocks of S, and new ones. -/
structure Evo (S : Nat → Prop) (w w' : World) : Prop where
 os : w'.os = w.os
 tape : w'.tape = w.tape
 output : w'.output = w.output
 size : w.heap.size ≤ w'.heap.size
 blk : ∀ k, k < w.heap.size → ¬ S k → w'.heap[k]? = w.heap[k]?

theorem Evo.refl (S : Nat → Prop) (w : World) : Evo S w w := ⟨rfl, rfl, rfl, Nat.le_refl _, fun _ _ _ => rfl⟩
theorem Evo.trans {S : Nat → Prop} {a b c : World} (h : Evo S a b) (k : Evo S b c) : Evo S a c :=
 ⟨k.os.trans h.os, k.tape.trans h.tape, k.output.trans h.output, Nat.le_trans h.size k.size, fun i hi hs => (k.blk i (Nat.lt_of_lt_of_le hi h.size) hs).trans (h.blk i hi hs)⟩
theorem Evo.mono {S S' : Nat → Prop} {a b : World} (h : Evo S a b) (hs : ∀ k, k < a.heap.size → S k → S' k) : Evo S' a b :=
 ⟨h.os, h.tape, h.output, h.size, fun i hi hn => h.blk i hi (fun e => hn (hs i hi e))⟩

/-- Cells of which it is promised that they never turn. -/
abbrev Imm := Addr → Option Value
def Imm.le (I J : Imm) : Prop := ∀ a v, I a = some v → J a = some v
theorem Imm.le_refl (I : Imm) : I.le I := fun _ _ h => h
theorem Imm.le_trans {I J K : Imm} (h : I.le J) (k : J.le K) : I.le K := fun a v e => k a v (h a v e)
/-- What lies at an address; at a map's own mark: its entries. -/
def codeM (es : Array MapEntry) : Value := .tuple #[.agg (es.map (·.key)), .agg (es.map (·.val)), .agg (es.map fun e => .int .i64 e.born)]
def look (w : World) (a : Addr) : Option Value :=
 match a.spot with
 | none => w.cell? a
 | some _ => match w.heap[a.block]? with | some (.map es _) => some (codeM es) | _ => none
theorem look_cell {w : World} {a : Addr} (h : a.spot = none) : look w a = w.cell? a := by unfold look; rw [h]
theorem look_lt {w : World} {a : Addr} {v : Value} (h : look w a = some v) : a.block < w.heap.size := by
 have key : ∀ o, w.heap[a.block]? = some o → a.block < w.heap.size := fun o ho => (Array.getElem?_eq_some_iff.1 ho).1
 unfold look at h
 split at h
 ·unfold World.cell? at h
  cases hb : w.heap[a.block]? with
  | none => rw [hb] at h; cases h
  | some o => exact key o hb
 ·split at h
  ·rename_i ho
   exact key _ ho
  ·cases h
theorem look_of_block {w w' : World} {a : Addr} (h : w'.heap[a.block]? = w.heap[a.block]?) : look w' a = look w a := by
 unfold look
 split
 ·exact World.cell?_of_block (w := w) h
 ·rw [h]
def Imm.at_ (I : Imm) (w : World) : Prop := ∀ a v, I a = some v → look w a = some v

/-- What a call may turn, the world it began in, the cells that never turn as it began. -/
structure Base where
 w0 : World
 S : Nat → Prop
 I0 : Imm

/-- A piece of memory of the call's own, told by what it says. -/
structure Res where
 fp : Nat → Prop
 P : Imm → World → Prop
 stable : ∀ (I : Imm) (w w' : World), (∀ k, fp k → w'.heap[k]? = w.heap[k]?) → P I w → P I w'
 ext : ∀ (I J : Imm) (w : World), I.le J → P I w → P J w

structure Sat (B : Base) (I : Imm) (nx : Nat) (L : List Blk) (X : List Res) (w : World) : Prop where
 evo : Evo B.S B.w0 w
 hnx : w.heap.size = nx
 blk : ∀ b ∈ L, w.heap[b.g]? = some (.cells b.cs.toArray b.ty (0, 0))
 own : ∀ b ∈ L, B.w0.heap.size ≤ b.g ∨ B.S b.g
 ne : L.Pairwise (fun a b => a.g ≠ b.g)
 res : ∀ r ∈ X, r.P I w
 rown : ∀ r ∈ X, ∀ k, r.fp k → k < nx ∧ (B.w0.heap.size ≤ k ∨ B.S k)
 rdis : X.Pairwise (fun a b => ∀ k, a.fp k → ¬ b.fp k)
 rblk : ∀ r ∈ X, ∀ b ∈ L, ¬ r.fp b.g
 im : I.at_ w
 imL : ∀ a v, I a = some v → ∀ b ∈ L, b.g ≠ a.block
 imX : ∀ a v, I a = some v → ∀ r ∈ X, ¬ r.fp a.block
 le : B.I0.le I
 inew : ∀ a v, I a = some v → B.I0 a = some v ∨ B.w0.heap.size ≤ a.block ∨ B.S a.block

inductive Loc where
 | no
 | l (i : Nat)
 | r (j : Nat)

/-- One Sem program over known blocks. The pairs have to be equal. -/
def simS {α : Type} (P : Program) (R : List (Addr × Value)) : Sem α → Loc → Nat → List Blk → List (Nat × Nat) → Option (α × Nat × List Blk × List (Nat × Nat))
 | .pure a, _, nx, L, es => some (a, nx, L, es)
 | .load _ a k, .l i, nx, L, es =>
  match L[i]? with
  | none => none
  | some b =>
   match a.spot with
   | some _ => none
   | none =>
    match b.cs[a.off]? with
    | none => none
    | some v => simS P R (k v) (.l i) nx L ((a.block, b.g) :: es)
 | .load _ a k, .r j, nx, L, es =>
  match R[j]? with
  | none => none
  | some (q, v) =>
   match a.spot, q.spot with
   | none, none => simS P R (k v) (.r (j + 1)) nx L ((a.block, q.block) :: (a.off, q.off) :: es)
   | _, _ => none
 | .store _ a v k, .l i, nx, L, es =>
  match L[i]? with
  | none => none
  | some b =>
   match a.spot with
   | some _ => none
   | none =>
    match v with
    | .agg _ => none
    | .tuple _ => none
    | v =>
     match b.cs[a.off]? with
     | none => none
     | some _ => simS P R k (.l i) nx (L.set i ⟨b.g, b.cs.set a.off v, b.ty⟩) ((a.block, b.g) :: es)
 | .new o k, loc, nx, L, es =>
  match o with
  | .cells c ty (0, 0) => simS P R (k nx) loc (nx + 1) (L ++ [⟨nx, c.toList, ty⟩]) es
  | _ => none
 | .shape r k, .l i, nx, L, es =>
  match L[i]? with
  | none => none
  | some b => simS P R (k (some (b.ty, b.cs.length))) (.l i) nx L ((r, b.g) :: es)
 | .frozen a k, .l i, nx, L, es =>
  match L[i]? with
  | none => none
  | some b => simS P R (k false) (.l i) nx L ((a.block, b.g) :: es)
 | .program k, loc, nx, L, es => simS P R (k P) loc nx L es
 | .mark _ k, loc, nx, L, es => simS P R k loc nx L es
 | _, _, _, _, _ => none

def eqs (es : List (Nat × Nat)) : Prop := ∀ p ∈ es, p.1 = p.2

section
variable {B : Base} {I : Imm} {nx : Nat} {L : List Blk} {X : List Res} {w : World}

theorem Sat.cell (h : Sat B I nx L X w) {i : Nat} {b : Blk} (hi : L[i]? = some b) {a : Addr} (ha : a.block = b.g) (hs : a.spot = none) : w.cell? a = b.cs[a.off]? := by
 have hm := List.mem_of_getElem? hi
 unfold World.cell?
 rw [ha, h.blk b hm]
 simp [hs]

theorem Sat.frozen (h : Sat B I nx L X w) {i : Nat} {b : Blk} (hi : L[i]? = some b) {a : Addr} (ha : a.block = b.g) : w.frozen? a = false := by
 have hm := List.mem_of_getElem? hi
 unfold World.frozen?
 rw [ha, h.blk b hm]
 simp

theorem Sat.shape (h : Sat B I nx L X w) {i : Nat} {b : Blk} (hi : L[i]? = some b) {r : Nat} (ha : r = b.g) : w.shape? r = some (b.ty, b.cs.length) := by
 have hm := List.mem_of_getElem? hi
 unfold World.shape?
 rw [ha, h.blk b hm]
 simp

theorem Sat.new (h : Sat B I nx L X w) (cs : List Value) (ty : TypeId) : Sat B I (nx + 1) (L ++ [⟨nx, cs, ty⟩]) X { w with heap := w.heap.push (.cells cs.toArray ty (0, 0)) } := by
 have hlt : ∀ b ∈ L, b.g < nx := fun b hb => by
  have := h.blk b hb
  rw [← h.hnx]
  exact (Array.getElem?_eq_some_iff.1 this).1
 have hold : ∀ k, k < nx → (w.heap.push (.cells cs.toArray ty (0, 0)))[k]? = w.heap[k]? := fun k hk => by
  rw [Array.getElem?_push, if_neg (by rw [h.hnx]; omega)]
 refine ⟨⟨h.evo.os, h.evo.tape, h.evo.output, by simp; exact Nat.le_succ_of_le h.evo.size, fun k hk hs => ?_⟩, by simp [h.hnx], ?_, ?_, ?_, ?_, ?_, h.rdis, ?_, ?_, ?_, h.imX, h.le, h.inew⟩
 ·show (w.heap.push _)[k]? = _
  rw [hold k (by rw [← h.hnx]; exact Nat.lt_of_lt_of_le hk h.evo.size)]
  exact h.evo.blk k hk hs
 ·intro b hb
  rcases List.mem_append.1 hb with hb | hb
  ·show (w.heap.push _)[b.g]? = _
   rw [hold _ (hlt b hb)]
   exact h.blk b hb
  ·rw [List.mem_singleton.1 hb]
   show (w.heap.push _)[nx]? = _
   rw [← h.hnx]
   simp
 ·intro b hb
  rcases List.mem_append.1 hb with hb | hb
  ·exact h.own b hb
  ·rw [List.mem_singleton.1 hb]
   exact .inl (by show B.w0.heap.size ≤ nx; rw [← h.hnx]; exact h.evo.size)
 ·rw [List.pairwise_append]
  refine ⟨h.ne, List.pairwise_singleton _ _, fun a ha b hb => ?_⟩
  rw [List.mem_singleton.1 hb]
  exact Nat.ne_of_lt (hlt a ha)
 ·intro r hr
  exact r.stable I w _ (fun k hk => hold k (h.rown r hr k hk).1) (h.res r hr)
 ·intro r hr k hk
  exact ⟨Nat.lt_succ_of_lt (h.rown r hr k hk).1, (h.rown r hr k hk).2⟩
 ·intro r hr b hb
  rcases List.mem_append.1 hb with hb | hb
  ·exact h.rblk r hr b hb
  ·rw [List.mem_singleton.1 hb]
   intro hk
   exact Nat.lt_irrefl _ (h.rown r hr nx hk).1
 ·intro a v ha
  have hc := h.im a v ha
  rw [← hc]
  exact look_of_block (w := w) (hold _ (by rw [← h.hnx]; exact look_lt hc))
 ·intro a v ha b hb
  rcases List.mem_append.1 hb with hb | hb
  ·exact h.imL a v ha b hb
  ·rw [List.mem_singleton.1 hb]
   have := look_lt (h.im a v ha)
   rw [h.hnx] at this
   exact fun e => absurd this (by show ¬ a.block < nx; rw [← e]; exact Nat.lt_irrefl _)

theorem Sat.set (h : Sat B I nx L X w) {i : Nat} {b : Blk} (hi : L[i]? = some b) {a : Addr} (ha : a.block = b.g) (hs : a.spot = none) (v : Value) : Sat B I nx (L.set i ⟨b.g, b.cs.set a.off v, b.ty⟩) X (w.setCell a v) := by
 have hm := List.mem_of_getElem? hi
 obtain ⟨hil, hib⟩ := List.getElem?_eq_some_iff.1 hi
 have hold : ∀ k, k ≠ b.g → (w.setCell a v).heap[k]? = w.heap[k]? := fun k hk => Below.heap_setCell w a v k (by rw [ha]; exact hk)
 have hnew : (w.setCell a v).heap[b.g]? = some (.cells (b.cs.set a.off v).toArray b.ty (0, 0)) := by
  simp only [World.setCell, Array.getElem?_modify]
  rw [if_pos (by rw [ha])]
  rw [h.blk b hm]
  simp [hs]
 have hmem : ∀ c ∈ L.set i ⟨b.g, b.cs.set a.off v, b.ty⟩, c = ⟨b.g, b.cs.set a.off v, b.ty⟩ ∨ (c ∈ L ∧ c.g ≠ b.g) := by
  intro c hc
  obtain ⟨j, hj, hjc⟩ := List.getElem_of_mem hc
  rw [List.length_set] at hj
  rw [List.getElem_set] at hjc
  split at hjc
  ·exact .inl hjc.symm
  ·rename_i hne
   refine .inr ⟨by rw [← hjc]; exact List.getElem_mem _, ?_⟩
   have hp := List.pairwise_iff_getElem.1 h.ne
   rw [← hjc]
   have hgb : L[i].g = b.g := by rw [hib]
   intro e
   rcases Nat.lt_or_gt_of_ne hne with hlt | hlt
   ·exact hp i j hil hj hlt (hgb.trans e.symm)
   ·exact hp j i hj hil hlt (e.trans hgb.symm)
 have hg : ∀ c ∈ L.set i ⟨b.g, b.cs.set a.off v, b.ty⟩, ∃ c' ∈ L, c'.g = c.g := by
  intro c hc
  rcases hmem c hc with rfl | ⟨hc, _⟩
  ·exact ⟨b, hm, rfl⟩
  ·exact ⟨c, hc, rfl⟩
 refine ⟨⟨h.evo.os, h.evo.tape, h.evo.output, by simpa [World.setCell] using h.evo.size, fun k hk hn => ?_⟩, by simpa [World.setCell] using h.hnx, ?_, ?_, ?_, ?_, h.rown, h.rdis, ?_, ?_, ?_, h.imX, h.le, h.inew⟩
 ·have : k ≠ b.g := by
   rintro rfl
   rcases h.own b hm with h1 | h1
   ·omega
   ·exact hn h1
  rw [hold k this]
  exact h.evo.blk k hk hn
 ·intro c hc
  rcases hmem c hc with rfl | ⟨hc, hne⟩
  ·exact hnew
  ·rw [hold _ hne]
   exact h.blk c hc
 ·intro c hc
  obtain ⟨c', h1, h2⟩ := hg c hc
  rw [← h2]
  exact h.own c' h1
 ·rw [List.pairwise_iff_getElem]
  intro x y hx hy hxy
  rw [List.length_set] at hx hy
  have hp := List.pairwise_iff_getElem.1 h.ne x y hx hy hxy
  rw [List.getElem_set, List.getElem_set]
  by_cases e1 : i = x
  ·subst e1
   rw [if_pos rfl, if_neg (by omega)]
   rw [hib] at hp
   exact hp
  ·rw [if_neg e1]
   by_cases e2 : i = y
   ·subst e2
    rw [if_pos rfl]
    rw [hib] at hp
    exact hp
   ·rw [if_neg e2]
    exact hp
 ·intro r hr
  exact r.stable I w _ (fun k hk => hold k (by rintro rfl; exact h.rblk r hr b hm hk)) (h.res r hr)
 ·intro r hr c hc
  obtain ⟨c', h1, h2⟩ := hg c hc
  rw [← h2]
  exact h.rblk r hr c' h1
 ·intro p u hp
  have hc := h.im p u hp
  rw [← hc]
  exact look_of_block (w := w) (hold _ (fun e => h.imL p u hp b hm e.symm))
 ·intro p u hp c hc
  obtain ⟨c', h1, h2⟩ := hg c hc
  rw [← h2]
  exact h.imL p u hp c' h1
end

theorem simS_mono {α : Type} {P : Program} {R : List (Addr × Value)} : ∀ (s : Sem α) (loc : Loc) (nx : Nat) (L : List Blk) (es : List (Nat × Nat)) (x : α) (nx' : Nat) (L' : List Blk) (es' : List (Nat × Nat)), simS P R s loc nx L es = some (x, nx', L', es') → ∀ p ∈ es, p ∈ es' := by
 intro s
 induction s with
 | pure a => intro loc nx L es x nx' L' es' h p hp; simp only [simS, Option.some.injEq, Prod.mk.injEq] at h; obtain ⟨rfl, rfl, rfl, rfl⟩ := h; exact hp
 | load m a k ih =>
  intro loc nx L es x nx' L' es' h p hp
  cases loc with
  | no => simp [simS] at h
  | l i =>
   simp only [simS] at h
   split at h
   ·cases h
   ·split at h
    ·cases h
    ·split at h
     ·cases h
     ·exact ih _ _ _ _ _ _ _ _ _ h p (List.mem_cons_of_mem _ hp)
  | r j =>
   simp only [simS] at h
   split at h
   ·cases h
   ·split at h
    ·exact ih _ _ _ _ _ _ _ _ _ h p (List.mem_cons_of_mem _ (List.mem_cons_of_mem _ hp))
    ·cases h
 | store m a v k ih =>
  intro loc nx L es x nx' L' es' h p hp
  cases loc with
  | no => cases v <;> simp [simS] at h
  | r j => cases v <;> simp [simS] at h
  | l i =>
   simp only [simS] at h
   split at h
   ·cases h
   ·split at h
    ·cases h
    ·split at h
     ·cases h
     ·cases h
     ·split at h
      ·cases h
      ·exact ih _ _ _ _ _ _ _ _ h p (List.mem_cons_of_mem _ hp)
 | new o k ih =>
  intro loc nx L es x nx' L' es' h p hp
  simp only [simS] at h
  split at h
  ·exact ih _ _ _ _ _ _ _ _ _ h p hp
  ·cases h
 | shape r k ih =>
  intro loc nx L es x nx' L' es' h p hp
  cases loc <;> simp only [simS] at h
  ·cases h
  ·split at h
   ·cases h
   ·exact ih _ _ _ _ _ _ _ _ _ h p (List.mem_cons_of_mem _ hp)
  ·cases h
 | frozen a k ih =>
  intro loc nx L es x nx' L' es' h p hp
  cases loc <;> simp only [simS] at h
  ·cases h
  ·split at h
   ·cases h
   ·exact ih _ _ _ _ _ _ _ _ _ h p (List.mem_cons_of_mem _ hp)
  ·cases h
 | program k ih => intro loc nx L es x nx' L' es' h p hp; simp only [simS] at h; exact ih _ _ _ _ _ _ _ _ _ h p hp
 | mark m k ih => intro loc nx L es x nx' L' es' h p hp; simp only [simS] at h; exact ih _ _ _ _ _ _ _ _ h p hp
 | _ => intro loc nx L es x nx' L' es' h p hp; cases loc <;> simp [simS] at h

theorem simS_sound {α : Type} {P : Program} {B : Base} {I : Imm} {X : List Res} {R : List (Addr × Value)} (hR : ∀ nx L w, Sat B I nx L X w → ∀ r ∈ R, w.cell? r.1 = some r.2) (s : Sem α) :
  ∀ (loc : Loc) (nx : Nat) (L : List Blk) (es : List (Nat × Nat)) (w : World) (x : α) (nx' : Nat) (L' : List Blk) (es' : List (Nat × Nat)),
   simS P R s loc nx L es = some (x, nx', L', es') → eqs es' → Sat B I nx L X w → eqs es ∧ ∃ w', s.run P w = .ok x w' ∧ Sat B I nx' L' X w' := by
 induction s with
 | pure a =>
  intro loc nx L es w x nx' L' es' h he hs
  simp only [simS, Option.some.injEq, Prod.mk.injEq] at h
  obtain ⟨rfl, rfl, rfl, rfl⟩ := h
  exact ⟨he, w, rfl, hs⟩
 | load m a k ih =>
  intro loc nx L es w x nx' L' es' h he hs
  cases loc with
  | no => simp [simS] at h
  | l i =>
   simp only [simS] at h
   split at h
   ·cases h
   ·rename_i b hb
    split at h
    ·cases h
    ·rename_i hsp
     split at h
     ·cases h
     ·rename_i v hv
      obtain ⟨he2, w', hr, hs'⟩ := ih v _ _ _ _ w _ _ _ _ h he hs
      have hblk : a.block = b.g := he2 (a.block, b.g) List.mem_cons_self
      refine ⟨fun p hp => he2 p (List.mem_cons_of_mem _ hp), w', ?_, hs'⟩
      simp only [Sem.run, hs.cell hb hblk hsp, hv]
      exact hr
  | r j =>
   simp only [simS] at h
   split at h
   ·cases h
   ·rename_i q v hq
    split at h
    ·rename_i hsa hsq
     obtain ⟨he2, w', hr, hs'⟩ := ih v _ _ _ _ w _ _ _ _ h he hs
     have h1 : a.block = q.block := he2 (a.block, q.block) List.mem_cons_self
     have h2 : a.off = q.off := he2 (a.off, q.off) (List.mem_cons_of_mem _ List.mem_cons_self)
     refine ⟨fun p hp => he2 p (List.mem_cons_of_mem _ (List.mem_cons_of_mem _ hp)), w', ?_, hs'⟩
     have haq : a = q := by
      cases a; cases q
      simp only at h1 h2 hsa hsq
      rw [h1, h2, hsa, hsq]
     have hc := hR _ _ _ hs (q, v) (List.mem_of_getElem? hq)
     simp only at hc
     simp only [Sem.run, haq, hc]
     exact hr
    ·cases h
 | store m a v k ih =>
  intro loc nx L es w x nx' L' es' h he hs
  cases loc with
  | no => cases v <;> simp [simS] at h
  | r j => cases v <;> simp [simS] at h
  | l i =>
   have key : ∀ b, L[i]? = some b → a.spot = none → (∀ u, v ≠ .agg u) → (∀ u, v ≠ .tuple u) → (b.cs[a.off]?).isSome → simS P R k (.l i) nx (L.set i ⟨b.g, b.cs.set a.off v, b.ty⟩) ((a.block, b.g) :: es) = some (x, nx', L', es') → eqs es ∧ ∃ w', (Sem.store m a v k).run P w = .ok x w' ∧ Sat B I nx' L' X w' := by
    intro b hb hsp hva hvt hc h
    obtain ⟨u, hu⟩ := Option.isSome_iff_exists.1 hc
    have hpre : eqs ((a.block, b.g) :: es) → eqs es ∧ a.block = b.g := fun he2 => ⟨fun p hp => he2 p (List.mem_cons_of_mem _ hp), he2 (a.block, b.g) List.mem_cons_self⟩
    -- the pairs hold whatever the world: first at some world, then at ours
    have hes : eqs ((a.block, b.g) :: es) := by
     exact fun p hp => he p (simS_mono _ _ _ _ _ _ _ _ _ h p hp)
    obtain ⟨he2, hblk⟩ := hpre hes
    obtain ⟨_, w', hr, hs'⟩ := ih _ _ _ _ _ _ _ _ _ h he (hs.set hb hblk hsp v)
    refine ⟨he2, w', ?_, hs'⟩
    have hcell := (hs.cell hb hblk hsp).trans hu
    have hfr := hs.frozen hb hblk
    cases v
    case agg => exact absurd rfl (hva _)
    case tuple => exact absurd rfl (hvt _)
    all_goals (simp only [Sem.run, hcell, hfr, Bool.false_eq_true, if_false]; exact hr)
   simp only [simS] at h
   split at h
   ·cases h
   ·rename_i b hb
    split at h
    ·cases h
    ·rename_i hsp
     split at h
     ·cases h
     ·cases h
     ·rename_i hva hvt
      split at h
      ·cases h
      ·rename_i u hu
       exact key b hb hsp hva hvt (by rw [hu]; rfl) h
 | new o k ih =>
  intro loc nx L es w x nx' L' es' h he hs
  simp only [simS] at h
  split at h
  ·rename_i c ty
   have hs2 := hs.new c.toList ty
   rw [Array.toArray_toList] at hs2
   obtain ⟨he2, w', hr, hs'⟩ := ih _ _ _ _ _ _ _ _ _ _ h he hs2
   refine ⟨he2, w', ?_, hs'⟩
   simp only [Sem.run, hs.hnx]
   exact hr
  ·cases h
 | shape r k ih =>
  intro loc nx L es w x nx' L' es' h he hs
  cases loc <;> simp only [simS] at h
  ·cases h
  ·split at h
   ·cases h
   ·rename_i b hb
    obtain ⟨he2, w', hr, hs'⟩ := ih _ _ _ _ _ w _ _ _ _ h he hs
    refine ⟨fun p hp => he2 p (List.mem_cons_of_mem _ hp), w', ?_, hs'⟩
    simp only [Sem.run, hs.shape hb (he2 (_, _) List.mem_cons_self)]
    exact hr
  ·cases h
 | frozen a k ih =>
  intro loc nx L es w x nx' L' es' h he hs
  cases loc <;> simp only [simS] at h
  ·cases h
  ·split at h
   ·cases h
   ·rename_i b hb
    obtain ⟨he2, w', hr, hs'⟩ := ih _ _ _ _ _ w _ _ _ _ h he hs
    refine ⟨fun p hp => he2 p (List.mem_cons_of_mem _ hp), w', ?_, hs'⟩
    simp only [Sem.run, hs.frozen hb (he2 (_, _) List.mem_cons_self)]
    exact hr
  ·cases h
 | program k ih =>
  intro loc nx L es w x nx' L' es' h he hs
  simp only [simS] at h
  exact ih _ _ _ _ _ _ _ _ _ _ h he hs
 | mark m k ih =>
  intro loc nx L es w x nx' L' es' h he hs
  simp only [simS] at h
  exact ih _ _ _ _ _ _ _ _ _ h he hs
 | _ => intro loc nx L es w x nx' L' es' h he hs; cases loc <;> simp [simS] at h

end Go.Proofs.YtfecniimkgkmfaaGreat.RW
namespace Go.Proofs.YtfecniimkgkmfaaGreat.RW
open Go Go.RowKit

/-! ### frames: some slots are known -/
/-- A frame's size, and what it defers. -/
structure Fr where
 n : Nat
 D : List Deferred

structure Knows (A : Fr) (K : List (Nat × Value)) (a : Act) : Prop where
 size : a.tmps.size = A.n
 defers : a.defers = A.D
 slot : ∀ p ∈ K, a.tmps[p.1]? = some p.2

def lookK : List (Nat × Value) → Nat → Option Value
 | [], _ => none
 | (i, v) :: K, t => if i = t then some v else lookK K t

def evalK (K : List (Nat × Value)) : Operand → Value
 | .tmp t => match lookK K t with | some v => v | none => undef
 | o => (⟨#[], []⟩ : Act).eval o
def knownO (K : List (Nat × Value)) : Operand → Bool
 | .tmp t => (lookK K t).isSome
 | _ => true
def noSelect : Op → Bool
 | .select _ _ => false
 | _ => true
def dropK : List (Nat × Value) → Nat → List (Nat × Value)
 | [], _ => []
 | (i, v) :: K, t => if i = t then dropK K t else (i, v) :: dropK K t
/-- A slot is written. -/
def putK (A : Fr) (K : List (Nat × Value)) (d : Option Tmp) (v : Value) : List (Nat × Value) :=
 match d with
 | some d => if d < A.n then (d, v) :: dropK K d else dropK K d
 | none => K

theorem look_mem {K : List (Nat × Value)} {t : Nat} {v : Value} (h : lookK K t = some v) : (t, v) ∈ K := by
 induction K with
 | nil => cases h
 | cons p K ih =>
  obtain ⟨i, u⟩ := p
  simp only [lookK] at h
  split at h
  ·rename_i e
   injection h with h
   rw [← e, ← h]
   exact List.mem_cons_self
  ·exact List.mem_cons_of_mem _ (ih h)
theorem dropK_mem {K : List (Nat × Value)} {t : Nat} {p : Nat × Value} (h : p ∈ dropK K t) : p ∈ K ∧ p.1 ≠ t := by
 induction K with
 | nil => cases h
 | cons q K ih =>
  obtain ⟨i, u⟩ := q
  simp only [dropK] at h
  split at h
  ·exact ⟨List.mem_cons_of_mem _ (ih h).1, (ih h).2⟩
  ·rename_i hne
   rcases List.mem_cons.1 h with rfl | h
   ·exact ⟨List.mem_cons_self, hne⟩
   ·exact ⟨List.mem_cons_of_mem _ (ih h).1, (ih h).2⟩

section
variable {A : Fr} {K : List (Nat × Value)} {a : Act}
theorem Knows.eval (h : Knows A K a) {o : Operand} (ho : knownO K o = true) : a.eval o = evalK K o := by
 cases o with
 | tmp t =>
  simp only [knownO] at ho
  obtain ⟨v, hv⟩ := Option.isSome_iff_exists.1 ho
  have := h.slot _ (look_mem hv)
  simp only at this
  simp only [Act.eval, evalK, hv]
  rw [Array.getD_eq_getD_getElem?, this]
  rfl
 | _ => rfl
theorem Knows.exec (h : Knows A K a) {o : Oper} (hs : noSelect o.op = true) (ho : ∀ x ∈ o.op.operands, knownO K x = true) : execOp a.eval o = execOp (evalK K) o :=
 execOp_congr o (fun cs b e => by rw [e] at hs; simp [noSelect] at hs) (fun x hx => h.eval (ho x hx))
theorem Knows.put (h : Knows A K a) (d : Option Tmp) (v : Value) : Knows A (putK A K d v) (a.put d v) := by
 cases d with
 | none => exact h
 | some d =>
  refine ⟨by simpa [Act.put] using h.size, h.defers, fun p hp => ?_⟩
  have old : p ∈ dropK K d → (a.put (some d) v).tmps[p.1]? = some p.2 := fun hp => by
   obtain ⟨h1, h2⟩ := dropK_mem hp
   simp only [Act.put]
   rw [Array.getElem?_setIfInBounds_ne (fun e => h2 e.symm)]
   exact h.slot p h1
  simp only [putK] at hp
  split at hp
  ·rename_i hd
   rcases List.mem_cons.1 hp with rfl | hp
   ·simp only [Act.put]
    rw [Array.getElem?_setIfInBounds_self_of_lt (by rw [h.size]; exact hd)]
   ·exact old hp
  ·exact old hp
theorem Knows.sub {K' : List (Nat × Value)} (h : Knows A K a) (hK : ∀ p ∈ K', lookK K p.1 = some p.2) : Knows A K' a :=
 ⟨h.size, h.defers, fun p hp => h.slot _ (look_mem (hK p hp))⟩
end

/-- What the guard of an operation asks, as far as it is known. -/
def wantedK (ops : List Oper) (K : List (Nat × Value)) (o : Oper) : Option Bool :=
 match o.guard with
 | none => some true
 | some (j, want) =>
  match ops[j]? with
  | none => none
  | some q =>
   match q.dst with
   | none => none
   | some t =>
    match lookK K t with
    | some (.bool b) => some (b == want)
    | some (.tuple _) => some false
    | _ => none
theorem wantedK_spec {A : Fr} {K : List (Nat × Value)} {a : Act} (h : Knows A K a) {ops : List Oper} {o : Oper} {b : Bool} (hw : wantedK ops K o = some b) : Region.wanted o (yielded ops.toArray a.tmps) = b := by
 unfold wantedK at hw
 unfold Region.wanted
 split at hw
 ·rename_i hg
  injection hw with hw
  rw [hg]
  exact hw
 ·rename_i j want hg
  rw [hg]
  split at hw
  ·cases hw
  ·rename_i q hq
   split at hw
   ·cases hw
   ·rename_i t ht
    split at hw
    ·rename_i b' hb
     injection hw with hw
     have hy : yielded ops.toArray a.tmps j = some b' := by
      unfold yielded
      have hs := h.slot _ (look_mem hb)
      simp only at hs
      simp [hq, ht, hs]
     simp only [hy]
     rw [← hw]
     cases b' <;> cases want <;> rfl
    ·rename_i b' hb
     injection hw with hw
     have hy : yielded ops.toArray a.tmps j = none := by
      unfold yielded
      have hs := h.slot _ (look_mem hb)
      simp only at hs
      simp [hq, ht, hs]
     simp only [hy]
     rw [← hw]
     rfl
    ·cases hw

/-! ### lists of operations -/
def simOps (P : Program) (R : List (Addr × Value)) (ops : List Oper) (A : Fr) : List Oper → List Loc → List (Nat × Value) → Nat → List Blk → List (Nat × Nat) → Option (List (Nat × Value) × Nat × List Blk × List (Nat × Nat))
 | [], _, K, nx, L, es => some (K, nx, L, es)
 | o :: rest, locs, K, nx, L, es =>
  match wantedK ops K o with
  | none => none
  | some false => simOps P R ops A rest (locs.drop 1) (putK A K o.dst undef) nx L es
  | some true =>
   match noSelect o.op && o.op.operands.toList.all (knownO K) with
   | false => none
   | true =>
    match simS P R (execOp (evalK K) o) (locs.headD .no) nx L es with
    | some (.value v, nx', L', es') => simOps P R ops A rest (locs.drop 1) (putK A K o.dst v) nx' L' es'
    | some (.skip, nx', L', es') => simOps P R ops A rest (locs.drop 1) (putK A K o.dst undef) nx' L' es'
    | _ => none

theorem simOps_mono {P : Program} {R : List (Addr × Value)} {ops : List Oper} {A : Fr} : ∀ (l : List Oper) (locs : List Loc) (K : List (Nat × Value)) (nx : Nat) (L : List Blk) (es : List (Nat × Nat)) (K' : List (Nat × Value)) (nx' : Nat) (L' : List Blk) (es' : List (Nat × Nat)),
  simOps P R ops A l locs K nx L es = some (K', nx', L', es') → ∀ p ∈ es, p ∈ es' := by
 intro l
 induction l with
 | nil => intro locs K nx L es K' nx' L' es' h p hp; simp only [simOps, Option.some.injEq, Prod.mk.injEq] at h; obtain ⟨rfl, rfl, rfl, rfl⟩ := h; exact hp
 | cons o rest ih =>
  intro locs K nx L es K' nx' L' es' h p hp
  simp only [simOps] at h
  split at h
  ·cases h
  ·exact ih _ _ _ _ _ _ _ _ _ h p hp
  ·split at h
   ·cases h
   ·split at h
    ·rename_i hs
     exact ih _ _ _ _ _ _ _ _ _ h p (simS_mono _ _ _ _ _ _ _ _ _ hs p hp)
    ·rename_i hs
     exact ih _ _ _ _ _ _ _ _ _ h p (simS_mono _ _ _ _ _ _ _ _ _ hs p hp)
    ·cases h

def RFacts (B : Base) (I : Imm) (X : List Res) (R : List (Addr × Value)) : Prop := ∀ nx L w, Sat B I nx L X w → ∀ r ∈ R, w.cell? r.1 = some r.2
theorem RFacts.nil (B : Base) (I : Imm) (X : List Res) : RFacts B I X [] := fun _ _ _ _ r hr => by cases hr
/-- A cell that never turns. -/
theorem RFacts.imm {B : Base} {I : Imm} {X : List Res} {R : List (Addr × Value)} {a : Addr} {v : Value} (h : I a = some v) (hR : RFacts B I X R) (hsp : a.spot = none := by rfl) : RFacts B I X ((a, v) :: R) := by
 intro nx L w hs r hr
 rcases List.mem_cons.1 hr with rfl | hr
 ·rw [← look_cell hsp]; exact hs.im _ _ h
 ·exact hR nx L w hs r hr

theorem simOps_sound {P : Program} {B : Base} {I : Imm} {X : List Res} {R : List (Addr × Value)} (hR : RFacts B I X R) {ops : List Oper} {Q : Exit → Act → World → Prop} {A : Fr} {rest : List Oper} :
  ∀ (l : List Oper) (locs : List Loc) (K : List (Nat × Value)) (nx : Nat) (L : List Blk) (es : List (Nat × Nat)) (K' : List (Nat × Value)) (nx' : Nat) (L' : List Blk) (es' : List (Nat × Nat)) (a : Act) (w : World),
   simOps P R ops A l locs K nx L es = some (K', nx', L', es') → eqs es' → Knows A K a → Sat B I nx L X w →
   (∀ a' w', Knows A K' a' → Sat B I nx' L' X w' → wpList P ops.toArray Q rest a' w') → wpList P ops.toArray Q (l ++ rest) a w := by
 intro l
 induction l with
 | nil =>
  intro locs K nx L es K' nx' L' es' a w h he ha hs hk
  simp only [simOps, Option.some.injEq, Prod.mk.injEq] at h
  obtain ⟨rfl, rfl, rfl, rfl⟩ := h
  exact hk a w ha hs
 | cons o l ih =>
  intro locs K nx L es K' nx' L' es' a w h he ha hs hk
  simp only [simOps] at h
  simp only [List.cons_append, wpList]
  split at h
  ·cases h
  ·rename_i hw
   rw [if_neg (by rw [wantedK_spec ha hw]; decide)]
   exact ih _ _ _ _ _ _ _ _ _ _ _ h he (ha.put _ _) hs hk
  ·rename_i hw
   rw [if_pos (wantedK_spec ha hw)]
   split at h
   ·cases h
   ·rename_i hkn
    rw [Bool.and_eq_true, List.all_eq_true] at hkn
    refine .inl ?_
    unfold Oper.wp
    rw [ha.exec hkn.1 (fun x hx => hkn.2 x (by simpa using hx))]
    split at h
    ·rename_i v nx1 L1 es1 hsim
     obtain ⟨_, w', hr, hs'⟩ := simS_sound hR _ _ _ _ _ w _ _ _ _ hsim (fun p hp => he p (simOps_mono _ _ _ _ _ _ _ _ _ _ h p hp)) hs
     rw [hr, Oper.upon_value]
     exact ih _ _ _ _ _ _ _ _ _ _ _ h he (ha.put _ _) hs' hk
    ·rename_i nx1 L1 es1 hsim
     obtain ⟨_, w', hr, hs'⟩ := simS_sound hR _ _ _ _ _ w _ _ _ _ hsim (fun p hp => he p (simOps_mono _ _ _ _ _ _ _ _ _ _ h p hp)) hs
     rw [hr, Oper.upon_skip]
     exact ih _ _ _ _ _ _ _ _ _ _ _ h he (ha.put _ _) hs' hk
    ·cases h

/-! ### what only reads -/
def simQ {α : Type} (P : Program) (R : List (Addr × Value)) (L : List Blk) : Sem α → Loc → List (Nat × Nat) → Option (α × List (Nat × Nat))
 | .pure a, _, es => some (a, es)
 | .load _ a k, .l i, es =>
  match L[i]? with
  | none => none
  | some b =>
   match a.spot with
   | some _ => none
   | none =>
    match b.cs[a.off]? with
    | none => none
    | some v => simQ P R L (k v) (.l i) ((a.block, b.g) :: es)
 | .load _ a k, .r j, es =>
  match R[j]? with
  | none => none
  | some (q, v) =>
   match a.spot, q.spot with
   | none, none => simQ P R L (k v) (.r (j + 1)) ((a.block, q.block) :: (a.off, q.off) :: es)
   | _, _ => none
 | .program k, loc, es => simQ P R L (k P) loc es
 | .mark _ k, loc, es => simQ P R L k loc es
 | _, _, _ => none

theorem simQ_mono {α : Type} {P : Program} {R : List (Addr × Value)} {L : List Blk} (s : Sem α) : ∀ (loc : Loc) (es : List (Nat × Nat)) (x : α) (es' : List (Nat × Nat)),
  simQ P R L s loc es = some (x, es') → ∀ p ∈ es, p ∈ es' := by
 induction s with
 | pure a => intro loc es x es' h p hp; simp only [simQ, Option.some.injEq, Prod.mk.injEq] at h; obtain ⟨rfl, rfl⟩ := h; exact hp
 | load m a k ih =>
  intro loc es x es' h p hp
  cases loc with
  | no => simp [simQ] at h
  | l i =>
   simp only [simQ] at h
   split at h
   ·cases h
   ·split at h
    ·cases h
    ·split at h
     ·cases h
     ·exact ih _ _ _ _ _ h p (List.mem_cons_of_mem _ hp)
  | r j =>
   simp only [simQ] at h
   split at h
   ·cases h
   ·split at h
    ·exact ih _ _ _ _ _ h p (List.mem_cons_of_mem _ (List.mem_cons_of_mem _ hp))
    ·cases h
 | program k ih => intro loc es x es' h p hp; simp only [simQ] at h; exact ih _ _ _ _ _ h p hp
 | mark m k ih => intro loc es x es' h p hp; simp only [simQ] at h; exact ih _ _ _ _ h p hp
 | _ => intro loc es x es' h p hp; simp [simQ] at h

theorem simQ_sound {α : Type} {P : Program} {B : Base} {I : Imm} {X : List Res} {nx : Nat} {L : List Blk} {R : List (Addr × Value)} (hR : RFacts B I X R) {w : World} (hs : Sat B I nx L X w) (s : Sem α) :
  ∀ (loc : Loc) (es : List (Nat × Nat)) (x : α) (es' : List (Nat × Nat)), simQ P R L s loc es = some (x, es') → eqs es' → s.run P w = .ok x w := by
 induction s with
 | pure a => intro loc es x es' h _; simp only [simQ, Option.some.injEq, Prod.mk.injEq] at h; obtain ⟨rfl, rfl⟩ := h; rfl
 | load m a k ih =>
  intro loc es x es' h he
  cases loc with
  | no => simp [simQ] at h
  | l i =>
   simp only [simQ] at h
   split at h
   ·cases h
   ·rename_i b hb
    split at h
    ·cases h
    ·rename_i hsp
     split at h
     ·cases h
     ·rename_i v hv
      have hblk : a.block = b.g := he (a.block, b.g) (simQ_mono _ _ _ _ _ h _ List.mem_cons_self)
      simp only [Sem.run, hs.cell hb hblk hsp, hv]
      exact ih _ _ _ _ _ h he
  | r j =>
   simp only [simQ] at h
   split at h
   ·cases h
   ·rename_i q v hq
    split at h
    ·rename_i hsa hsq
     have h1 : a.block = q.block := he (a.block, q.block) (simQ_mono _ _ _ _ _ h _ List.mem_cons_self)
     have h2 : a.off = q.off := he (a.off, q.off) (simQ_mono _ _ _ _ _ h _ (List.mem_cons_of_mem _ List.mem_cons_self))
     have haq : a = q := by
      cases a; cases q
      simp only at h1 h2 hsa hsq
      rw [h1, h2, hsa, hsq]
     have hc := hR _ _ _ hs (q, v) (List.mem_of_getElem? hq)
     simp only at hc
     simp only [Sem.run, haq, hc]
     exact ih _ _ _ _ _ h he
    ·cases h
 | program k ih => intro loc es x es' h he; simp only [simQ] at h; exact ih _ _ _ _ _ h he
 | mark m k ih => intro loc es x es' h he; simp only [simQ] at h; exact ih _ _ _ _ h he
 | _ => intro loc es x es' h he; simp [simQ] at h

/-- Without known blocks and cells: in any world. -/
theorem simQ_any {α : Type} {P : Program} (s : Sem α) : ∀ (es : List (Nat × Nat)) (x : α) (es' : List (Nat × Nat)), simQ P [] [] s .no es = some (x, es') → ∀ w : World, s.run P w = .ok x w := by
 induction s with
 | pure a => intro es x es' h w; simp only [simQ, Option.some.injEq, Prod.mk.injEq] at h; obtain ⟨rfl, rfl⟩ := h; rfl
 | program k ih => intro es x es' h w; simp only [simQ] at h; exact ih _ _ _ _ h w
 | mark m k ih => intro es x es' h w; simp only [simQ] at h; exact ih _ _ _ h w
 | _ => intro es x es' h w; simp [simQ] at h

theorem eqs_of_map {es : List (Nat × Nat)} (h : es.map (·.1) = es.map (·.2)) : eqs es := by
 intro p hp
 obtain ⟨i, hi, rfl⟩ := List.getElem_of_mem hp
 have h1 := congrArg (·[i]?) h
 simp only [List.getElem?_map, List.getElem?_eq_getElem hi, Option.map_some, Option.some.injEq] at h1
 exact h1
theorem simQ_run {α : Type} {P : Program} {B : Base} {I : Imm} {X : List Res} {nx : Nat} {L : List Blk} {R : List (Addr × Value)} (hR : RFacts B I X R) {w : World} {s : Sem α} (loc : Loc) (v : α)
  (h : (simQ P R L s loc []).map (·.1) = some v) (he : (simQ P R L s loc []).map (fun x => x.2.map (·.1)) = (simQ P R L s loc []).map (fun x => x.2.map (·.2))) (hs : Sat B I nx L X w) : s.run P w = .ok v w := by
 cases hsim : simQ P R L s loc [] with
 | none => rw [hsim] at h; cases h
 | some x =>
  obtain ⟨x1, es1⟩ := x
  rw [hsim] at h he
  simp only [Option.map_some, Option.some.injEq] at h he
  subst h
  exact simQ_sound hR hs _ _ _ _ _ hsim (eqs_of_map he)

/-- Less is known. -/
theorem Sat.less {B : Base} {I : Imm} {nx : Nat} {L : List Blk} {X : List Res} {w : World} (h : Sat B I nx L X w) {L' : List Blk} {X' : List Res} (hL : L'.Sublist L) (hX : X'.Sublist X) : Sat B I nx L' X' w :=
 ⟨h.evo, h.hnx, fun b hb => h.blk b (hL.subset hb), fun b hb => h.own b (hL.subset hb), h.ne.sublist hL, fun r hr => h.res r (hX.subset hr), fun r hr => h.rown r (hX.subset hr), h.rdis.sublist hX,
  fun r hr b hb => h.rblk r (hX.subset hr) b (hL.subset hb), h.im, fun a v ha b hb => h.imL a v ha b (hL.subset hb), fun a v ha r hr => h.imX a v ha r (hX.subset hr), h.le, h.inew⟩

/-! ### goals -/
def OK (P : Program) (c : Code) (Q : Exit → Act → World → Prop) (A : Fr) (K : List (Nat × Value)) (B : Base) (I : Imm) (nx : Nat) (L : List Blk) (X : List Res) : Prop :=
 ∀ a w, Knows A K a → Sat B I nx L X w → c.wp P Q a w
def RL (P : Program) (os : List Oper) (Q : Exit → Act → World → Prop) (p : Nat) (A : Fr) (K : List (Nat × Value)) (B : Base) (I : Imm) (nx : Nat) (L : List Blk) (X : List Res) : Prop :=
 ∀ a w, Knows A K a → Sat B I nx L X w → wpList P os.toArray Q (os.drop p) a w
def QN (Q : Exit → Act → World → Prop) (e : Exit) (A : Fr) (K : List (Nat × Value)) (B : Base) (I : Imm) (nx : Nat) (L : List Blk) (X : List Res) : Prop :=
 ∀ a w, Knows A K a → Sat B I nx L X w → Q e a w
/-- What holds at a point. -/
abbrev St := List (Nat × Value) → Imm → Nat → List Blk → List Res → Prop

def cL : Code → Code
 | .seq a _ => a
 | .cond _ a _ => a
 | .block _ b => b
 | .loop b => b
 | .scope b => b
 | c => c
def cR : Code → Code
 | .seq _ b => b
 | .cond _ _ b => b
 | c => c
def cOps : Code → List Oper
 | .region _ ops _ => ops.toList
 | _ => []
def cOpd : Code → Operand
 | .cond o _ _ => o
 | _ => .tmp 0
def cBody (f : Func) : Code := f.body.getD .skip

section
variable {P : Program} {c : Code} {Q : Exit → Act → World → Prop} {A : Fr} {K : List (Nat × Value)} {B : Base} {I : Imm} {nx : Nat} {L : List Blk} {X : List Res}

theorem OK.seq (l r : Code) (h : c = .seq l r) (k : OK P l (Exit.then (r.wp P Q) Q) A K B I nx L X) : OK P c Q A K B I nx L X := by
 intro a w ha hs
 rw [h]
 exact wp_seq (k a w ha hs)
theorem OK.region (id : Nat) (os : List Oper) (h : c = .region id os.toArray false) (k : RL P os Q 0 A K B I nx L X) : OK P c Q A K B I nx L X := by
 intro a w ha hs
 rw [h]
 exact wp_region_lit (k a w ha hs)
theorem OK.block (id : Nat) (l : Code) (h : c = .block id l) (k : OK P l (Exit.inBlock id Q) A K B I nx L X) : OK P c Q A K B I nx L X := by
 intro a w ha hs
 rw [h]
 exact wp_block (k a w ha hs)
theorem OK.cond (o : Operand) (l r : Code) (t : Bool) (h : c = .cond o l r) (hk : knownO K o = true) (ht : evalK K o = .bool t) (k1 : t = true → OK P l Q A K B I nx L X) (k2 : t = false → OK P r Q A K B I nx L X) : OK P c Q A K B I nx L X := by
 intro a w ha hs
 rw [h]
 refine wp_cond_split (t := t) ?_ (fun e => k1 e a w ha hs) (fun e => k2 e a w ha hs)
 rw [ha.eval hk]
 exact ht
theorem OK.condT (o : Operand) (l r : Code) (h : c = .cond o l r) (hk : knownO K o = true) (ht : evalK K o = .bool true) (k1 : OK P l Q A K B I nx L X) : OK P c Q A K B I nx L X :=
 OK.cond o l r true h hk ht (fun _ => k1) (fun e => by cases e)
theorem OK.condF (o : Operand) (l r : Code) (h : c = .cond o l r) (hk : knownO K o = true) (ht : evalK K o = .bool false) (k1 : OK P r Q A K B I nx L X) : OK P c Q A K B I nx L X :=
 OK.cond o l r false h hk ht (fun e => by cases e) (fun _ => k1)
theorem OK.exit (id : Nat) (h : c = .exit id) (k : QN Q (.exit id) A K B I nx L X) : OK P c Q A K B I nx L X := by
 intro a w ha hs
 rw [h]
 exact wp_exit (k a w ha hs)
theorem OK.ret (h : c = .ret) (k : QN Q .ret A K B I nx L X) : OK P c Q A K B I nx L X := by
 intro a w ha hs
 rw [h]
 exact wp_ret (k a w ha hs)
theorem OK.skip (h : c = .skip) (k : QN Q .normal A K B I nx L X) : OK P c Q A K B I nx L X := by
 intro a w ha hs
 rw [h]
 exact wp_skip (k a w ha hs)
/-- A loop: what holds at the head of a round, and how many rounds are left at most. -/
theorem OK.loopInv (l : Code) (h : c = .loop l) (Inv : Nat → St) (k : Nat) (h0 : Inv k K I nx L X) (hz : ∀ K I nx L X, ¬ Inv 0 K I nx L X)
  (step : ∀ k K I nx L X, Inv (k + 1) K I nx L X → ∀ Q' : Exit → Act → World → Prop, (∀ K' I' nx' L' X', Inv k K' I' nx' L' X' → QN Q' .normal A K' B I' nx' L' X') → (∀ e a w, e ≠ .normal → Q e a w → Q' e a w) → OK P l Q' A K B I nx L X) :
  OK P c Q A K B I nx L X := by
 have key : ∀ k K I nx L X, Inv k K I nx L X → ∀ a w, Knows A K a → Sat B I nx L X w → Code.rounds P l Q k a w := by
  intro k
  induction k with
  | zero => intro K I nx L X hi; exact absurd hi (hz _ _ _ _ _)
  | succ k ih =>
   intro K I nx L X hi a w ha hs
   refine step k K I nx L X hi (Exit.then (Code.rounds P l Q k) Q) (fun K' I' nx' L' X' hi' a' w' ha' hs' => ih K' I' nx' L' X' hi' a' w' ha' hs') (fun e a w hne hq => ?_) a w ha hs
   cases e with
   | normal => exact absurd rfl hne
   | _ => exact hq
 intro a w ha hs
 rw [h]
 exact wp_loop_rounds k (key k K I nx L X h0 a w ha hs)
/-- Where ways meet: what holds behind this piece of code. -/
theorem OK.join (S : St) (k2 : ∀ K I nx L X, S K I nx L X → QN Q .normal A K B I nx L X)
  (k1 : ∀ Q' : Exit → Act → World → Prop, (∀ K' I' nx' L' X', S K' I' nx' L' X' → QN Q' .normal A K' B I' nx' L' X') → (∀ e a w, e ≠ .normal → Q e a w → Q' e a w) → OK P c Q' A K B I nx L X) :
  OK P c Q A K B I nx L X :=
 k1 Q (fun _ _ _ _ _ h => k2 _ _ _ _ _ h) (fun _ _ _ _ h => h)
theorem QN.outE {Q' : Exit → Act → World → Prop} {id : Nat} (hQ : ∀ e a w, e ≠ .normal → Q e a w → Q' e a w) (k : QN Q (.exit id) A K B I nx L X) : QN Q' (.exit id) A K B I nx L X := fun a w ha hs => hQ _ _ _ (by intro h; cases h) (k a w ha hs)
theorem QN.then_ {Q' : Exit → Act → World → Prop} (k : OK P c Q A K B I nx L X) : QN (Exit.then (c.wp P Q) Q') .normal A K B I nx L X := k
theorem QN.thenE {N : Act → World → Prop} {id : Nat} (k : QN Q (.exit id) A K B I nx L X) : QN (Exit.then N Q) (.exit id) A K B I nx L X := k
theorem QN.thenR {N : Act → World → Prop} (k : QN Q .ret A K B I nx L X) : QN (Exit.then N Q) .ret A K B I nx L X := k
theorem QN.blkN {id : Nat} (k : QN Q .normal A K B I nx L X) : QN (Exit.inBlock id Q) .normal A K B I nx L X := k
theorem QN.blkE {id : Nat} (k : QN Q .normal A K B I nx L X) : QN (Exit.inBlock id Q) (.exit id) A K B I nx L X := by
 intro a w ha hs
 show (if id = id then Q .normal _ w else Q (.exit id) _ w)
 rw [if_pos rfl]
 exact k a w ha hs
/-- Less is known. -/
theorem OK.sub {K' : List (Nat × Value)} {L' : List Blk} {X' : List Res} (hv : K'.map (fun p => lookK K p.1) = K'.map (fun p => some p.2)) (hL : L'.Sublist L) (hX : X'.Sublist X)
  (k : OK P c Q A K' B I nx L' X') : OK P c Q A K B I nx L X := by
 intro a w ha hs
 refine k a w (ha.sub fun p hp => ?_) (hs.less hL hX)
 obtain ⟨i, hi, rfl⟩ := List.getElem_of_mem hp
 have h1 := congrArg (·[i]?) hv
 simp only [List.getElem?_map, List.getElem?_eq_getElem hi, Option.map_some, Option.some.injEq] at h1
 exact h1
theorem QN.sub {e : Exit} {K' : List (Nat × Value)} {L' : List Blk} {X' : List Res} (hv : K'.map (fun p => lookK K p.1) = K'.map (fun p => some p.2)) (hL : L'.Sublist L) (hX : X'.Sublist X)
  (k : QN Q e A K' B I nx L' X') : QN Q e A K B I nx L X := by
 intro a w ha hs
 refine k a w (ha.sub fun p hp => ?_) (hs.less hL hX)
 obtain ⟨i, hi, rfl⟩ := List.getElem_of_mem hp
 have h1 := congrArg (·[i]?) hv
 simp only [List.getElem?_map, List.getElem?_eq_getElem hi, Option.map_some, Option.some.injEq] at h1
 exact h1

variable {os : List Oper} {p : Nat} {fn : Func}
theorem RL.nil (h : os.drop p = []) (k : QN Q .normal A K B I nx L X) : RL P os Q p A K B I nx L X := by
 intro a w ha hs
 rw [h]
 exact k a w ha hs
theorem RL.sim (R : List (Addr × Value)) (hR : RFacts B I X R) (n : Nat) (locs : List Loc) {K' : List (Nat × Value)} {nx' : Nat} {L' : List Blk}
  (h : (simOps P R os A ((os.drop p).take n) locs K nx L []).map (fun x => (x.1, x.2.1, x.2.2.1)) = some (K', nx', L'))
  (he : (simOps P R os A ((os.drop p).take n) locs K nx L []).map (fun x => x.2.2.2.map (·.1)) = (simOps P R os A ((os.drop p).take n) locs K nx L []).map (fun x => x.2.2.2.map (·.2)))
  (k : RL P os Q (p + n) A K' B I nx' L' X) : RL P os Q p A K B I nx L X := by
 intro a w ha hs
 cases hsim : simOps P R os A ((os.drop p).take n) locs K nx L [] with
 | none => rw [hsim] at h; cases h
 | some x =>
  obtain ⟨K1, nx1, L1, es1⟩ := x
  rw [hsim] at h he
  simp only [Option.map_some, Option.some.injEq, Prod.mk.injEq] at h he
  obtain ⟨rfl, rfl, rfl⟩ := h
  have := simOps_sound hR (Q := Q) (rest := os.drop (p + n)) _ _ _ _ _ _ _ _ _ _ a w hsim (eqs_of_map he) ha hs (fun a' w' ha' hs' => k a' w' ha' hs')
  rwa [← List.drop_drop, List.take_append_drop] at this

/-- The same, told in other words; less. -/
theorem RL.norm {K' : List (Nat × Value)} {nx' : Nat} {L' : List Blk} {X' : List Res} (hK : K = K') (hn : nx = nx') (hL : L = L') (hX : X = X') (k : RL P os Q p A K' B I nx' L' X') : RL P os Q p A K B I nx L X := by
 subst hK; subst hn; subst hL; subst hX
 exact k
theorem RL.sub {K' : List (Nat × Value)} {L' : List Blk} {X' : List Res} (hv : K'.map (fun p => lookK K p.1) = K'.map (fun p => some p.2)) (hL : L'.Sublist L) (hX : X'.Sublist X)
  (k : RL P os Q p A K' B I nx L' X') : RL P os Q p A K B I nx L X := by
 intro a w ha hs
 refine k a w (ha.sub fun p hp => ?_) (hs.less hL hX)
 obtain ⟨i, hi, rfl⟩ := List.getElem_of_mem hp
 have h1 := congrArg (·[i]?) hv
 simp only [List.getElem?_map, List.getElem?_eq_getElem hi, Option.map_some, Option.some.injEq] at h1
 exact h1
/-- A Bool, both ways. -/
theorem RL.cases (b : Bool) (k1 : b = true → RL P os Q p A K B I nx L X) (k2 : b = false → RL P os Q p A K B I nx L X) : RL P os Q p A K B I nx L X := by
 cases b with
 | true => exact k1 rfl
 | false => exact k2 rfl
theorem drop_get {os : List Oper} {p : Nat} (h : (os[p]?).isSome = true) : os.drop p = os.getD p default :: os.drop (p + 1) := by
 obtain ⟨o, ho⟩ := Option.isSome_iff_exists.1 h
 obtain ⟨hp, rfl⟩ := List.getElem?_eq_some_iff.1 ho
 rw [List.drop_eq_getElem_cons hp]
 simp [List.getD_eq_getElem?_getD, List.getElem?_eq_getElem hp]

/-- May operation p be carried out, and are its operands known? -/
def ready (os : List Oper) (p : Nat) (K : List (Nat × Value)) (d : Option Tmp) : Bool :=
 match os[p]? with
 | none => false
 | some o => (wantedK os K o == some true) && (noSelect o.op && o.op.operands.toList.all (knownO K)) && (o.dst == d)

/-- One operation whose run is told beside; the world behind it as it comes out. -/
theorem RL.one (d : Option Tmp) (N : Value → World → Prop) (hl : ready os p K d = true)
  (h : ∀ w, Sat B I nx L X w → ∃ v w', (execOp (evalK K) (os.getD p default)).run P w = .ok (.value v) w' ∧ N v w')
  (k : ∀ v w', N v w' → ∀ a', Knows A (putK A K d v) a' → wpList P os.toArray Q (os.drop (p + 1)) a' w') : RL P os Q p A K B I nx L X := by
 intro a w ha hs
 unfold ready at hl
 split at hl
 ·cases hl
 ·rename_i o ho
  simp only [Bool.and_eq_true, beq_iff_eq, List.all_eq_true] at hl
  obtain ⟨⟨hw, hk1, hk2⟩, hd⟩ := hl
  have hg : os.getD p default = o := by rw [List.getD_eq_getElem?_getD, ho]; rfl
  rw [drop_get (by rw [ho]; rfl), hg]
  simp only [wpList]
  rw [if_pos (wantedK_spec ha hw)]
  refine .inl ?_
  unfold Oper.wp
  rw [ha.exec hk1 (fun x hx => hk2 x (by simpa using hx))]
  obtain ⟨v, w', hr, hN⟩ := h w hs
  rw [hg] at hr
  rw [hr, Oper.upon_value, hd]
  exact k v w' hN _ (ha.put d v)

/-- One operation that leaves the world as it is. -/
theorem RL.quiet {K' : List (Nat × Value)} (d : Option Tmp) (v : Value) (hl : ready os p K d = true) (hF : putK A K d v = K')
  (h : ∀ w, Sat B I nx L X w → (execOp (evalK K) (os.getD p default)).run P w = .ok (.value v) w)
  (k : RL P os Q (p + 1) A K' B I nx L X) : RL P os Q p A K B I nx L X :=
 RL.one d (fun u w' => u = v ∧ Sat B I nx L X w') hl (fun w hs => ⟨v, w, h w hs, rfl, hs⟩) (fun u w' hN a' ha' => by
  obtain ⟨rfl, hs⟩ := hN
  rw [hF] at ha'
  exact k a' w' ha' hs)

/-- A call: what the callee is, and with what. -/
theorem RL.resume {K' : List (Nat × Value)} {d : Option Tmp} {v : Value} {I' : Imm} {nx' : Nat} {L' : List Blk} {X' : List Res} {w' : World} (hK : putK A K d v = K') (hs : Sat B I' nx' L' X' w') (k : RL P os Q p A K' B I' nx' L' X') : ∀ a', Knows A (putK A K d v) a' → wpList P os.toArray Q (os.drop p) a' w' := by
 intro a' ha'
 rw [hK] at ha'
 exact k a' w' ha' hs
theorem RL.call (f : FuncId) (xs : List Value) (d : Option Tmp) (N : Value → World → Prop) (hl : ready os p K d = true)
  (h : (simQ P [] [] (execOp (evalK K) (os.getD p default)) .no []).map (·.1) = some (.enter f xs.toArray))
  (hc : ∀ w, Sat B I nx L X w → Calls P f xs.toArray w fun e w' => ∃ v, e = .returned v ∧ N v w')
  (k : ∀ v w', N v w' → ∀ a', Knows A (putK A K d v) a' → wpList P os.toArray Q (os.drop (p + 1)) a' w') : RL P os Q p A K B I nx L X := by
 intro a w ha hs
 unfold ready at hl
 split at hl
 ·cases hl
 ·rename_i o ho
  simp only [Bool.and_eq_true, beq_iff_eq, List.all_eq_true] at hl
  obtain ⟨⟨hw, hk1, hk2⟩, hd⟩ := hl
  have hg : os.getD p default = o := by rw [List.getD_eq_getElem?_getD, ho]; rfl
  rw [drop_get (by rw [ho]; rfl), hg]
  simp only [wpList]
  rw [if_pos (wantedK_spec ha hw)]
  refine .inl ?_
  unfold Oper.wp
  rw [ha.exec hk1 (fun x hx => hk2 x (by simpa using hx))]
  rw [hg] at h
  have hr : (execOp (evalK K) o).run P w = .ok (.enter f xs.toArray) w := by
   cases hsim : simQ P [] [] (execOp (evalK K) o) .no [] with
   | none => rw [hsim] at h; cases h
   | some x =>
    obtain ⟨x1, es1⟩ := x
    rw [hsim] at h
    simp only [Option.map_some, Option.some.injEq] at h
    subst h
    exact simQ_any _ _ _ _ hsim w
  rw [hr, Oper.upon_enter]
  refine (hc w hs).mono ?_
  rintro e w'' ⟨v, rfl, hN⟩
  show wpList P os.toArray Q (os.drop (p + 1)) (a.put o.dst v) w''
  rw [hd]
  exact k v w'' hN _ (ha.put d v)

/-- The same, with what the callee's contract says of the world before and the world behind. -/
theorem RL.callP (f : FuncId) (xs : List Value) (d : Option Tmp) (Post : World → Value → World → Prop) (hl : ready os p K d = true)
  (h : (simQ P [] [] (execOp (evalK K) (os.getD p default)) .no []).map (·.1) = some (.enter f xs.toArray))
  (hc : ∀ w, Sat B I nx L X w → Calls P f xs.toArray w fun e w' => ∃ v, e = .returned v ∧ Post w v w')
  (k : ∀ w v w', Sat B I nx L X w → Post w v w' → ∀ a', Knows A (putK A K d v) a' → wpList P os.toArray Q (os.drop (p + 1)) a' w') : RL P os Q p A K B I nx L X :=
 RL.call f xs d (fun v w' => ∃ w, Sat B I nx L X w ∧ Post w v w') hl h (fun w hs => (hc w hs).mono fun _ _ ⟨v, hv, hp⟩ => ⟨v, hv, w, hs, hp⟩) (fun v w' ⟨w, hs, hp⟩ => k w v w' hs hp)

/-! ### a call's end -/
/-- What a function hands back, by its slots. -/
def resultsK (fn : Func) (K : List (Nat × Value)) : Sem Value := do
 let vs ← fn.results.mapM fun
  | .tmp t => pure (evalK K (.tmp t))
  | .cell a t => do loadVar t (← asAddr (evalK K (.tmp a)))
 pure (if h : vs.size = 1 then vs[0] else .tuple vs)
def resKnown (K : List (Nat × Value)) (l : List ResultVar) : Bool :=
 l.all fun
  | .tmp t => (lookK K t).isSome
  | .cell a _ => (lookK K a).isSome
theorem mapM_congr_list {α β : Type} {f g : α → Sem β} : ∀ (l : List α), (∀ x ∈ l, f x = g x) → l.mapM f = l.mapM g
 | [], _ => rfl
 | x :: l, h => by
  rw [List.mapM_cons, List.mapM_cons, h x List.mem_cons_self, mapM_congr_list l (fun y hy => h y (List.mem_cons_of_mem _ hy))]
theorem results_eq (hk : resKnown K fn.results.toList = true) {a : Act} (ha : Knows A K a) : results fn a.tmps = resultsK fn K := by
 unfold results resultsK
 rw [Array.mapM_eq_mapM_toList, Array.mapM_eq_mapM_toList]
 rw [mapM_congr_list fn.results.toList (fun x hx => ?_)]
 unfold resKnown at hk
 have := (List.all_eq_true.1 hk) x hx
 cases x with
 | tmp t =>
  have he : a.tmps.getD t undef = evalK K (.tmp t) := ha.eval (o := .tmp t) this
  simp only [he]
 | cell p t =>
  have he : a.tmps.getD p undef = evalK K (.tmp p) := ha.eval (o := .tmp p) this
  simp only [he]

theorem QN.body {Rr : Ending → World → Prop} (hD : A.D = []) (R : List (Addr × Value)) (hR : RFacts B I X R) (loc : Loc) (v : Value) (hk : resKnown K fn.results.toList = true)
  (h : (simQ P R L (resultsK fn K) loc []).map (·.1) = some v)
  (he : (simQ P R L (resultsK fn K) loc []).map (fun x => x.2.map (·.1)) = (simQ P R L (resultsK fn K) loc []).map (fun x => x.2.map (·.2)))
  (k : ∀ w, Sat B I nx L X w → Rr (.returned v) w) (e : Exit) (hE : e = .normal ∨ e = .ret) :
  QN (bodyPost P fn Rr) e A K B I nx L X := by
 intro a w ha hs
 have hr := simQ_run hR loc v h he hs
 rcases hE with rfl | rfl <;> exact ⟨ha.defers.trans hD, v, by rw [results_eq hk ha]; exact hr, k w hs⟩
end

/-- A function's body, from its start. -/
theorem calls_body {P : Program} {f : FuncId} {fn : Func} {args : List Value} {w : World} {R : Ending → World → Prop} (hf : P.funcs[f]? = some fn) (hb : fn.body = some (cBody fn)) (n : Nat) (hn : fn.ntmps = n) (hle : Nat.ble args.length n = true) (B : Base) (I : Imm) (X : List Res)
  (K : List (Nat × Value)) (hK : K.map (fun p => args[p.1]?) = K.map (fun p => some p.2)) (hs : Sat B I w.heap.size [] X w)
  (h : OK P (cBody fn) (bodyPost P fn R) ⟨n, []⟩ K B I w.heap.size [] X) : Calls P f args.toArray w R := by
 refine calls_of_wp hf hb (h _ w ⟨?_, rfl, fun p hp => ?_⟩ hs)
 ·have := Nat.le_of_ble_eq_true hle
  simp only [Array.size_append, List.size_toArray, Array.size_replicate]
  omega
 ·obtain ⟨i, hi, rfl⟩ := List.getElem_of_mem hp
  have h1 := congrArg (·[i]?) hK
  simp only [List.getElem?_map, List.getElem?_eq_getElem hi, Option.map_some, Option.some.injEq] at h1
  have hlt := (List.getElem?_eq_some_iff.1 h1).1
  simp only
  rw [Array.getElem?_append_left (by simpa using hlt), List.getElem?_toArray]
  exact h1

theorem Sat.start (w : World) (S : Nat → Prop) (I : Imm) (hI : I.at_ w) : Sat ⟨w, S, I⟩ I w.heap.size [] [] w :=
 ⟨Evo.refl _ _, rfl, (fun b hb => by cases hb), (fun b hb => by cases hb), List.Pairwise.nil, (fun r hr => by cases hr), (fun r hr => by cases hr), List.Pairwise.nil, (fun r hr => by cases hr), hI, (fun a v _ b hb => by cases hb), (fun a v _ r hr => by cases hr), Imm.le_refl _, fun _ _ h => .inl h⟩

theorem Sat.lt {B : Base} {I : Imm} {nx : Nat} {L : List Blk} {X : List Res} {w : World} (h : Sat B I nx L X w) {b : Blk} (hb : b ∈ L) : b.g < nx := by
 have := h.blk b hb
 rw [← h.hnx]
 exact (Array.getElem?_eq_some_iff.1 this).1

/-- What a call that only makes memory leaves. -/
structure Got (w w' : World) (I J : Imm) (Y : List Res) : Prop where
 evo : Evo (fun _ => False) w w'
 le : I.le J
 im : J.at_ w'
 inew : ∀ a v, J a = some v → I a = some v ∨ w.heap.size ≤ a.block
 res : ∀ r ∈ Y, r.P J w'
 rown : ∀ r ∈ Y, ∀ k, r.fp k → w.heap.size ≤ k ∧ k < w'.heap.size
 rdis : Y.Pairwise (fun a b => ∀ k, a.fp k → ¬ b.fp k)
 imX : ∀ a v, J a = some v → ∀ r ∈ Y, ¬ r.fp a.block

/-- Out of the callee: what it knows at its end. -/
theorem Sat.got {w w' : World} {I J : Imm} {nx : Nat} {L : List Blk} {X : List Res} (h : Sat ⟨w, fun _ => False, I⟩ J nx L X w') (Y : List Res) (hY : Y.Sublist X) : Got w w' I J Y :=
 ⟨h.evo, h.le, h.im, fun a v ha => (h.inew a v ha).imp id (fun h1 => h1.elim id False.elim), fun r hr => h.res r (hY.subset hr), fun r hr k hk => by
  have := h.rown r (hY.subset hr) k hk
  refine ⟨?_, by rw [h.hnx]; exact this.1⟩
  rcases this.2 with h1 | h1
  ·exact h1
  ·exact h1.elim, h.rdis.sublist hY, fun a v ha r hr => h.imX a v ha r (hY.subset hr)⟩

/-- Into the caller. -/
theorem Sat.call {B : Base} {I J : Imm} {nx : Nat} {L : List Blk} {X Y : List Res} {w w' : World} (h : Sat B I nx L X w) (g : Got w w' I J Y) : Sat B J w'.heap.size L (X ++ Y) w' := by
 have hk : ∀ k, k < nx → w'.heap[k]? = w.heap[k]? := fun k hk => g.evo.blk k (by rw [h.hnx]; exact hk) (fun f => f)
 have hnx := h.hnx
 refine ⟨h.evo.trans (g.evo.mono (fun _ _ f => f.elim)), rfl, fun b hb => by rw [hk _ (h.lt hb)]; exact h.blk b hb, h.own, h.ne, ?_, ?_, ?_, ?_, g.im, ?_, ?_, Imm.le_trans h.le g.le, ?_⟩
 ·intro r hr
  rcases List.mem_append.1 hr with hr | hr
  ·exact r.ext I J w' g.le (r.stable I w w' (fun k hf => hk k (h.rown r hr k hf).1) (h.res r hr))
  ·exact g.res r hr
 ·intro r hr k hf
  rcases List.mem_append.1 hr with hr | hr
  ·have := h.rown r hr k hf
   exact ⟨Nat.lt_of_lt_of_le this.1 (by rw [← hnx]; exact g.evo.size), this.2⟩
  ·have := g.rown r hr k hf
   exact ⟨this.2, .inl (Nat.le_trans h.evo.size this.1)⟩
 ·rw [List.pairwise_append]
  refine ⟨h.rdis, g.rdis, fun a ha b hb k hk1 hk2 => ?_⟩
  have h1 := (h.rown a ha k hk1).1
  have h2 := (g.rown b hb k hk2).1
  omega
 ·intro r hr b hb hf
  rcases List.mem_append.1 hr with hr | hr
  ·exact h.rblk r hr b hb hf
  ·have h1 := (g.rown r hr _ hf).1
   have h2 := h.lt hb
   omega
 ·intro a v ha b hb
  rcases g.inew a v ha with h1 | h1
  ·exact h.imL a v h1 b hb
  ·have := h.lt hb
   omega
 ·intro a v ha r hr hf
  rcases List.mem_append.1 hr with hr | hr
  ·rcases g.inew a v ha with h1 | h1
   ·exact h.imX a v h1 r hr hf
   ·have := (h.rown r hr _ hf).1
    omega
  ·exact g.imX a v ha r hr hf
 ·intro a v ha
  rcases g.inew a v ha with h1 | h1
  ·exact h.inew a v h1
  ·exact .inr (.inl (Nat.le_trans h.evo.size h1))

end Go.Proofs.YtfecniimkgkmfaaGreat.RW
namespace Go.Proofs.YtfecniimkgkmfaaGreat.RW
open Go Go.RowKit

structure Ty (α : Type) where
 sz : Nat
 K : Imm → α → List Value → Prop
 len : ∀ {I x cs}, K I x cs → cs.length = sz
 one : ∀ {I x cs}, K I x cs → ∀ u ∈ cs, u.oneCell' = true
 ext : ∀ {I J : Imm} {x cs}, I.le J → K I x cs → K J x cs

/-- A row that is read: its cells never turn. -/
def Rd {α : Type} (d : Ty α) (I : Imm) (A : Option Addr) (xs : List α) : Prop :=
 xs.length ≤ 9223372036854775807 ∧ (xs ≠ [] → ∃ g o, A = some ⟨g, o, none⟩ ∧ ∀ j x, xs[j]? = some x → ∃ c, d.K I x c ∧ ∀ i u, c[i]? = some u → I ⟨g, o + j * d.sz + i, none⟩ = some u)

theorem Rd.ext {α : Type} {d : Ty α} {I J : Imm} {A : Option Addr} {xs : List α} (hIJ : I.le J) (h : Rd d I A xs) : Rd d J A xs :=
 ⟨h.1, fun hn => by
  obtain ⟨g, o, e, hc⟩ := h.2 hn
  refine ⟨g, o, e, fun j x hj => ?_⟩
  obtain ⟨c, hk, hcell⟩ := hc j x hj
  exact ⟨c, d.ext hIJ hk, fun i u hu => hIJ _ _ (hcell i u hu)⟩⟩
theorem Rd.nil {α : Type} (d : Ty α) (I : Imm) (A : Option Addr) : Rd d I A [] := ⟨Nat.zero_le _, fun h => absurd rfl h⟩
theorem Rd.get {α : Type} {d : Ty α} {I : Imm} {A : Option Addr} {xs : List α} (h : Rd d I A xs) (z : α) (i : Int) (h0 : 0 ≤ i) (h1 : i < (xs.length : Int)) :
  ∃ g o c, A = some ⟨g, o, none⟩ ∧ d.K I (xs.getD i.toNat z) c ∧ ∀ j u, c[j]? = some u → I ⟨g, o + i.toNat * d.sz + j, none⟩ = some u := by
 have hl : i.toNat < xs.length := by omega
 obtain ⟨g, o, e, hc⟩ := h.2 (by rintro rfl; simp at hl)
 obtain ⟨c, hk, hcell⟩ := hc i.toNat _ (List.getElem?_eq_getElem hl)
 refine ⟨g, o, c, e, ?_, hcell⟩
 rw [List.getD_eq_getElem?_getD, List.getElem?_eq_getElem hl]
 exact hk
theorem Rd.drop {α : Type} {d : Ty α} {I : Imm} {g o : Nat} {xs : List α} (h : Rd d I (some ⟨g, o, none⟩) xs) (n : Nat) : Rd d I (some ⟨g, o + n * d.sz, none⟩) (xs.drop n) := by
 refine ⟨Nat.le_trans (by simp) h.1, fun hn => ⟨g, o + n * d.sz, rfl, fun j x hj => ?_⟩⟩
 obtain ⟨g', o', e, hc⟩ := h.2 (by rintro rfl; simp at hn)
 injection e with e
 injection e with e1 e2
 subst e1; subst e2
 rw [List.getElem?_drop] at hj
 obtain ⟨c, hk, hcell⟩ := hc _ x hj
 refine ⟨c, hk, fun i u hu => ?_⟩
 have := hcell i u hu
 rw [Nat.add_mul, ← Nat.add_assoc] at this
 exact this
theorem Rd.take {α : Type} {d : Ty α} {I : Imm} {A : Option Addr} {xs : List α} (h : Rd d I A xs) (n : Nat) : Rd d I A (xs.take n) := by
 refine ⟨Nat.le_trans (by simp; omega) h.1, fun hn => ?_⟩
 obtain ⟨g, o, e, hc⟩ := h.2 (by rintro rfl; simp at hn)
 refine ⟨g, o, e, fun j x hj => hc j x ?_⟩
 rw [List.getElem?_take] at hj
 split at hj
 ·exact hj
 ·cases hj

namespace Ty
def scalar {α : Type} (enc : α → Value) (h1 : ∀ x, (enc x).oneCell' = true) : Ty α where
 sz := 1
 K := fun _ x cs => cs = [enc x]
 len := fun h => by rw [h]; rfl
 one := fun h u hu => by
  rw [h] at hu
  rw [List.mem_singleton.1 hu]
  exact h1 _
 ext := fun _ h => h
def int (k : IntKind) : Ty Int := scalar (Value.int k) (fun _ => rfl)
def bool : Ty Bool := scalar Value.bool (fun _ => rfl)
def string : Ty ByteArray := scalar Value.string (fun _ => rfl)
def slice {α : Type} (d : Ty α) : Ty (List α) where
 sz := 1
 K := fun I xs cs => ∃ A c, cs = [.slice A xs.length c] ∧ xs.length ≤ c ∧ Rd d I A xs
 len := by
  rintro I x cs ⟨A, c, rfl, _⟩
  rfl
 one := by
  rintro I x cs ⟨A, c, rfl, _⟩ u hu
  rw [List.mem_singleton.1 hu]
  rfl
 ext := by
  rintro I J x cs hIJ ⟨A, c, rfl, hl, hr⟩
  exact ⟨A, c, rfl, hl, hr.ext hIJ⟩
def pair {α β : Type} (a : Ty α) (b : Ty β) : Ty (α × β) where
 sz := a.sz + b.sz
 K := fun I x cs => ∃ c0 c1, cs = c0 ++ c1 ∧ a.K I x.1 c0 ∧ b.K I x.2 c1
 len := by
  rintro I x cs ⟨c0, c1, rfl, h0, h1⟩
  rw [List.length_append, a.len h0, b.len h1]
 one := by
  rintro I x cs ⟨c0, c1, rfl, h0, h1⟩ u hu
  rcases List.mem_append.1 hu with hu | hu
  ·exact a.one h0 u hu
  ·exact b.one h1 u hu
 ext := by
  rintro I J x cs hIJ ⟨c0, c1, rfl, h0, h1⟩
  exact ⟨c0, c1, rfl, a.ext hIJ h0, b.ext hIJ h1⟩
def iso {α β : Type} (d : Ty α) (f : β → α) : Ty β where
 sz := d.sz
 K := fun I x cs => d.K I (f x) cs
 len := d.len
 one := d.one
 ext := d.ext
/-- An array of n elements in line. -/
def arr {α : Type} (d : Ty α) : Nat → Ty (List α)
 | 0 =>
  {sz := 0
   K := fun _ xs cs => xs = [] ∧ cs = []
   len := by
    rintro I x cs ⟨_, rfl⟩
    rfl
   one := by
    rintro I x cs ⟨_, rfl⟩ u hu
    cases hu
   ext := fun _ h => h }
 | n + 1 =>
  {sz := d.sz + (arr d n).sz
   K := fun I xs cs => ∃ x r c0 c1, xs = x :: r ∧ cs = c0 ++ c1 ∧ d.K I x c0 ∧ (arr d n).K I r c1
   len := by
    rintro I x cs ⟨y, r, c0, c1, rfl, rfl, h0, h1⟩
    rw [List.length_append, d.len h0, (arr d n).len h1]
   one := by
    rintro I x cs ⟨y, r, c0, c1, rfl, rfl, h0, h1⟩ u hu
    rcases List.mem_append.1 hu with hu | hu
    ·exact d.one h0 u hu
    ·exact (arr d n).one h1 u hu
   ext := by
    rintro I J x cs hIJ ⟨y, r, c0, c1, rfl, rfl, h0, h1⟩
    exact ⟨y, r, c0, c1, rfl, rfl, d.ext hIJ h0, (arr d n).ext hIJ h1⟩ }
end Ty

/-! ### rows of the call's own -/
def Reps {α : Type} (d : Ty α) (I : Imm) : List α → List Value → Prop
 | [], cs => cs = []
 | x :: xs, cs => ∃ c0 c1, cs = c0 ++ c1 ∧ d.K I x c0 ∧ Reps d I xs c1
theorem Reps.len {α : Type} {d : Ty α} {I : Imm} : ∀ {xs : List α} {cs : List Value}, Reps d I xs cs → cs.length = xs.length * d.sz
 | [], cs, h => by rw [h]; simp
 | x :: xs, cs, h => by
  obtain ⟨c0, c1, rfl, h0, h1⟩ := h
  rw [List.length_append, d.len h0, Reps.len h1, List.length_cons, Nat.succ_mul, Nat.add_comm]
theorem Reps.one {α : Type} {d : Ty α} {I : Imm} : ∀ {xs : List α} {cs : List Value}, Reps d I xs cs → ∀ u ∈ cs, u.oneCell' = true
 | [], cs, h => by rw [h]; intro u hu; cases hu
 | x :: xs, cs, h => by
  obtain ⟨c0, c1, rfl, h0, h1⟩ := h
  intro u hu
  rcases List.mem_append.1 hu with hu | hu
  ·exact d.one h0 u hu
  ·exact Reps.one h1 u hu
theorem Reps.ext {α : Type} {d : Ty α} {I J : Imm} (hIJ : I.le J) : ∀ {xs : List α} {cs : List Value}, Reps d I xs cs → Reps d J xs cs
 | [], cs, h => h
 | x :: xs, cs, h => by
  obtain ⟨c0, c1, rfl, h0, h1⟩ := h
  exact ⟨c0, c1, rfl, d.ext hIJ h0, Reps.ext hIJ h1⟩
theorem Reps.append {α : Type} {d : Ty α} {I : Imm} : ∀ {xs ys : List α} {cs ds : List Value}, Reps d I xs cs → Reps d I ys ds → Reps d I (xs ++ ys) (cs ++ ds)
 | [], ys, cs, ds, h, k => by rw [h]; exact k
 | x :: xs, ys, cs, ds, h, k => by
  obtain ⟨c0, c1, rfl, h0, h1⟩ := h
  exact ⟨c0, c1 ++ ds, by rw [List.append_assoc], h0, Reps.append h1 k⟩
theorem Reps.get {α : Type} {d : Ty α} {I : Imm} : ∀ {xs : List α} {cs : List Value}, Reps d I xs cs → ∀ j x, xs[j]? = some x → ∃ c, d.K I x c ∧ ∀ i u, c[i]? = some u → cs[j * d.sz + i]? = some u
 | [], cs, h => by intro j x hj; cases hj
 | y :: xs, cs, h => by
  obtain ⟨c0, c1, rfl, h0, h1⟩ := h
  intro j x hj
  cases j with
  | zero =>
   injection hj with hj
   subst hj
   refine ⟨c0, h0, fun i u hu => ?_⟩
   have hi := (List.getElem?_eq_some_iff.1 hu).1
   rw [Nat.zero_mul, Nat.zero_add, List.getElem?_append_left hi]
   exact hu
  | succ j =>
   obtain ⟨c, hk, hc⟩ := Reps.get h1 j x hj
   refine ⟨c, hk, fun i u hu => ?_⟩
   rw [List.getElem?_append_right (by rw [d.len h0, Nat.succ_mul]; omega), d.len h0]
   have := hc i u hu
   rwa [show (j + 1) * d.sz + i - d.sz = j * d.sz + i from by rw [Nat.succ_mul]; omega]
theorem Reps.set {α : Type} {d : Ty α} {I : Imm} : ∀ {xs : List α} {cs : List Value}, Reps d I xs cs → ∀ (j : Nat) (x : α) (c : List Value), j < xs.length → d.K I x c → Reps d I (xs.set j x) (cs.take (j * d.sz) ++ c ++ cs.drop (j * d.sz + d.sz))
 | [], cs, h => by intro j x c hj; simp at hj
 | y :: xs, cs, h => by
  obtain ⟨c0, c1, rfl, h0, h1⟩ := h
  intro j x c hj hk
  cases j with
  | zero =>
   refine ⟨c, c1, ?_, hk, h1⟩
   rw [Nat.zero_mul, Nat.zero_add, List.take_zero, List.nil_append, List.drop_append_of_le_length (by rw [d.len h0]; exact Nat.le_refl _), List.drop_of_length_le (by rw [d.len h0]; exact Nat.le_refl _), List.nil_append]
  | succ j =>
   refine ⟨c0, c1.take (j * d.sz) ++ c ++ c1.drop (j * d.sz + d.sz), ?_, h0, Reps.set h1 j x c (by simpa using hj) hk⟩
   have e1 : (j + 1) * d.sz = c0.length + j * d.sz := by rw [d.len h0, Nat.succ_mul, Nat.add_comm]
   rw [e1, List.take_append, List.take_of_length_le (l := c0) (by omega), show c0.length + j * d.sz - c0.length = j * d.sz from by omega, List.drop_append, List.drop_of_length_le (l := c0) (by omega), show c0.length + j * d.sz + d.sz - c0.length = j * d.sz + d.sz from by omega, List.nil_append]
   simp only [List.append_assoc]

/-- A row of elements of type e that the call owns: its value is '.slice A xs.length c'. -/
def row {α : Type} (d : Ty α) (e : TypeId) (A : Option Addr) (c : Nat) (xs : List α) : Res where
 fp := fun k => ∃ a : Addr, A = some a ∧ a.block = k
 P := fun I w => ∃ cs, w.ownsRow 0 e d.sz (.slice A xs.length c) xs.length cs ∧ Reps d I xs cs
 stable := by
  rintro I w w' hk ⟨cs, ho, hr⟩
  refine ⟨cs, ⟨ho.1, ?_⟩, hr⟩
  rcases ho.2 with h | ⟨g, cap, cur, e1, hb, hg, r⟩
  ·exact .inl h
  ·refine .inr ⟨g, cap, cur, e1, hb, ?_, r⟩
   injection e1 with e1
   rw [hk g ⟨_, e1, rfl⟩]
   exact hg
 ext := by
  rintro I J w hIJ ⟨cs, ho, hr⟩
  exact ⟨cs, ho, hr.ext hIJ⟩

end Go.Proofs.YtfecniimkgkmfaaGreat.RW
namespace Go.Proofs.YtfecniimkgkmfaaGreat.RW
open Go Go.RowKit

/-- A row that the call owns: its value is '.slice A n c', its cells are cs. -/
def orow (e : TypeId) (sz : Nat) (A : Option Addr) (n c : Nat) (cs : List Value) : Res where
 fp := fun k => ∃ a : Addr, A = some a ∧ a.block = k
 P := fun _ w => w.ownsRow 0 e sz (.slice A n c) n cs
 stable := by
  rintro I w w' hk ho
  refine ⟨ho.1, ?_⟩
  rcases ho.2 with h | ⟨g, cap, cur, e1, hb, hg, r⟩
  ·exact .inl h
  ·refine .inr ⟨g, cap, cur, e1, hb, ?_, r⟩
   injection e1 with e1
   rw [hk g ⟨_, e1, rfl⟩]
   exact hg
 ext := fun _ _ _ _ h => h

section
variable {P : Program} {c : Code} {Q : Exit → Act → World → Prop} {A : Fr} {K : List (Nat × Value)} {B : Base} {I : Imm} {nx : Nat} {L : List Blk} {X : List Res} {os : List Oper} {p : Nat}

theorem Sat.own_P {w : World} (h : Sat B I nx L X w) {m : Nat} {e : TypeId} {sz : Nat} {A : Option Addr} {n c : Nat} {cs : List Value} (hm : X[m]? = some (orow e sz A n c cs)) : w.ownsRow 0 e sz (.slice A n c) n cs :=
 h.res _ (List.mem_of_getElem? hm)

/-- One piece of memory is written: it takes another's place. -/
theorem Sat.replace {w w' : World} (h : Sat B I nx L X w) {m : Nat} {r : Res} (hm : X[m]? = some r) (r' : Res)
  (h1 : w'.os = w.os) (h2 : w'.tape = w.tape) (h3 : w'.output = w.output) (h4 : w.heap.size ≤ w'.heap.size) (h5 : ∀ k, k < nx → ¬ r.fp k → w'.heap[k]? = w.heap[k]?)
  (hP : r'.P I w') (hfp : ∀ k, r'.fp k → r.fp k ∨ nx ≤ k) (hlt : ∀ k, r'.fp k → k < w'.heap.size) : Sat B I w'.heap.size L (X.set m r') w' := by
 have hrm := List.mem_of_getElem? hm
 obtain ⟨hml, hme⟩ := List.getElem?_eq_some_iff.1 hm
 have hnx := h.hnx
 have hmem : ∀ q ∈ X.set m r', q = r' ∨ ∃ (j : Nat) (hj : j < X.length), j ≠ m ∧ X[j] = q := by
  intro q hq
  obtain ⟨j, hj, hjq⟩ := List.getElem_of_mem hq
  rw [List.length_set] at hj
  rw [List.getElem_set] at hjq
  split at hjq
  ·exact .inl hjq.symm
  ·rename_i hne
   exact .inr ⟨j, hj, fun e => hne e.symm, hjq⟩
 have hdis : ∀ (j : Nat) (hj : j < X.length), j ≠ m → ∀ k, X[j].fp k → ¬ r.fp k := by
  intro j hj hne k hk hk'
  have hp := List.pairwise_iff_getElem.1 h.rdis
  rcases Nat.lt_or_gt_of_ne hne with hlt | hlt
  ·exact hp j m hj hml hlt k hk (by rw [hme]; exact hk')
  ·exact hp m j hml hj hlt k (by rw [hme]; exact hk') hk
 have hoB : ∀ k, r.fp k → B.w0.heap.size ≤ k ∨ B.S k := fun k hk => (h.rown r hrm k hk).2
 refine ⟨⟨h1.trans h.evo.os, h2.trans h.evo.tape, h3.trans h.evo.output, Nat.le_trans h.evo.size h4, fun k hk hs => ?_⟩, rfl, ?_, h.own, h.ne, ?_, ?_, ?_, ?_, ?_, h.imL, ?_, h.le, h.inew⟩
 ·have hnr : ¬ r.fp k := fun e => by
   rcases hoB k e with h6 | h6
   ·omega
   ·exact hs h6
  rw [h5 k (by rw [← hnx]; exact Nat.lt_of_lt_of_le hk h.evo.size) hnr]
  exact h.evo.blk k hk hs
 ·intro b hb
  rw [h5 b.g (h.lt hb) (h.rblk r hrm b hb)]
  exact h.blk b hb
 ·intro q hq
  rcases hmem q hq with rfl | ⟨j, hj, hne, rfl⟩
  ·exact hP
  ·exact X[j].stable I w w' (fun k hk => h5 k (h.rown _ (List.getElem_mem hj) k hk).1 (hdis j hj hne k hk)) (h.res _ (List.getElem_mem hj))
 ·intro q hq k hk
  rcases hmem q hq with rfl | ⟨j, hj, hne, rfl⟩
  ·refine ⟨hlt k hk, ?_⟩
   rcases hfp k hk with h6 | h6
   ·exact hoB k h6
   ·left
    have := h.evo.size
    omega
  ·have := h.rown _ (List.getElem_mem hj) k hk
   exact ⟨by omega, this.2⟩
 ·rw [List.pairwise_iff_getElem]
  intro x y hx hy hxy
  rw [List.length_set] at hx hy
  have hp := List.pairwise_iff_getElem.1 h.rdis x y hx hy hxy
  rw [List.getElem_set, List.getElem_set]
  by_cases e1 : m = x
  ·subst e1
   rw [if_pos rfl, if_neg (by omega)]
   intro k hk hk'
   rcases hfp k hk with h6 | h6
   ·exact hdis y hy (by omega) k hk' h6
   ·have := (h.rown _ (List.getElem_mem hy) k hk').1
    omega
  ·rw [if_neg e1]
   by_cases e2 : m = y
   ·subst e2
    rw [if_pos rfl]
    intro k hk hk'
    rcases hfp k hk' with h6 | h6
    ·exact hdis x hx (by omega) k hk h6
    ·have := (h.rown _ (List.getElem_mem hx) k hk).1
     omega
   ·rw [if_neg e2]
    exact hp
 ·intro q hq b hb hk
  rcases hmem q hq with rfl | ⟨j, hj, hne, rfl⟩
  ·rcases hfp _ hk with h6 | h6
   ·exact h.rblk r hrm b hb h6
   ·have := h.lt hb
    omega
  ·exact h.rblk _ (List.getElem_mem hj) b hb hk
 ·intro a v ha
  have hc := h.im a v ha
  rw [← hc]
  exact look_of_block (w := w) (h5 _ (by rw [← hnx]; exact look_lt hc) (h.imX a v ha r hrm))
 ·intro a v ha q hq hk
  rcases hmem q hq with rfl | ⟨j, hj, hne, rfl⟩
  ·rcases hfp _ hk with h6 | h6
   ·exact h.imX a v ha r hrm h6
   ·have := look_lt (h.im a v ha)
    omega
  ·exact h.imX a v ha _ (List.getElem_mem hj) hk

/-! ### addresses of elements -/
theorem run_indexAt_slice {T e : TypeId} {sz : Nat} (hu : P.underlying T = some (.slice e)) (hz : (P.info? e).map (·.size) = some sz) (k : IntKind) (i : Int) (g o n c : Nat) (h0 : 0 ≤ i) (h1 : i < (n : Int)) (w : World) :
  (Instr.indexAt T (.slice (some ⟨g, o, none⟩) n c) (.int k i)).run P w = .ok (.pointer (some ⟨g, o + i.toNat * sz, none⟩)) w := by
 obtain ⟨inf, hi, hsz⟩ := Option.map_eq_some_iff.1 hz
 have hadd : (⟨g, o, none⟩ : Addr).add (i.toNat * sz) = ⟨g, o + i.toNat * sz, none⟩ := by
  unfold Addr.add
  split
  ·rename_i h; rw [h]; rfl
  ·rfl
 simp [Instr.indexAt, asIntOf, run_underlying hu, sizeOf, typeInfo, hi, h0, h1, hsz, hadd]
theorem run_indexAt_array {T e : TypeId} {sz n : Nat} (hu : P.underlying T = some (.array n e)) (hz : (P.info? e).map (·.size) = some sz) (k : IntKind) (i : Int) (g o : Nat) (h0 : 0 ≤ i) (h1 : i < (n : Int)) (w : World) :
  (Instr.indexAt T (.pointer (some ⟨g, o, none⟩)) (.int k i)).run P w = .ok (.pointer (some ⟨g, o + i.toNat * sz, none⟩)) w := by
 obtain ⟨inf, hi, hsz⟩ := Option.map_eq_some_iff.1 hz
 have hadd : (⟨g, o, none⟩ : Addr).add (i.toNat * sz) = ⟨g, o + i.toNat * sz, none⟩ := by
  unfold Addr.add
  split
  ·rename_i h; rw [h]; rfl
  ·rfl
 simp [Instr.indexAt, Instr.sureAddr, asIntOf, run_underlying hu, sizeOf, typeInfo, hi, h0, h1, hsz, hadd]

def toNext (s : Sem Value) : Sem Next := s.bind fun v => .pure (.value v)
theorem run_toNext {s : Sem Value} {w w' : World} {v : Value} (h : s.run P w = .ok v w') : (toNext s).run P w = .ok (.value v) w' := by
 unfold toNext
 rw [Sem.run_bind', h]
 rfl

theorem RL.idx {K' : List (Nat × Value)} {T e : TypeId} (sz : Nat) (k : IntKind) (i : Int) {S : Option Addr} {g o : Nat} (hA : S = some ⟨g, o, none⟩) (n cap : Nat) (d : Option Tmp)
  (hl : ready os p K d = true)
  (hx : execOp (evalK K) (os.getD p default) = toNext (Instr.indexAt T (.slice S n cap) (.int k i)))
  (hu : P.underlying T = some (.slice e)) (hz : (P.info? e).map (·.size) = some sz) (h0 : 0 ≤ i) (h1 : i < (n : Int)) (hF : putK A K d (.pointer (some ⟨g, o + i.toNat * sz, none⟩)) = K')
  (kk : RL P os Q (p + 1) A K' B I nx L X) : RL P os Q p A K B I nx L X :=
 RL.quiet d _ hl hF (fun w _ => by rw [hx, hA]; exact run_toNext (run_indexAt_slice hu hz k i g o n cap h0 h1 w)) kk
theorem RL.idxArr {K' : List (Nat × Value)} {T e : TypeId} (sz : Nat) (k : IntKind) (i : Int) (g o n : Nat) (d : Option Tmp)
  (hl : ready os p K d = true)
  (hx : execOp (evalK K) (os.getD p default) = toNext (Instr.indexAt T (.pointer (some ⟨g, o, none⟩)) (.int k i)))
  (hu : P.underlying T = some (.array n e)) (hz : (P.info? e).map (·.size) = some sz) (h0 : 0 ≤ i) (h1 : i < (n : Int)) (hF : putK A K d (.pointer (some ⟨g, o + i.toNat * sz, none⟩)) = K')
  (kk : RL P os Q (p + 1) A K' B I nx L X) : RL P os Q p A K B I nx L X :=
 RL.quiet d _ hl hF (fun w _ => by rw [hx]; exact run_toNext (run_indexAt_array hu hz k i g o h0 h1 w)) kk

/-! ### numbers -/
/-- The byte of a string at i. -/
def sb (s : ByteArray) (i : Int) : Int := match s[i.toNat]? with | some b => b.toNat | none => 0
/-! ### an append to a row of the call's own -/
theorem RL.append {T e : TypeId} {S S2 : Option Addr} (sz bytes : Nat) (ty : TypeId) (n cap m c2 : Nat) (cs news : List Value) (xi : Nat) (d : Option Tmp)
  (hl : ready os p K d = true)
  (hx : execOp (evalK K) (os.getD p default) = toNext (Builtin.append_ #[T, T] ty #[.slice S n cap, .slice S2 m c2]))
  (hu : P.underlying T = some (.slice e)) (inf : TypeInfo) (hi : P.info? e = some inf) (z : Value) (hz : inf.zero = some z) (hsz : inf.size = sz) (hby : inf.bytes = bytes) (hzs : z.cells.size = sz) (hsz0 : 0 < sz)
  (hX : X[xi]? = some (orow e sz S n cap cs))
  (hlen : news.length = m * sz) (hone : ∀ u ∈ news, u.oneCell' = true)
  (hn : ∀ w, Sat B I nx L X w → ∃ a : Addr, S2 = some a ∧ ∀ j u, news[j]? = some u → w.cell? (a.add j) = some u)
  (hbytes : (n + m) * bytes ≤ 140737488355328) (hmax : n + m ≤ 9223372036854775807)
  (kk : ∀ (S' : Option Addr) (c' nx' : Nat), RL P os Q (p + 1) A (putK A K d (.slice S' (n + m) c')) B I nx' L (X.set xi (orow e sz S' (n + m) c' (cs ++ news)))) : RL P os Q p A K B I nx L X := by
 refine RL.one d (fun v w' => ∃ (S' : Option Addr) (c' : Nat), v = .slice S' (n + m) c' ∧ Sat B I w'.heap.size L (X.set xi (orow e sz S' (n + m) c' (cs ++ news))) w') hl (fun w hs => ?_) (fun v w' hK a' ha' => ?_)
 ·obtain ⟨a, rfl, hcells⟩ := hn w hs
  obtain ⟨v', w', hr, ho, hg, _, hb⟩ := run_append_own_at (P := P) w 0 T ty e inf z sz bytes hu hi hz hsz hby hzs hsz0 (.slice S n cap) n cs (hs.own_P hX) a m c2 news hlen hcells hone (by simp only [maxLen]; omega) hbytes (Nat.zero_le _)
  have hv : ∃ S' c', v' = .slice S' (n + m) c' := by
   rcases ho.2 with ⟨h1, h2⟩ | ⟨g, cap', cur, h1, _⟩
   ·exact ⟨none, 0, by rw [h1, h2]⟩
   ·exact ⟨_, _, h1⟩
  obtain ⟨S', c', rfl⟩ := hv
  refine ⟨_, w', by rw [hx]; exact run_toNext hr, S', c', rfl, ?_⟩
  have hfp : ∀ k, (orow e sz S' (n + m) c' (cs ++ news)).fp k → (Value.slice S' (n + m) c').ownBlock = some k := by
   rintro k ⟨a', rfl, rfl⟩
   rfl
  refine hs.replace hX (orow e sz S' (n + m) c' (cs ++ news)) hg.os hg.tape hg.output hg.size (fun k hk hf => hg.block k (by rw [hs.hnx]; exact hk) ?_) ho (fun k hk => ?_) (fun k hk => (ho.lt k (hfp k hk)).2)
  ·intro e1
   apply hf
   cases S with
   | none => simp [Value.ownBlock] at e1
   | some a' =>
    simp only [Value.ownBlock, Option.some.injEq] at e1
    exact ⟨a', rfl, e1.symm⟩
  ·have h1 := hfp k hk
   rcases hb with h2 | h2
   ·left
    rw [h1] at h2
    cases S with
    | none => simp [Value.ownBlock] at h2
    | some a' =>
     simp only [Value.ownBlock, Option.some.injEq] at h2
     exact ⟨a', rfl, h2.symm⟩
   ·right
    rw [h1] at h2
    injection h2 with h2
    rw [h2, hs.hnx]
    exact Nat.le_refl _
 ·obtain ⟨S', c', rfl, hs⟩ := hK
  exact kk S' c' _ a' w' ha' hs

/-- What is appended never turns. -/
theorem news_rd {α : Type} {d : Ty α} {w : World} (hs : Sat B I nx L X w) {A : Option Addr} {xs : List α} (h : Rd d I A xs) (hne : xs ≠ []) : ∃ cs, Reps d I xs cs ∧ ∃ a : Addr, A = some a ∧ ∀ j u, cs[j]? = some u → w.cell? (a.add j) = some u := by
 obtain ⟨g, o, rfl, hc⟩ := h.2 hne
 have key : ∀ (ys : List α) (n0 : Nat), (∀ j x, ys[j]? = some x → ∃ c, d.K I x c ∧ ∀ i u, c[i]? = some u → I ⟨g, o + (n0 + j) * d.sz + i, none⟩ = some u) → ∃ cs, Reps d I ys cs ∧ ∀ j u, cs[j]? = some u → I ⟨g, o + n0 * d.sz + j, none⟩ = some u := by
  intro ys
  induction ys with
  | nil => intro n0 _; exact ⟨[], rfl, fun j u hu => by simp at hu⟩
  | cons y ys ih =>
   intro n0 hy
   obtain ⟨c0, hk0, hc0⟩ := hy 0 y rfl
   obtain ⟨c1, hk1, hc1⟩ := ih (n0 + 1) (fun j x hj => by
    have := hy (j + 1) x hj
    rwa [show n0 + (j + 1) = n0 + 1 + j from by omega] at this)
   refine ⟨c0 ++ c1, ⟨c0, c1, rfl, hk0, hk1⟩, fun j u hu => ?_⟩
   rcases Nat.lt_or_ge j c0.length with hlt | hge
   ·rw [List.getElem?_append_left hlt] at hu
    exact hc0 j u hu
   ·rw [List.getElem?_append_right hge] at hu
    have := hc1 _ u hu
    have hl := d.len hk0
    rwa [show o + (n0 + 1) * d.sz + (j - c0.length) = o + n0 * d.sz + j from by rw [Nat.succ_mul]; omega] at this
 obtain ⟨cs, hr, hcells⟩ := key xs 0 (fun j x hj => by
  have := hc j x hj
  rwa [show 0 + j = j from by omega])
 refine ⟨cs, hr, _, rfl, fun j u hu => (look_cell (by unfold Addr.add; split <;> rfl)).symm.trans (hs.im _ _ ?_)⟩
 have hadd : (⟨g, o, none⟩ : Addr).add j = ⟨g, o + j, none⟩ := by
  unfold Addr.add
  split
  ·rename_i h; rw [h]; rfl
  ·rfl
 rw [hadd]
 have := hcells j u hu
 rwa [Nat.zero_mul, Nat.add_zero] at this
end

theorem gotNil1 {w w' : World} {I J : Imm} {e : TypeId} {sz : Nat} (h : Got w w' I J []) : Got w w' I J [orow e sz none 0 0 []] :=
 ⟨h.evo, h.le, h.im, h.inew, (fun r hr => by rw [List.mem_singleton.1 hr]; exact World.ownsRow_nil w' 0 e sz), (fun r hr k hk => by rw [List.mem_singleton.1 hr] at hk; obtain ⟨a, ha, _⟩ := hk; cases ha), List.pairwise_singleton _ _,
  (fun a v _ r hr hk => by rw [List.mem_singleton.1 hr] at hk; obtain ⟨a, ha, _⟩ := hk; cases ha)⟩

/-! ### elements -/
section
variable {I : Imm} {A : Option Addr}
theorem scalar_at {α : Type} (z : α) {enc : α → Value} {h1 : ∀ x, (enc x).oneCell' = true} {xs : List α} (h : Rd (Ty.scalar enc h1) I A xs) (i : Int) (h0 : 0 ≤ i) (h2 : i < (xs.length : Int)) :
  ∃ g o, A = some ⟨g, o, none⟩ ∧ ∀ j u, [enc (xs.getD i.toNat z)][j]? = some u → I ⟨g, o + i.toNat * 1 + j, none⟩ = some u := by
 obtain ⟨g, o, c, e, hk, hc⟩ := h.get z i h0 h2
 have hk' : c = [enc (xs.getD i.toNat z)] := hk
 subst hk'
 exact ⟨g, o, e, hc⟩
end
theorem Ty.int_at {k : IntKind} {I : Imm} {A : Option Addr} {xs : List Int} (h : Rd (Ty.int k) I A xs) (i : Int) (h0 : 0 ≤ i) (h2 : i < (xs.length : Int)) : ∃ g o, A = some ⟨g, o, none⟩ ∧ ∀ j u, [Value.int k (xs.getD i.toNat 0)][j]? = some u → I ⟨g, o + i.toNat * 1 + j, none⟩ = some u := scalar_at 0 h i h0 h2
/-! ### numbers, as the plain functions name them -/
def W (k : IntKind) (x : Int) : Int := k.wrap x
def bAnd (k : IntKind) (x y : Int) : Int := k.wrap ((BitVec.ofInt k.bits x &&& BitVec.ofInt k.bits y).toNat : Int)
def bOr (k : IntKind) (x y : Int) : Int := k.wrap ((BitVec.ofInt k.bits x ||| BitVec.ofInt k.bits y).toNat : Int)
def bXor (k : IntKind) (x y : Int) : Int := k.wrap ((BitVec.ofInt k.bits x ^^^ BitVec.ofInt k.bits y).toNat : Int)
def bClr (k : IntKind) (x y : Int) : Int := k.wrap ((BitVec.ofInt k.bits x &&& ~~~ BitVec.ofInt k.bits y).toNat : Int)
def iMax (x y : Int) : Int := if y > x then y else x
def iMin (x y : Int) : Int := if y < x then y else x

end Go.Proofs.YtfecniimkgkmfaaGreat.RW
namespace Go.Proofs.YtfecniimkgkmfaaGreat.RW
open Go Go.RowKit

/-- What only reads, at a world where the known blocks and cells hold. -/
theorem simQ_at {α : Type} {P : Program} {L : List Blk} {R : List (Addr × Value)} {w : World} (hL : ∀ b ∈ L, w.heap[b.g]? = some (.cells b.cs.toArray b.ty (0, 0))) (hR : ∀ r ∈ R, w.cell? r.1 = some r.2) (s : Sem α) :
  ∀ (loc : Loc) (es : List (Nat × Nat)) (x : α) (es' : List (Nat × Nat)), simQ P R L s loc es = some (x, es') → eqs es' → s.run P w = .ok x w := by
 induction s with
 | pure a => intro loc es x es' h _; simp only [simQ, Option.some.injEq, Prod.mk.injEq] at h; obtain ⟨rfl, rfl⟩ := h; rfl
 | load m a k ih =>
  intro loc es x es' h he
  cases loc with
  | no => simp [simQ] at h
  | l i =>
   simp only [simQ] at h
   split at h
   ·cases h
   ·rename_i b hb
    split at h
    ·cases h
    ·rename_i hsp
     split at h
     ·cases h
     ·rename_i v hv
      have hblk : a.block = b.g := he (a.block, b.g) (simQ_mono _ _ _ _ _ h _ List.mem_cons_self)
      have hc : w.cell? a = some v := by
       unfold World.cell?
       rw [hblk, hL b (List.mem_of_getElem? hb)]
       simp [hsp, hv]
      simp only [Sem.run, hc]
      exact ih _ _ _ _ _ h he
  | r j =>
   simp only [simQ] at h
   split at h
   ·cases h
   ·rename_i q v hq
    split at h
    ·rename_i hsa hsq
     have h1 : a.block = q.block := he (a.block, q.block) (simQ_mono _ _ _ _ _ h _ List.mem_cons_self)
     have h2 : a.off = q.off := he (a.off, q.off) (simQ_mono _ _ _ _ _ h _ (List.mem_cons_of_mem _ List.mem_cons_self))
     have haq : a = q := by
      cases a; cases q
      simp only at h1 h2 hsa hsq
      rw [h1, h2, hsa, hsq]
     have hc := hR (q, v) (List.mem_of_getElem? hq)
     simp only at hc
     simp only [Sem.run, haq, hc]
     exact ih _ _ _ _ _ h he
    ·cases h
 | program k ih => intro loc es x es' h he; simp only [simQ] at h; exact ih _ _ _ _ _ h he
 | mark m k ih => intro loc es x es' h he; simp only [simQ] at h; exact ih _ _ _ _ h he
 | _ => intro loc es x es' h he; simp [simQ] at h

/-- One operation: it hands back a value, or it calls. -/
def Does (P : Program) (s : Sem Next) (w : World) (N : Value → World → Prop) : Prop :=
 (∃ v w', (s.run P w = .ok (.value v) w' ∨ (s.run P w = .ok .skip w' ∧ v = undef)) ∧ N v w') ∨ (∃ f xs, s.run P w = .ok (.enter f xs) w ∧ Calls P f xs w fun e w' => ∃ v, e = .returned v ∧ N v w')

/-- What isn't known of a value ahead of the call that makes it: addresses, capacities, cells. -/
abbrev Wt := Nat → Option Addr × Nat × List Value
def upd (u : Nat → Wt) (i : Nat) (v : Wt) : Nat → Wt := fun j => bif Nat.beq j i then v else u j
theorem beq_self (i : Nat) : Nat.beq i i = true := Nat.beq_refl i
theorem beq_ne {i j : Nat} (h : j ≠ i) : Nat.beq j i = false := by
 cases e : Nat.beq j i with
 | false => rfl
 | true => exact absurd (Nat.eq_of_beq_eq_true e) h
theorem upd_self (u : Nat → Wt) (i : Nat) (v : Wt) : upd u i v i = v := by unfold upd; rw [beq_self]; rfl
theorem upd_ne (u : Nat → Wt) {i j : Nat} (v : Wt) (h : j ≠ i) : upd u i v j = u j := by unfold upd; rw [beq_ne h]; rfl
def dset (D : Nat → Bool) (i : Nat) : Nat → Bool := fun j => bif Nat.beq j i then true else D j
theorem dset_self (D : Nat → Bool) (i : Nat) : dset D i i = true := by unfold dset; rw [beq_self]; rfl
theorem dset_ne (D : Nat → Bool) {i j : Nat} (h : j ≠ i) : dset D i j = D j := by unfold dset; rw [beq_ne h]; rfl
def lk {α : Type} : List (Nat × α) → Nat → Option α
 | [], _ => none
 | (j, a) :: r, i => bif Nat.beq j i then some a else lk r i
theorem lk_mem {α : Type} {i : Nat} {a : α} : ∀ {l : List (Nat × α)}, lk l i = some a → (i, a) ∈ l
 | [], h => by cases h
 | (j, b) :: r, h => by
  simp only [lk] at h
  cases e : Nat.beq j i with
  | true =>
   rw [e] at h
   injection h with h
   have := Nat.eq_of_beq_eq_true e
   subst this; subst h
   exact List.mem_cons_self
  | false =>
   rw [e] at h
   exact List.mem_cons_of_mem _ (lk_mem h)

/-- The operations in the text's order: the values, the frame; those of vl by u, those of gl as given. -/
def qSim (P : Program) (R : List (Addr × Value)) (L : List Blk) (os : List Oper) (A : Fr) (vl : List (Nat × (Wt → Value))) (gl : List (Nat × ((Nat → Wt) → Value))) (u : Nat → Wt) : List Loc → Nat → List Oper → List (Nat × Value) → Option (List Value × List (Nat × Value) × List (Nat × Nat))
 | _, _, [], K => some ([], K, [])
 | locs, i, o :: rest, K =>
  match wantedK os K o with
  | none => none
  | some false =>
   match lk vl i with
   | some _ => none
   | none =>
    match qSim P R L os A vl gl u (locs.drop 1) (i + 1) rest (putK A K o.dst undef) with
    | none => none
    | some (vs, K', es) => some (undef :: vs, K', es)
  | some true =>
   match noSelect o.op && o.op.operands.toList.all (knownO K) with
   | false => none
   | true =>
    match lk vl i with
    | some f =>
     match qSim P R L os A vl gl u (locs.drop 1) (i + 1) rest (putK A K o.dst (f (u i))) with
     | none => none
     | some (vs, K', es) => some (f (u i) :: vs, K', es)
    | none =>
     match lk gl i with
     | some f =>
      match qSim P R L os A vl gl u (locs.drop 1) (i + 1) rest (putK A K o.dst (f u)) with
      | none => none
      | some (vs, K', es) => some (f u :: vs, K', es)
     | none =>
      match simQ P R L (execOp (evalK K) o) (locs.headD .no) [] with
      | some (.value v, es1) =>
       match qSim P R L os A vl gl u (locs.drop 1) (i + 1) rest (putK A K o.dst v) with
       | none => none
       | some (vs, K', es) => some (v :: vs, K', es1 ++ es)
      | _ => none

/-- What each operation comes behind, as bits. -/
def ancStep (acc : List Nat) (o : Oper) : Nat := o.after.toList.foldr (fun e m => bif Region.binds .any e then (acc.getD e.on 0 ||| (1 <<< e.on)) ||| m else m) 0
def ancs : List Oper → List Nat → List Nat
 | [], acc => acc
 | o :: r, acc => ancs r (acc ++ [ancStep acc o])
/-- Does operation i come behind operation j, whatever the order? -/
def behind (an : List Nat) (i j : Nat) : Bool := (an.getD i 0).testBit j

def dstOf (os : List Oper) (i : Nat) : Option Tmp := (os[i]?).bind (·.dst)
def guardTmp (os : List Oper) (o : Oper) : List Tmp := match o.guard with | none => [] | some (j, _) => (dstOf os j).toList
def readTmps (os : List Oper) (o : Oper) : List Tmp := o.op.operands.toList.filterMap (fun | .tmp t => some t | _ => none) ++ guardTmp os o

/-- Each slot that operation i reads is written ahead of it, or behind it, in every order. -/
def readsOk (os : List Oper) (an : List Nat) (t i : Nat) (o : Oper) : Bool :=
 (readTmps os o).all fun x => (List.range t).all fun j => dstOf os j != some x || (if j < i then behind an i j else behind an j i)
/-- Two writers of one slot: none. -/
def dstsOk (os : List Oper) (t : Nat) : Bool := (List.range t).all fun i => (List.range t).all fun j => i == j || dstOf os i == none || dstOf os i != dstOf os j
def tailOk (os : List Oper) (an : List Nat) (t : Nat) : Bool :=
 (List.range os.length).all fun q => q < t ||
  match os[q]? with
  | none => false
  | some o => o.after.toList.all (fun e => !Region.binds .any e || decide (e.on < q)) &&
    (if q = t then (List.range t).all fun i => behind an q i else o.after.toList.any fun e => Region.binds .any e && e.on == q - 1)
def drawOk (os : List Oper) (an : List Nat) (t : Nat) : Bool :=
 decide (t ≤ os.length) && (List.range t).all (fun i => match os[i]? with | none => false | some o => readsOk os an t i o && noSelect o.op && o.after.toList.all fun e => !Region.binds .any e || decide (e.on < i)) &&
 dstsOk os t && tailOk os an t

/-! ### the frame, operation by operation -/
def foldPut (A : Fr) : List (Nat × Value) → List Oper → List Value → List (Nat × Value)
 | K, o :: l, v :: vs => foldPut A (putK A K o.dst v) l vs
 | K, _, _ => K

theorem putK_mem {A : Fr} {K : List (Nat × Value)} {d : Option Tmp} {v : Value} {p : Nat × Value} (h : p ∈ putK A K d v) : (d = some p.1 ∧ p.2 = v ∧ p.1 < A.n) ∨ (p ∈ K ∧ d ≠ some p.1) := by
 cases d with
 | none => exact .inr ⟨h, by simp⟩
 | some d =>
  simp only [putK] at h
  split at h
  ·rename_i hd
   rcases List.mem_cons.1 h with rfl | h
   ·exact .inl ⟨rfl, rfl, hd⟩
   ·obtain ⟨h1, h2⟩ := dropK_mem h
    exact .inr ⟨h1, fun e => h2 (by injection e with e; exact e.symm)⟩
  ·obtain ⟨h1, h2⟩ := dropK_mem h
   exact .inr ⟨h1, fun e => h2 (by injection e with e; exact e.symm)⟩

theorem foldPut_mem {A : Fr} : ∀ (l : List Oper) (vs : List Value) (K : List (Nat × Value)) (p : Nat × Value), vs.length = l.length → p ∈ foldPut A K l vs →
  (∃ (j : Nat) (o : Oper), l[j]? = some o ∧ o.dst = some p.1 ∧ vs[j]? = some p.2 ∧ p.1 < A.n ∧ ∀ (j' : Nat) (o' : Oper), j < j' → l[j']? = some o' → o'.dst ≠ some p.1) ∨ (p ∈ K ∧ ∀ (j : Nat) (o : Oper), l[j]? = some o → o.dst ≠ some p.1)
 | [], vs, K, p, _, h => .inr ⟨by cases vs <;> exact h, fun j o e => by cases e⟩
 | o :: l, [], K, p, hl, h => by cases hl
 | o :: l, v :: vs, K, p, hl, h => by
  rcases foldPut_mem l vs _ p (by simpa using hl) h with ⟨j, o', h1, h2, h3, h4, h5⟩ | ⟨h1, h2⟩
  ·refine .inl ⟨j + 1, o', h1, h2, h3, h4, fun j' o'' hj hl' => ?_⟩
   cases j' with
   | zero => omega
   | succ j' => exact h5 j' o'' (by omega) hl'
  ·rcases putK_mem h1 with ⟨e1, e2, e3⟩ | ⟨e1, e2⟩
   ·refine .inl ⟨0, o, rfl, e1, by rw [e2]; rfl, e3, fun j' o'' hj hl' => ?_⟩
    cases j' with
    | zero => omega
    | succ j' => exact h2 j' o'' hl'
   ·refine .inr ⟨e1, fun j o' hj => ?_⟩
    cases j with
    | zero => injection hj with hj; subst hj; exact e2
    | succ j => exact h2 j o' hj

/-- What the walk in the text's order says of each operation. -/
def StepOk (P : Program) (R : List (Addr × Value)) (L : List Blk) (os : List Oper) (vl : List (Nat × (Wt → Value))) (gl : List (Nat × ((Nat → Wt) → Value))) (u : Nat → Wt) (es : List (Nat × Nat)) (i : Nat) (o : Oper) (K : List (Nat × Value)) (v : Value) : Prop :=
 (wantedK os K o = some false ∧ lk vl i = none ∧ v = undef) ∨
 (wantedK os K o = some true ∧ noSelect o.op = true ∧ (∀ x ∈ o.op.operands, knownO K x = true) ∧
  ((∃ f, lk vl i = some f ∧ v = f (u i)) ∨ (lk vl i = none ∧ ∃ f, lk gl i = some f ∧ v = f u) ∨ (lk vl i = none ∧ ∃ loc es1, simQ P R L (execOp (evalK K) o) loc [] = some (.value v, es1) ∧ ∀ p ∈ es1, p ∈ es)))

theorem qSim_spec {P : Program} {R : List (Addr × Value)} {L : List Blk} {os : List Oper} {A : Fr} {vl : List (Nat × (Wt → Value))} {gl : List (Nat × ((Nat → Wt) → Value))} {u : Nat → Wt} : ∀ (l : List Oper) (locs : List Loc) (i : Nat) (K : List (Nat × Value)) (vs : List Value) (K' : List (Nat × Value)) (es : List (Nat × Nat)),
  qSim P R L os A vl gl u locs i l K = some (vs, K', es) → vs.length = l.length ∧ K' = foldPut A K l vs ∧
   ∀ (j : Nat) (o : Oper), l[j]? = some o → ∃ v, vs[j]? = some v ∧ StepOk P R L os vl gl u es (i + j) o (foldPut A K (l.take j) (vs.take j)) v := by
 intro l
 induction l with
 | nil =>
  intro locs i K vs K' es h
  simp only [qSim, Option.some.injEq, Prod.mk.injEq] at h
  obtain ⟨rfl, rfl, rfl⟩ := h
  exact ⟨rfl, rfl, fun j o e => by cases e⟩
 | cons o l ih =>
  intro locs i K vs K' es h
  have fin : ∀ (v : Value) (vs1 : List Value) (es1 es0 : List (Nat × Nat)), qSim P R L os A vl gl u (locs.drop 1) (i + 1) l (putK A K o.dst v) = some (vs1, K', es1) → vs = v :: vs1 → (∀ p ∈ es1, p ∈ es) → StepOk P R L os vl gl u es i o K v →
    vs.length = (o :: l).length ∧ K' = foldPut A K (o :: l) vs ∧ ∀ (j : Nat) (o' : Oper), (o :: l)[j]? = some o' → ∃ v, vs[j]? = some v ∧ StepOk P R L os vl gl u es (i + j) o' (foldPut A K ((o :: l).take j) (vs.take j)) v := by
   intro v vs1 es1 es0 h1 hvs hes hst
   obtain ⟨hl, hK, hj⟩ := ih _ _ _ _ _ _ h1
   subst hvs
   refine ⟨by simp [hl], hK, fun j o' e => ?_⟩
   cases j with
   | zero =>
    injection e with e
    subst e
    exact ⟨v, rfl, hst⟩
   | succ j =>
    obtain ⟨v', hv', hs'⟩ := hj j o' e
    refine ⟨v', hv', ?_⟩
    rw [show i + (j + 1) = i + 1 + j from by omega]
    rcases hs' with hs' | ⟨a1, a2, a3, hs' | hs' | ⟨a4, loc, es2, a5, a6⟩⟩
    ·exact .inl hs'
    ·exact .inr ⟨a1, a2, a3, .inl hs'⟩
    ·exact .inr ⟨a1, a2, a3, .inr (.inl hs')⟩
    ·exact .inr ⟨a1, a2, a3, .inr (.inr ⟨a4, loc, es2, a5, fun p hp => hes p (a6 p hp)⟩)⟩
  simp only [qSim] at h
  split at h
  ·cases h
  ·rename_i hw
   split at h
   ·cases h
   ·rename_i hc
    split at h
    ·cases h
    ·rename_i vs1 K1 es1 h1
     simp only [Option.some.injEq, Prod.mk.injEq] at h
     obtain ⟨rfl, rfl, rfl⟩ := h
     exact fin _ vs1 es1 [] h1 rfl (fun p hp => hp) (.inl ⟨hw, hc, rfl⟩)
  ·rename_i hw
   split at h
   ·cases h
   ·rename_i hk
    rw [Bool.and_eq_true, List.all_eq_true] at hk
    have hk2 : ∀ x ∈ o.op.operands, knownO K x = true := fun x hx => hk.2 x (by simpa using hx)
    split at h
    ·rename_i f hc
     split at h
     ·cases h
     ·rename_i vs1 K1 es1 h1
      simp only [Option.some.injEq, Prod.mk.injEq] at h
      obtain ⟨rfl, rfl, rfl⟩ := h
      exact fin _ vs1 es1 [] h1 rfl (fun p hp => hp) (.inr ⟨hw, hk.1, hk2, .inl ⟨f, hc, rfl⟩⟩)
    ·rename_i hc
     split at h
     ·rename_i f hg
      split at h
      ·cases h
      ·rename_i vs1 K1 es1 h1
       simp only [Option.some.injEq, Prod.mk.injEq] at h
       obtain ⟨rfl, rfl, rfl⟩ := h
       exact fin _ vs1 es1 [] h1 rfl (fun p hp => hp) (.inr ⟨hw, hk.1, hk2, .inr (.inl ⟨hc, f, hg, rfl⟩)⟩)
     ·split at h
      ·rename_i v es1 hsim
       split at h
       ·cases h
       ·rename_i vs1 K1 es2 h1
        simp only [Option.some.injEq, Prod.mk.injEq] at h
        obtain ⟨rfl, rfl, rfl⟩ := h
        exact fin _ vs1 es2 [] h1 rfl (fun p hp => List.mem_append_right _ hp) (.inr ⟨hw, hk.1, hk2, .inr (.inr ⟨hc, _, es1, hsim, fun p hp => List.mem_append_left _ hp⟩)⟩)
      ·cases h

/-! ### in every order -/
def cntF (f : Nat → Bool) : Nat → Nat
 | 0 => 0
 | n + 1 => cntF f n + if f n then 1 else 0
theorem cntF_lt {f g : Nat → Bool} {i : Nat} (hi : f i = true) (hg : g i = false) (h : ∀ j, j ≠ i → g j = f j) : ∀ n, i < n → cntF g n < cntF f n := by
 have le : ∀ n, cntF g n ≤ cntF f n := by
  intro n
  induction n with
  | zero => exact Nat.le_refl _
  | succ n ih =>
   simp only [cntF]
   by_cases e : n = i
   ·subst e; rw [hi, hg]; simp; omega
   ·rw [h n e]; omega
 intro n
 induction n with
 | zero => intro h; omega
 | succ n ih =>
  intro hn
  simp only [cntF]
  by_cases e : n = i
  ·subst e; rw [hi, hg]; have := le n; simp; omega
  ·rw [h n e]; have := ih (by omega); omega
theorem cntF_zero {f : Nat → Bool} : ∀ n, cntF f n = 0 → ∀ i, i < n → f i = false := by
 intro n
 induction n with
 | zero => intro _ i hi; omega
 | succ n ih =>
  intro h i hi
  simp only [cntF] at h
  by_cases e : i = n
  ·subst e
   cases hf : f i with
   | false => rfl
   | true => rw [hf] at h; simp at h
  ·exact ih (by omega) i (by omega)

section
variable {P : Program} {os : List Oper} {Q : Exit → Act → World → Prop} {A : Fr} {K : List (Nat × Value)}

/-- The operations at the end, in the text's order. -/
theorem any_tail {t : Nat} {an : List Nat} (hT : tailOk os an t = true) : ∀ (fuel q : Nat) (listed : Array Bool) (a : Act) (w : World), t ≤ q → q ≤ os.length → os.length - q ≤ fuel → listed.size = os.length → (∀ i, i < os.length → (listed.getD i false = true ↔ i < q)) →
  wpList P os.toArray Q (os.drop q) a w → wpAny P .any os.toArray Q fuel listed a w := by
 have hg : ∀ (l : Array Bool), l.size = os.length → ∀ i, i < os.length → l.getD i true = l.getD i false := fun l hl i hi => by
  rw [Array.getD_eq_getD_getElem?, Array.getD_eq_getD_getElem?, Array.getElem?_eq_getElem (by rw [hl]; exact hi)]
  rfl
 intro fuel
 induction fuel with
 | zero =>
  intro q listed a w htq hq hf hsz hl hw
  obtain rfl : q = os.length := by omega
  rw [List.drop_length] at hw
  refine ⟨?_, hw⟩
  rw [List.eq_nil_iff_forall_not_mem]
  intro j hj
  obtain ⟨h1, o, ho, _⟩ := mem_ready.1 hj
  have hjl : j < os.length := by
   have := (Array.getElem?_eq_some_iff.1 ho).1
   simpa using this
  rw [hg listed hsz j hjl, (hl j hjl).2 hjl] at h1
  cases h1
 | succ fuel ih =>
  intro q listed a w htq hq hf hsz hl hw
  rcases Nat.lt_or_ge q os.length with hlt | hge
  ·unfold tailOk at hT
   rw [List.all_eq_true] at hT
   have hTq := hT q (List.mem_range.2 hlt)
   have ho : os[q]? = some os[q] := List.getElem?_eq_getElem hlt
   rw [ho] at hTq
   simp only [Bool.or_eq_true, decide_eq_true_eq, Bool.and_eq_true, List.all_eq_true, Bool.not_eq_true'] at hTq
   have hTq' := hTq.resolve_left (by omega)
   have hmem : q ∈ Region.ready .any os.toArray listed := by
    refine mem_ready.2 ⟨?_, os[q], by simp, fun e he hb => ?_⟩
    ·rw [hg listed hsz q hlt]
     cases hc : listed.getD q false with
     | false => rfl
     | true => have := (hl q hlt).1 hc; omega
    ·rcases hTq'.1 e (by simpa using he) with h1 | h1
     ·rw [hb] at h1; cases h1
     ·exact (hl e.on (by omega)).2 h1
   refine ⟨(fun e => by rw [e] at hmem; cases hmem), fun i hi => ?_⟩
   have hiq : i = q := by
    obtain ⟨h1, o, hoi, h2⟩ := mem_ready.1 hi
    have hil : i < os.length := by
     have := (Array.getElem?_eq_some_iff.1 hoi).1
     simpa using this
    have hnl : ¬ i < q := fun h => by
     rw [hg listed hsz i hil, (hl i hil).2 h] at h1
     cases h1
    refine Nat.le_antisymm (Nat.le_of_not_lt fun hgt => ?_) (Nat.le_of_not_lt hnl)
    have hTi := hT i (List.mem_range.2 hil)
    have hoi' : os[i]? = some o := by simpa using hoi
    rw [hoi'] at hTi
    simp only [Bool.or_eq_true, decide_eq_true_eq, Bool.and_eq_true] at hTi
    have hTi' := (hTi.resolve_left (by omega)).2
    rw [if_neg (by omega), List.any_eq_true] at hTi'
    obtain ⟨e, he, hb⟩ := hTi'
    rw [Bool.and_eq_true, beq_iff_eq] at hb
    have := h2 e (by simpa using he) hb.1
    rw [hb.2] at this
    have := (hl (i - 1) (by omega)).1 this
    omega
   subst hiq
   rw [List.drop_eq_getElem_cons hlt] at hw
   unfold wpOp
   rw [show os.toArray[i]? = some os[i] from by simp]
   simp only [wpList] at hw
   have hnext : ∀ a w, wpList P os.toArray Q (os.drop (i + 1)) a w → wpAny P .any os.toArray Q fuel (listed.setIfInBounds i true) a w := fun a' w' h' => by
    refine ih (i + 1) _ a' w' (by omega) (by omega) (by omega) (by simp [hsz]) (fun j hj => ?_) h'
    by_cases e : j = i
    ·subst e
     simp [Array.getD_eq_getD_getElem?, hsz, hj]
    ·have := hl j hj
     simp only [Array.getD_eq_getD_getElem?, Array.getElem?_setIfInBounds_ne (fun h => e h.symm)] at this ⊢
     rw [this]
     omega
   simp only
   split
   ·rename_i hwn
    rw [if_pos hwn] at hw
    exact hw.imp (fun h => Oper.wp_mono hnext h) id
   ·rename_i hwn
    rw [if_neg hwn] at hw
    exact hnext _ _ hw
  ·obtain rfl : q = os.length := by omega
   rw [List.drop_length] at hw
   have hn : Region.ready .any os.toArray listed = [] := by
    rw [List.eq_nil_iff_forall_not_mem]
    intro j hj
    obtain ⟨h1, o, ho, _⟩ := mem_ready.1 hj
    have hjl : j < os.length := by
     have := (Array.getElem?_eq_some_iff.1 ho).1
     simpa using this
    rw [hg listed hsz j hjl, (hl j hjl).2 hjl] at h1
    cases h1
   exact ⟨(fun _ => hw), (fun i hi => by rw [hn] at hi; cases hi)⟩

/-- Listed operations: what they come behind is listed, too. -/
def Closed (os : List Oper) (lst : Nat → Prop) : Prop := ∀ i o, lst i → os[i]? = some o → ∀ e ∈ o.after, Region.binds .any e = true → lst e.on
/-- Behind, step by step. -/
inductive Anc (os : List Oper) : Nat → Nat → Prop where
 | edge {i : Nat} {o : Oper} (ho : os[i]? = some o) {e : Edge} (he : e ∈ o.after) (hb : Region.binds .any e = true) : Anc os i e.on
 | trans {i j : Nat} {o : Oper} (ho : os[i]? = some o) {e : Edge} (he : e ∈ o.after) (hb : Region.binds .any e = true) (h : Anc os e.on j) : Anc os i j
theorem ancStep_spec {acc : List Nat} {o : Oper} {j : Nat} (h : (ancStep acc o).testBit j = true) : ∃ e ∈ o.after, Region.binds .any e = true ∧ ((acc.getD e.on 0).testBit j = true ∨ e.on = j) := by
 have key : ∀ (l : List Edge), (l.foldr (fun e m => bif Region.binds .any e then (acc.getD e.on 0 ||| (1 <<< e.on)) ||| m else m) 0).testBit j = true → ∃ e ∈ l, Region.binds .any e = true ∧ ((acc.getD e.on 0).testBit j = true ∨ e.on = j) := by
  intro l
  induction l with
  | nil => intro h; simp at h
  | cons e l ih =>
   intro h
   simp only [List.foldr_cons] at h
   cases hb : Region.binds .any e with
   | false =>
    rw [hb] at h
    obtain ⟨e', h1, h2⟩ := ih h
    exact ⟨e', List.mem_cons_of_mem _ h1, h2⟩
   | true =>
    rw [hb] at h
    simp only [cond_true, Nat.testBit_or, Bool.or_eq_true] at h
    rcases h with (h | h) | h
    ·exact ⟨e, List.mem_cons_self, hb, .inl h⟩
    ·refine ⟨e, List.mem_cons_self, hb, .inr ?_⟩
     rw [Nat.one_shiftLeft, Nat.testBit_two_pow] at h
     simpa using h
    ·obtain ⟨e', h1, h2⟩ := ih h
     exact ⟨e', List.mem_cons_of_mem _ h1, h2⟩
 obtain ⟨e, h1, h2⟩ := key _ h
 exact ⟨e, by simpa using h1, h2⟩
theorem ancs_spec {os : List Oper} : ∀ (r : List Oper) (acc : List Nat) (n : Nat), acc.length = n → os.drop n = r → (∀ i j, (acc.getD i 0).testBit j = true → Anc os i j) → ∀ i j, ((ancs r acc).getD i 0).testBit j = true → Anc os i j
 | [], acc, n, _, _, h => h
 | o :: r, acc, n, hn, hr, h => by
  have hnl : n < os.length := by
   have := congrArg List.length hr
   simp at this
   omega
  have ho : os[n]? = some o := by
   rw [List.drop_eq_getElem_cons hnl] at hr
   injection hr with h1 h2
   rw [List.getElem?_eq_getElem hnl, h1]
  refine ancs_spec r (acc ++ [ancStep acc o]) (n + 1) (by simp [hn]) ?_ (fun i j hij => ?_)
  ·rw [List.drop_eq_getElem_cons hnl] at hr
   injection hr
  ·rcases Nat.lt_trichotomy i n with hi | hi | hi
   ·refine h i j ?_
    rw [List.getD_eq_getElem?_getD, List.getElem?_append_left (by omega), ← List.getD_eq_getElem?_getD] at hij
    exact hij
   ·subst hi
    rw [List.getD_eq_getElem?_getD, List.getElem?_append_right (by omega), hn, Nat.sub_self] at hij
    obtain ⟨e, he, hb, hj⟩ := ancStep_spec (show (ancStep acc o).testBit j = true from hij)
    rcases hj with hj | rfl
    ·exact .trans ho he hb (h _ _ hj)
    ·exact .edge ho he hb
   ·rw [List.getD_eq_getElem?_getD, List.getElem?_eq_none (by simp [hn]; omega)] at hij
    simp at hij
theorem anc_listed {lst : Nat → Prop} (hc : Closed os lst) {i j : Nat} (h : Anc os i j) : (∀ o, os[i]? = some o → ∀ e ∈ o.after, Region.binds .any e = true → lst e.on) → lst j := by
 induction h with
 | edge ho he hb => intro hi; exact hi _ ho _ he hb
 | trans ho he hb _ ih => intro hi; exact ih (fun o' ho' => hc _ o' (hi _ ho _ he hb) ho')
theorem behind_listed {lst : Nat → Prop} (hc : Closed os lst) {an : List Nat} (han : ancs os [] = an) (i j : Nat) (h : behind an i j = true) (hi : ∀ o, os[i]? = some o → ∀ e ∈ o.after, Region.binds .any e = true → lst e.on) : lst j :=
 anc_listed hc (ancs_spec os [] 0 rfl rfl (fun i j h => by simp at h) i j (by rw [han]; exact h)) hi

/-- What is known of a frame while some operations have been carried out. -/
structure KD (os : List Oper) (A : Fr) (K : List (Nat × Value)) (vs : List Value) (lst : Nat → Prop) (a : Act) : Prop where
 size : a.tmps.size = A.n
 defers : a.defers = A.D
 old : ∀ p ∈ K, (∀ i, lst i → dstOf os i ≠ some p.1) → a.tmps[p.1]? = some p.2
 new : ∀ i, lst i → ∀ d v, dstOf os i = some d → vs[i]? = some v → d < A.n → a.tmps[d]? = some v

theorem KD.look {an : List Nat} {vs : List Value} {lst : Nat → Prop} {a : Act} {t i : Nat} {o : Oper} (h : KD os A K vs lst a) (hc : Closed os lst) (hlt : ∀ j, lst j → j < t) (ho : os[i]? = some o) (hi : i < t) (hni : ¬ lst i) (hr : readsOk os an t i o = true) (han : ancs os [] = an)
  (hed : ∀ e ∈ o.after, Region.binds .any e = true → lst e.on) (hvl : vs.length = t) (htl : t ≤ os.length) :
  ∀ x ∈ readTmps os o, ∀ v, lookK (foldPut A K (os.take i) (vs.take i)) x = some v → a.tmps[x]? = some v := by
 intro x hx v hv
 unfold readsOk at hr
 rw [List.all_eq_true] at hr
 have hrx := hr x hx
 rw [List.all_eq_true] at hrx
 have hedi : ∀ o', os[i]? = some o' → ∀ e ∈ o'.after, Region.binds .any e = true → lst e.on := fun o' ho' => by
  rw [ho] at ho'
  injection ho' with ho'
  subst ho'
  exact hed
 rcases foldPut_mem _ _ _ _ (by rw [List.length_take, List.length_take]; omega) (look_mem hv) with ⟨j, oj, h1, h2, h3, h4, _⟩ | ⟨h1, h2⟩
 ·have hji : j < i := by
   have := (List.getElem?_eq_some_iff.1 h1).1
   rw [List.length_take] at this
   omega
  rw [List.getElem?_take_of_lt hji] at h1 h3
  have hd : dstOf os j = some x := by unfold dstOf; rw [h1]; exact h2
  have := hrx j (List.mem_range.2 (by omega))
  rw [hd] at this
  simp only [bne_self_eq_false, Bool.false_or, if_pos hji] at this
  exact h.new j (behind_listed hc han _ _ this hedi) x v hd h3 h4
 ·refine h.old _ h1 (fun j hj hd => ?_)
  simp only at hd
  have hjt := hlt j hj
  rcases Nat.lt_trichotomy j i with hji | rfl | hji
  ·have hjl : j < os.length := by omega
   have hoj : os[j]? = some os[j] := List.getElem?_eq_getElem hjl
   have := h2 j os[j] (by rw [List.getElem?_take_of_lt hji]; exact hoj)
   unfold dstOf at hd
   rw [hoj] at hd
   exact this hd
  ·exact hni hj
  ·have := hrx j (List.mem_range.2 hjt)
   rw [hd] at this
   simp only [bne_self_eq_false, Bool.false_or, if_neg (show ¬ j < i by omega)] at this
   exact hni (behind_listed hc han _ _ this (fun o' ho' => hc j o' hj ho'))

theorem wantedK_at {a : Act} {o : Oper} {b : Bool} {K : List (Nat × Value)} (hs : ∀ x ∈ guardTmp os o, ∀ v, lookK K x = some v → a.tmps[x]? = some v) (hw : wantedK os K o = some b) : Region.wanted o (yielded os.toArray a.tmps) = b := by
 unfold wantedK at hw
 unfold Region.wanted
 split at hw
 ·rename_i hg
  injection hw with hw
  rw [hg]
  exact hw
 ·rename_i j want hg
  rw [hg]
  split at hw
  ·cases hw
  ·rename_i q hq
   split at hw
   ·cases hw
   ·rename_i t ht
    split at hw
    ·rename_i b' hb
     injection hw with hw
     have hs := hs t (by unfold guardTmp dstOf; rw [hg]; simp [hq, ht]) _ hb
     have hy : yielded os.toArray a.tmps j = some b' := by
      unfold yielded
      simp [hq, ht, hs]
     simp only [hy]
     rw [← hw]
     cases b' <;> cases want <;> rfl
    ·rename_i b' hb
     injection hw with hw
     have hs := hs t (by unfold guardTmp dstOf; rw [hg]; simp [hq, ht]) _ hb
     have hy : yielded os.toArray a.tmps j = none := by
      unfold yielded
      simp [hq, ht, hs]
     simp only [hy]
     rw [← hw]
     rfl
    ·cases hw

theorem exec_at {a : Act} {o : Oper} {K : List (Nat × Value)} (hs : ∀ x ∈ readTmps os o, ∀ v, lookK K x = some v → a.tmps[x]? = some v) (hn : noSelect o.op = true) (hk : ∀ x ∈ o.op.operands, knownO K x = true) : execOp a.eval o = execOp (evalK K) o := by
 refine execOp_congr o (fun cs b e => by rw [e] at hn; simp [noSelect] at hn) (fun x hx => ?_)
 cases x with
 | tmp t =>
  have := hk _ hx
  simp only [knownO] at this
  obtain ⟨v, hv⟩ := Option.isSome_iff_exists.1 this
  have := hs t (by unfold readTmps; exact List.mem_append_left _ (List.mem_filterMap.2 ⟨.tmp t, by simpa using hx, rfl⟩)) v hv
  simp only [Act.eval, evalK, hv]
  rw [Array.getD_eq_getD_getElem?, this]
  rfl
 | _ => rfl

theorem KD.put {vs : List Value} {lst : Nat → Prop} {a : Act} {t i : Nat} {v : Value} (h : KD os A K vs lst a) (hd : dstsOk os t = true) (hlt : ∀ j, lst j → j < t) (hi : i < t) (hni : ¬ lst i) (hv : vs[i]? = some v) :
  KD os A K vs (fun j => lst j ∨ j = i) (a.put (dstOf os i) v) := by
 unfold dstsOk at hd
 simp only [List.all_eq_true, List.mem_range, Bool.or_eq_true, beq_iff_eq, bne_iff_ne] at hd
 refine ⟨by cases hq : dstOf os i <;> simpa [Act.put, hq] using h.size, by cases hq : dstOf os i <;> simpa [Act.put, hq] using h.defers, fun p hp hn => ?_, fun j hj d u hdj hu hdn => ?_⟩
 ·have h1 := h.old p hp (fun j hj => hn j (.inl hj))
  cases hq : dstOf os i with
  | none => exact h1
  | some d =>
   have : d ≠ p.1 := fun e => hn i (.inr rfl) (by rw [hq, e])
   simp only [Act.put]
   rw [Array.getElem?_setIfInBounds_ne this]
   exact h1
 ·by_cases e : j = i
  ·subst e
   rw [hv] at hu
   injection hu with hu
   subst hu
   rw [hdj]
   simp only [Act.put]
   rw [Array.getElem?_setIfInBounds_self_of_lt (by rw [h.size]; exact hdn)]
  ·have hj' := hj.resolve_right e
   have h1 := h.new j hj' d u hdj hu hdn
   cases hq : dstOf os i with
   | none => exact h1
   | some d' =>
    have : d' ≠ d := fun e' => by
     rcases hd i hi j (hlt j hj') with (h2 | h2) | h2
     ·exact e h2.symm
     ·rw [hq] at h2; cases h2
     ·exact h2 (by rw [hq, hdj, e'])
    simp only [Act.put]
    rw [Array.getElem?_setIfInBounds_ne this]
    exact h1

/-- What is listed. -/
def lstOf (listed : Array Bool) : Nat → Prop := fun i => listed.getD i false = true
theorem lstOf_set {listed : Array Bool} {i j : Nat} (hi : i < listed.size) : lstOf (listed.setIfInBounds i true) j ↔ lstOf listed j ∨ j = i := by
 unfold lstOf
 by_cases e : j = i
 ·subst e
  simp [Array.getD_eq_getD_getElem?, hi]
 ·simp only [Array.getD_eq_getD_getElem?, Array.getElem?_setIfInBounds_ne (fun h => e h.symm)]
  simp [e]

/-- Which of those that act are listed. -/
def Dl (vl : List (Nat × (Wt → Value))) (listed : Array Bool) : Nat → Bool := fun i => listed.getD i false && (lk vl i).isSome
def Dall (vl : List (Nat × (Wt → Value))) : Nat → Bool := fun i => (lk vl i).isSome

theorem any_body {t : Nat} {an : List Nat} {vl : List (Nat × (Wt → Value))} {gl : List (Nat × ((Nat → Wt) → Value))} {R : List (Addr × Value)} {L : List Blk} {locs : List Loc} (han : ancs os [] = an) (hok : drawOk os an t = true) (hlst : ∀ i, (lk vl i).isSome = true → i < t) (vs : (Nat → Wt) → List Value)
  (hq : ∀ u, ∃ K' es, qSim P R L os A vl gl u locs 0 (os.take t) K = some (vs u, K', es) ∧ eqs es)
  (S : (Nat → Bool) → (Nat → Wt) → World → Prop) (hS : ∀ D u w, S D u w → (∀ b ∈ L, w.heap[b.g]? = some (.cells b.cs.toArray b.ty (0, 0))) ∧ ∀ r ∈ R, w.cell? r.1 = some r.2)
  (hl : ∀ i f, lk vl i = some f → ∀ D u w, D i = false → (∀ j, behind an i j = true → (lk vl j).isSome = true → D j = true) → S D u w → Does P (execOp (evalK (foldPut A K (os.take i) ((vs u).take i))) (os.getD i default)) w (fun v w' => ∃ x, v = f x ∧ S (dset D i) (upd u i x) w'))
  (hg : ∀ i f, lk gl i = some f → ∀ D u w, (∀ j, behind an i j = true → (lk vl j).isSome = true → D j = true) → S D u w → (execOp (evalK (foldPut A K (os.take i) ((vs u).take i))) (os.getD i default)).run P w = .ok (.value (f u)) w)
  (hgu : ∀ i f, lk gl i = some f → ∀ u u', (∀ j, behind an i j = true → (lk vl j).isSome = true → u j = u' j) → f u = f u')
  (k : ∀ u a w, S (Dall vl) u w → Knows A (foldPut A K (os.take t) (vs u)) a → wpList P os.toArray Q (os.drop t) a w) :
  ∀ (fuel : Nat) (listed : Array Bool) (u : Nat → Wt) (a : Act) (w : World), listed.size = os.length → (∀ j, lstOf listed j → j < t) → Closed os (lstOf listed) → S (Dl vl listed) u w →
   (∀ u', (∀ i, Dl vl listed i = true → u' i = u i) → KD os A K (vs u') (lstOf listed) a) → cntF (fun i => !listed.getD i false) os.length ≤ fuel → wpAny P .any os.toArray Q fuel listed a w := by
 unfold drawOk at hok
 simp only [Bool.and_eq_true, decide_eq_true_eq, List.all_eq_true, List.mem_range] at hok
 obtain ⟨⟨⟨htl, hops⟩, hdst⟩, htail⟩ := hok
 have hvl : ∀ u, (vs u).length = t := fun u => by
  obtain ⟨K', es, h, _⟩ := hq u
  have := (qSim_spec _ _ _ _ _ _ _ h).1
  rw [this, List.length_take]; omega
 have hstep : ∀ u i o, i < t → os[i]? = some o → ∃ v es, (vs u)[i]? = some v ∧ eqs es ∧ StepOk P R L os vl gl u es i o (foldPut A K (os.take i) ((vs u).take i)) v := fun u i o hi ho => by
  obtain ⟨K', es, h, he⟩ := hq u
  obtain ⟨v, hv, hs⟩ := (qSim_spec _ _ _ _ _ _ _ h).2.2 i o (by rw [List.getElem?_take_of_lt hi]; exact ho)
  rw [Nat.zero_add, List.take_take, Nat.min_eq_left (by omega)] at hs
  exact ⟨v, es, hv, he, hs⟩
 have hop : ∀ i o, i < t → os[i]? = some o → readsOk os an t i o = true ∧ noSelect o.op = true ∧ ∀ e ∈ o.after, Region.binds .any e = true → e.on < i := fun i o hi ho => by
  have := hops i hi
  rw [ho] at this
  simp only [Bool.and_eq_true, List.all_eq_true, Bool.or_eq_true, Bool.not_eq_true', decide_eq_true_eq] at this
  refine ⟨this.1.1, this.1.2, fun e he hb => ?_⟩
  rcases this.2 e (by simpa using he) with h1 | h1
  ·rw [hb] at h1; cases h1
  ·exact h1
 have hgt : ∀ (l : Array Bool), l.size = os.length → ∀ i, i < os.length → l.getD i true = l.getD i false := fun l hl i hi => by
  rw [Array.getD_eq_getD_getElem?, Array.getD_eq_getD_getElem?, Array.getElem?_eq_getElem (by rw [hl]; exact hi)]
  rfl
 have hDall : ∀ listed : Array Bool, (∀ i, i < t → lstOf listed i) → Dl vl listed = Dall vl := fun listed h => by
  funext i
  unfold Dl Dall
  cases hi : (lk vl i).isSome with
  | false => simp
  | true =>
   have := h i (hlst i hi)
   unfold lstOf at this
   simp [this]
 have hfin : ∀ (listed : Array Bool) (u : Nat → Wt) (a : Act), (∀ i, i < t → lstOf listed i) → (∀ j, lstOf listed j → j < t) → KD os A K (vs u) (lstOf listed) a → Knows A (foldPut A K (os.take t) (vs u)) a := fun listed u a hdone hlt hkd => by
  refine ⟨hkd.size, hkd.defers, fun p hp => ?_⟩
  rcases foldPut_mem _ _ _ _ (by rw [hvl, List.length_take]; omega) hp with ⟨j, oj, h1, h2, h3, h4, _⟩ | ⟨h1, h2⟩
  ·have hj : j < t := by have := (List.getElem?_eq_some_iff.1 h1).1; rw [List.length_take] at this; omega
   rw [List.getElem?_take_of_lt hj] at h1
   exact hkd.new j (hdone j hj) _ _ (by unfold dstOf; rw [h1]; exact h2) h3 h4
  ·refine hkd.old p h1 (fun j hj hd => ?_)
   have hjt := hlt j hj
   have hoj : os[j]? = some os[j] := List.getElem?_eq_getElem (by omega)
   have := h2 j os[j] (by rw [List.getElem?_take_of_lt hjt]; exact hoj)
   unfold dstOf at hd
   rw [hoj] at hd
   exact this hd
 intro fuel
 induction fuel with
 | zero =>
  intro listed u a w hsz hlt hcl hSw hKD hcnt
  have hall := cntF_zero (f := fun i => !listed.getD i false) os.length (Nat.le_zero.1 hcnt)
  have hdone : ∀ i, i < t → lstOf listed i := fun i hi => by
   have := hall i (by omega)
   unfold lstOf
   simpa using this
  have hn : t = os.length := by
   rcases Nat.lt_or_ge t os.length with h1 | h1
   ·have h2 := hall t h1
    have h3 : lstOf listed t := by unfold lstOf; simpa using h2
    have := hlt t h3
    omega
   ·omega
  rw [hDall listed hdone] at hSw
  refine any_tail htail 0 t listed a w (Nat.le_refl _) htl (by omega) hsz (fun i hi => ?_) (k u a w hSw (hfin listed u a hdone hlt (hKD u (fun _ _ => rfl))))
  have h2 := hall i hi
  exact ⟨fun _ => by omega, fun _ => by simpa using h2⟩
 | succ fuel ih =>
  intro listed u a w hsz hlt hcl hSw hKD hcnt
  by_cases hdone : ∀ i, i < t → lstOf listed i
  ·-- the end's operations
   have hcnt2 : os.length - t ≤ fuel + 1 := by
    refine Nat.le_trans ?_ hcnt
    have key : ∀ n, n ≤ os.length → n - t ≤ cntF (fun i => !listed.getD i false) n := by
     intro n
     induction n with
     | zero => intro _; omega
     | succ n ihn =>
      intro hn
      have := ihn (by omega)
      simp only [cntF]
      by_cases e : n < t
      ·omega
      ·have : listed.getD n false = false := by
        cases hc : listed.getD n false with
        | false => rfl
        | true => have := hlt n hc; omega
       simp only [this, Bool.not_false, if_true]
       omega
    exact key os.length (Nat.le_refl _)
   rw [hDall listed hdone] at hSw
   exact any_tail htail (fuel + 1) t listed a w (Nat.le_refl _) htl hcnt2 hsz (fun i hi => ⟨fun h => hlt i h, fun h => hdone i h⟩) (k u a w hSw (hfin listed u a hdone hlt (hKD u (fun _ _ => rfl))))
  ·-- one of the body
   have hex : ∃ i, i < t ∧ ¬ lstOf listed i ∧ ∀ j, j < i → lstOf listed j := by
    obtain ⟨i0, hi0⟩ := Classical.not_forall.1 hdone
    obtain ⟨hi0, hn0⟩ := Classical.not_imp.1 hi0
    have key : ∀ n, n ≤ t → (∀ j, j < n → lstOf listed j) ∨ ∃ i, i < n ∧ ¬ lstOf listed i ∧ ∀ j, j < i → lstOf listed j := by
     intro n
     induction n with
     | zero => intro _; exact .inl (fun j hj => by omega)
     | succ n ihn =>
      intro hn
      rcases ihn (by omega) with h1 | ⟨i, h1, h2⟩
      ·by_cases e : lstOf listed n
       ·refine .inl (fun j hj => ?_)
        rcases Nat.lt_succ_iff_lt_or_eq.1 hj with h2 | rfl
        ·exact h1 j h2
        ·exact e
       ·exact .inr ⟨n, by omega, e, h1⟩
      ·exact .inr ⟨i, by omega, h2⟩
    rcases key t (Nat.le_refl _) with h1 | h1
    ·exact absurd (h1 i0 hi0) hn0
    ·exact h1
   have hne : Region.ready .any os.toArray listed ≠ [] := by
    obtain ⟨i, hi, hni, hsm⟩ := hex
    intro e
    have hio : i < os.length := by omega
    have ho : os[i]? = some os[i] := List.getElem?_eq_getElem hio
    have : i ∈ Region.ready .any os.toArray listed := by
     refine mem_ready.2 ⟨?_, os[i], by simp, fun e he hb => hsm e.on ((hop i _ hi ho).2.2 e he hb)⟩
     rw [hgt listed hsz i hio]
     cases hc : listed.getD i false with
     | false => rfl
     | true => exact absurd hc hni
    rw [e] at this
    cases this
   refine ⟨fun e => absurd e hne, fun i hi => ?_⟩
   obtain ⟨h1, o, hoi, h2⟩ := mem_ready.1 hi
   have ho : os[i]? = some o := by simpa using hoi
   have hio : i < os.length := (List.getElem?_eq_some_iff.1 ho).1
   have hni : ¬ lstOf listed i := fun h => by
    rw [hgt listed hsz i hio] at h1
    unfold lstOf at h
    rw [h] at h1
    cases h1
   have hed : ∀ e ∈ o.after, Region.binds .any e = true → lstOf listed e.on := fun e he hb => h2 e he hb
   have hit : i < t := by
    refine Nat.lt_of_not_le fun hti => ?_
    unfold tailOk at htail
    rw [List.all_eq_true] at htail
    have hTi := htail i (List.mem_range.2 hio)
    rw [ho] at hTi
    simp only [Bool.or_eq_true, decide_eq_true_eq, Bool.and_eq_true] at hTi
    have hTi' := (hTi.resolve_left (by omega)).2
    by_cases e : i = t
    ·rw [if_pos e, List.all_eq_true] at hTi'
     obtain ⟨j, hj, hnj, _⟩ := hex
     exact hnj (behind_listed hcl han i j (hTi' j (List.mem_range.2 hj)) (fun o' ho' => by rw [ho] at ho'; injection ho' with ho'; subst ho'; exact hed))
    ·rw [if_neg e, List.any_eq_true] at hTi'
     obtain ⟨e', he', hb'⟩ := hTi'
     rw [Bool.and_eq_true, beq_iff_eq] at hb'
     have := hed e' (by simpa using he') hb'.1
     rw [hb'.2] at this
     have := hlt _ this
     omega
   obtain ⟨hro, hns, hlow⟩ := hop i o hit ho
   have hlook : ∀ u', (∀ i, Dl vl listed i = true → u' i = u i) → ∀ x ∈ readTmps os o, ∀ v, lookK (foldPut A K (os.take i) ((vs u').take i)) x = some v → a.tmps[x]? = some v := fun u' hu' =>
    (hKD u' hu').look hcl hlt ho hit hni hro han hed (hvl u') htl
   have hpre : ∀ j, behind an i j = true → (lk vl j).isSome = true → Dl vl listed j = true := fun j hj hlj => by
    have := behind_listed hcl han i j hj (fun o' ho' => by rw [ho] at ho'; injection ho' with ho'; subst ho'; exact hed)
    unfold lstOf at this
    simp [Dl, this, hlj]
   have hisz : i < listed.size := by omega
   have hcl' : Closed os (lstOf (listed.setIfInBounds i true)) := fun j o' hj ho' e he hb => by
    rw [lstOf_set hisz] at hj ⊢
    rcases hj with hj | rfl
    ·exact .inl (hcl j o' hj ho' e he hb)
    ·rw [ho] at ho'
     injection ho' with ho'
     subst ho'
     exact .inl (hed e he hb)
   have hlt' : ∀ j, lstOf (listed.setIfInBounds i true) j → j < t := fun j hj => by
    rw [lstOf_set hisz] at hj
    rcases hj with hj | rfl
    ·exact hlt j hj
    ·exact hit
   have hcnt' : cntF (fun j => !(listed.setIfInBounds i true).getD j false) os.length ≤ fuel := by
    have : cntF (fun j => !(listed.setIfInBounds i true).getD j false) os.length < cntF (fun j => !listed.getD j false) os.length := by
     refine cntF_lt (i := i) ?_ ?_ (fun j hj => ?_) _ hio
     ·unfold lstOf at hni
      simpa using hni
     ·have : lstOf (listed.setIfInBounds i true) i := (lstOf_set hisz).2 (.inr rfl)
      unfold lstOf at this
      rw [this]
      rfl
     ·simp only [Array.getD_eq_getD_getElem?, Array.getElem?_setIfInBounds_ne (fun h => hj h.symm)]
    omega
   have hsz' : (listed.setIfInBounds i true).size = os.length := by simp [hsz]
   have hKDput : ∀ u' v, KD os A K (vs u') (lstOf listed) a → (vs u')[i]? = some v → KD os A K (vs u') (lstOf (listed.setIfInBounds i true)) (a.put o.dst v) := fun u' v hkd hv => by
    have := hkd.put (t := t) hdst hlt hit hni hv
    have hd : dstOf os i = o.dst := by unfold dstOf; rw [ho]; rfl
    rw [hd] at this
    exact ⟨this.size, this.defers, fun p hp hn => this.old p hp (fun j hj => hn j ((lstOf_set hisz).2 hj)), fun j hj => this.new j ((lstOf_set hisz).1 hj)⟩
   have hDne : ∀ j, j ≠ i → Dl vl (listed.setIfInBounds i true) j = Dl vl listed j := fun j hj => by
    unfold Dl
    simp only [Array.getD_eq_getD_getElem?, Array.getElem?_setIfInBounds_ne (fun h => hj h.symm)]
   have hDi : Dl vl (listed.setIfInBounds i true) i = (lk vl i).isSome := by
    unfold Dl
    have : (listed.setIfInBounds i true).getD i false = true := (lstOf_set hisz).2 (.inr rfl)
    rw [this, Bool.true_and]
   cases hloud : lk vl i with
   | some f =>
    -- it acts
    have hDset : Dl vl (listed.setIfInBounds i true) = dset (Dl vl listed) i := by
     funext j
     by_cases e : j = i
     ·subst e; rw [hDi, hloud, dset_self]; rfl
     ·rw [hDne j e, dset_ne _ e]
    have hDf : Dl vl listed i = false := by
     unfold Dl
     unfold lstOf at hni
     cases hc : listed.getD i false with
     | false => rfl
     | true => exact absurd hc hni
    obtain ⟨v, es, hv, _, hs⟩ := hstep u i o hit ho
    have hex2 : wantedK os (foldPut A K (os.take i) ((vs u).take i)) o = some true ∧ (∀ y ∈ o.op.operands, knownO (foldPut A K (os.take i) ((vs u).take i)) y = true) := by
     rcases hs with ⟨_, h4, _⟩ | ⟨h3, _, h5, _⟩
     ·rw [hloud] at h4; cases h4
     ·exact ⟨h3, h5⟩
    have hw := wantedK_at (fun y hy => hlook u (fun _ _ => rfl) y (by unfold readTmps; exact List.mem_append_right _ hy)) hex2.1
    have hdoes := hl i f hloud (Dl vl listed) u w hDf hpre hSw
    have hg' : os.getD i default = o := by rw [List.getD_eq_getElem?_getD, ho]; rfl
    rw [hg', ← exec_at (hlook u (fun _ _ => rfl)) hns hex2.2] at hdoes
    have hnext : ∀ v w', (∃ y, v = f y ∧ S (dset (Dl vl listed) i) (upd u i y) w') → wpAny P .any os.toArray Q fuel (listed.setIfInBounds i true) (a.put o.dst v) w' := fun v w' ⟨y0, hy0, hS'⟩ => by
     refine ih _ (upd u i y0) _ w' hsz' hlt' hcl' (by rw [hDset]; exact hS') (fun u' hu' => ?_) hcnt'
     have hu1 : ∀ j, Dl vl listed j = true → u' j = u j := fun j hj => by
      have hne : j ≠ i := fun e => by subst e; rw [hDf] at hj; cases hj
      have h3 := hu' j (by rw [hDne j hne]; exact hj)
      rw [upd_ne _ _ hne] at h3
      exact h3
     have hui : u' i = y0 := by
      have h3 := hu' i (by rw [hDi, hloud]; rfl)
      rw [upd_self] at h3
      exact h3
     refine hKDput u' v (hKD u' hu1) ?_
     obtain ⟨v', es', hv', _, hs'⟩ := hstep u' i o hit ho
     rcases hs' with ⟨_, h4, _⟩ | ⟨_, _, _, ⟨f', h4, h5⟩ | ⟨h4, _⟩ | ⟨h4, _⟩⟩
     ·rw [hloud] at h4; cases h4
     ·rw [hloud] at h4
      injection h4 with h4
      subst h4
      rw [hv', h5, hui, hy0]
     ·rw [hloud] at h4; cases h4
     ·rw [hloud] at h4; cases h4
    unfold wpOp
    rw [hoi]
    simp only
    rw [if_pos hw]
    refine .inl ?_
    unfold Oper.wp
    rcases hdoes with ⟨v, w', hr | ⟨hr, rfl⟩, hS'⟩ | ⟨f, xs, hr, hc⟩
    ·rw [hr, Oper.upon_value]
     exact hnext v w' hS'
    ·rw [hr, Oper.upon_skip]
     exact hnext undef w' hS'
    ·rw [hr, Oper.upon_enter]
     refine hc.mono ?_
     rintro e w' ⟨v, rfl, hS'⟩
     exact hnext v w' hS'
   | none =>
    -- it only reads
    have hDsame : Dl vl (listed.setIfInBounds i true) = Dl vl listed := by
     funext j
     by_cases e : j = i
     ·subst e; rw [hDi, hloud]; unfold Dl; rw [hloud]; simp
     ·exact hDne j e
    obtain ⟨v, es, hv, he, hs⟩ := hstep u i o hit ho
    have hns' : ∀ (u' : Nat → Wt), (∀ j, Dl vl listed j = true → u' j = u j) → ∀ v', (∃ es', eqs es' ∧ StepOk P R L os vl gl u' es' i o (foldPut A K (os.take i) ((vs u').take i)) v') →
      (Region.wanted o (yielded os.toArray a.tmps) = false ∧ v' = undef) ∨ (Region.wanted o (yielded os.toArray a.tmps) = true ∧ ∃ f, lk gl i = some f ∧ v' = f u') ∨ (Region.wanted o (yielded os.toArray a.tmps) = true ∧ lk gl i = none ∧ (execOp a.eval o).run P w = .ok (.value v') w) ∨
      (Region.wanted o (yielded os.toArray a.tmps) = true ∧ (execOp a.eval o).run P w = .ok (.value v') w) := fun u' hu' v' ⟨es', he', hs'⟩ => by
     have hlk := hlook u' hu'
     rcases hs' with ⟨h5, _, h6⟩ | ⟨h5, _, h7, ⟨f, h6, _⟩ | ⟨_, f, h8, h9⟩ | ⟨_, loc, es1, h8, h9⟩⟩
     ·exact .inl ⟨wantedK_at (fun y hy => hlk y (by unfold readTmps; exact List.mem_append_right _ hy)) h5, h6⟩
     ·rw [hloud] at h6; cases h6
     ·exact .inr (.inl ⟨wantedK_at (fun y hy => hlk y (by unfold readTmps; exact List.mem_append_right _ hy)) h5, f, h8, h9⟩)
     ·have hr := simQ_at (hS _ _ _ hSw).1 (hS _ _ _ hSw).2 _ _ _ _ _ h8 (fun p hp => he' p (h9 p hp))
      rw [← exec_at hlk hns h7] at hr
      exact .inr (.inr (.inr ⟨wantedK_at (fun y hy => hlk y (by unfold readTmps; exact List.mem_append_right _ hy)) h5, hr⟩))
    have hmain : (Region.wanted o (yielded os.toArray a.tmps) = false ∧ v = undef) ∨ (Region.wanted o (yielded os.toArray a.tmps) = true ∧ (execOp a.eval o).run P w = .ok (.value v) w) := by
     rcases hs with ⟨h5, _, h6⟩ | ⟨h5, _, h7, ⟨f, h6, _⟩ | ⟨_, f, h8, h9⟩ | ⟨_, loc, es1, h8, h9⟩⟩
     ·exact .inl ⟨wantedK_at (fun y hy => hlook u (fun _ _ => rfl) y (by unfold readTmps; exact List.mem_append_right _ hy)) h5, h6⟩
     ·rw [hloud] at h6; cases h6
     ·have hr := hg i f h8 (Dl vl listed) u w hpre hSw
      have hg' : os.getD i default = o := by rw [List.getD_eq_getElem?_getD, ho]; rfl
      rw [hg', ← exec_at (hlook u (fun _ _ => rfl)) hns h7, ← h9] at hr
      exact .inr ⟨wantedK_at (fun y hy => hlook u (fun _ _ => rfl) y (by unfold readTmps; exact List.mem_append_right _ hy)) h5, hr⟩
     ·have hr := simQ_at (hS _ _ _ hSw).1 (hS _ _ _ hSw).2 _ _ _ _ _ h8 (fun p hp => he p (h9 p hp))
      rw [← exec_at (hlook u (fun _ _ => rfl)) hns h7] at hr
      exact .inr ⟨wantedK_at (fun y hy => hlook u (fun _ _ => rfl) y (by unfold readTmps; exact List.mem_append_right _ hy)) h5, hr⟩
    have hval : ∀ u', (∀ j, Dl vl listed j = true → u' j = u j) → (vs u')[i]? = some v := fun u' hu' => by
     obtain ⟨v', es', hv', he', hs'⟩ := hstep u' i o hit ho
     rw [hv']
     rcases hns' u' hu' v' ⟨es', he', hs'⟩ with ⟨h5, h6⟩ | ⟨h5, f, h6, h7⟩ | ⟨h5, _, h7⟩ | ⟨h5, h7⟩
     ·rcases hmain with ⟨_, h8⟩ | ⟨h8, _⟩
      ·rw [h6, h8]
      ·rw [h5] at h8; cases h8
     ·rcases hns' u (fun _ _ => rfl) v ⟨es, he, hs⟩ with ⟨h8, _⟩ | ⟨_, f', h8, h9⟩ | ⟨_, h8, _⟩ | ⟨_, h8⟩
      ·rw [h5] at h8; cases h8
      ·rw [h6] at h8
       injection h8 with h8
       subst h8
       rw [h7, h9, hgu i f h6 u' u (fun j hj hlj => hu' j (hpre j hj hlj))]
      ·rw [h6] at h8; cases h8
      ·rcases hmain with ⟨h9, _⟩ | ⟨_, h9⟩
       ·rw [h5] at h9; cases h9
       ·-- v is given, too
        rcases hs with ⟨h10, _, _⟩ | ⟨_, _, h11, ⟨f'', h10, _⟩ | ⟨_, f'', h10, h12⟩ | ⟨_, loc, es1, h10, h12⟩⟩
        ·have := wantedK_at (fun y hy => hlook u (fun _ _ => rfl) y (by unfold readTmps; exact List.mem_append_right _ hy)) h10
         rw [h5] at this; cases this
        ·rw [hloud] at h10; cases h10
        ·rw [h6] at h10
         injection h10 with h10
         subst h10
         rw [h7, h12, hgu i f h6 u' u (fun j hj hlj => hu' j (hpre j hj hlj))]
        ·have hr := hg i f h6 (Dl vl listed) u w hpre hSw
         have hg' : os.getD i default = o := by rw [List.getD_eq_getElem?_getD, ho]; rfl
         rw [hg', ← exec_at (hlook u (fun _ _ => rfl)) hns h11, h9] at hr
         injection hr with hr
         injection hr with hr
         rw [h7, hr, hgu i f h6 u' u (fun j hj hlj => hu' j (hpre j hj hlj))]
     ·rcases hmain with ⟨h9, _⟩ | ⟨_, h9⟩
      ·rw [h5] at h9; cases h9
      ·rw [h7] at h9
       injection h9 with h9
       injection h9 with h9
       rw [h9]
     ·rcases hmain with ⟨h9, _⟩ | ⟨_, h9⟩
      ·rw [h5] at h9; cases h9
      ·rw [h7] at h9
       injection h9 with h9
       injection h9 with h9
       rw [h9]
    have hnext : wpAny P .any os.toArray Q fuel (listed.setIfInBounds i true) (a.put o.dst v) w :=
     ih _ u _ w hsz' hlt' hcl' (by rw [hDsame]; exact hSw) (fun u' hu' => by
      have hu1 : ∀ j, Dl vl listed j = true → u' j = u j := fun j hj => hu' j (by rw [hDsame]; exact hj)
      exact hKDput u' v (hKD u' hu1) (hval u' hu1)) hcnt'
    unfold wpOp
    rw [hoi]
    simp only
    rcases hmain with ⟨h5, h6⟩ | ⟨h5, h6⟩
    ·rw [if_neg (by rw [h5]; decide)]
     subst h6
     exact hnext
    ·rw [if_pos h5]
     refine .inl ?_
     unfold Oper.wp
     rw [h6, Oper.upon_value]
     exact hnext

/-- The values in the text's order. -/
def vsOf (P : Program) (R : List (Addr × Value)) (L : List Blk) (os : List Oper) (A : Fr) (vl : List (Nat × (Wt → Value))) (gl : List (Nat × ((Nat → Wt) → Value))) (locs : List Loc) (t : Nat) (K : List (Nat × Value)) (u : Nat → Wt) : List Value :=
 ((qSim P R L os A vl gl u locs 0 (os.take t) K).map (·.1)).getD []

/-- What each operation that acts has to show. -/
def Louds (P : Program) (os : List Oper) (an : List Nat) (vl : List (Nat × (Wt → Value))) (S : (Nat → Bool) → (Nat → Wt) → World → Prop) : List (Nat × (Wt → Value)) → List ((Nat → Wt) → List (Nat × Value)) → Prop
 | [], _ => True
 | _ :: _, [] => False
 | (i, f) :: r, Kl :: Ks => (∀ D u w, D i = false → (∀ j, behind an i j = true → (lk vl j).isSome = true → D j = true) → S D u w → Does P (execOp (evalK (Kl u)) (os.getD i default)) w (fun v w' => ∃ x, v = f x ∧ S (dset D i) (upd u i x) w')) ∧ Louds P os an vl S r Ks
/-- And each that is told beside. -/
def Givens (P : Program) (os : List Oper) (an : List Nat) (vl : List (Nat × (Wt → Value))) (S : (Nat → Bool) → (Nat → Wt) → World → Prop) : List (Nat × ((Nat → Wt) → Value)) → List ((Nat → Wt) → List (Nat × Value)) → Prop
 | [], _ => True
 | _ :: _, [] => False
 | (i, f) :: r, Kl :: Ks => (∀ D u w, (∀ j, behind an i j = true → (lk vl j).isSome = true → D j = true) → S D u w → (execOp (evalK (Kl u)) (os.getD i default)).run P w = .ok (.value (f u)) w) ∧
   (∀ u u', (∀ j, behind an i j = true → (lk vl j).isSome = true → u j = u' j) → f u = f u') ∧ Givens P os an vl S r Ks
def framesOk {α : Type} (A : Fr) (K : List (Nat × Value)) (os : List Oper) (vs : (Nat → Wt) → List Value) : List (Nat × α) → List ((Nat → Wt) → List (Nat × Value)) → Prop
 | [], _ => True
 | _ :: _, [] => False
 | (i, _) :: r, Kl :: Ks => (∀ u, foldPut A K (os.take i) ((vs u).take i) = Kl u) ∧ framesOk A K os vs r Ks
theorem louds_get {an : List Nat} {vl : List (Nat × (Wt → Value))} {S : (Nat → Bool) → (Nat → Wt) → World → Prop} {vs : (Nat → Wt) → List Value} : ∀ (l : List (Nat × (Wt → Value))) (Ks : List ((Nat → Wt) → List (Nat × Value))), Louds P os an vl S l Ks → framesOk A K os vs l Ks →
  ∀ i f, (i, f) ∈ l → ∀ D u w, D i = false → (∀ j, behind an i j = true → (lk vl j).isSome = true → D j = true) → S D u w → Does P (execOp (evalK (foldPut A K (os.take i) ((vs u).take i))) (os.getD i default)) w (fun v w' => ∃ x, v = f x ∧ S (dset D i) (upd u i x) w')
 | [], _, _, _ => fun i f h => by cases h
 | _ :: _, [], h, _ => h.elim
 | (j, g) :: r, Kl :: Ks, h, hf => fun i f hi D u w h1 h2 h3 => by
  rcases List.mem_cons.1 hi with e | hi
  ·injection e with e1 e2
   subst e1; subst e2
   rw [hf.1 u]
   exact h.1 D u w h1 h2 h3
  ·exact louds_get r Ks h.2 hf.2 i f hi D u w h1 h2 h3
theorem givens_get {an : List Nat} {vl : List (Nat × (Wt → Value))} {S : (Nat → Bool) → (Nat → Wt) → World → Prop} {vs : (Nat → Wt) → List Value} : ∀ (l : List (Nat × ((Nat → Wt) → Value))) (Ks : List ((Nat → Wt) → List (Nat × Value))), Givens P os an vl S l Ks → framesOk A K os vs l Ks →
  ∀ i f, (i, f) ∈ l → (∀ D u w, (∀ j, behind an i j = true → (lk vl j).isSome = true → D j = true) → S D u w → (execOp (evalK (foldPut A K (os.take i) ((vs u).take i))) (os.getD i default)).run P w = .ok (.value (f u)) w) ∧
   (∀ u u', (∀ j, behind an i j = true → (lk vl j).isSome = true → u j = u' j) → f u = f u')
 | [], _, _, _ => fun i f h => by cases h
 | _ :: _, [], h, _ => h.elim
 | (j, g) :: r, Kl :: Ks, h, hf => fun i f hi => by
  rcases List.mem_cons.1 hi with e | hi
  ·injection e with e1 e2
   subst e1; subst e2
   refine ⟨fun D u w h2 h3 => ?_, h.2.1⟩
   rw [hf.1 u]
   exact h.1 D u w h2 h3
  ·exact givens_get r Ks h.2.2 hf.2 i f hi

theorem Sat.drawn {B : Base} {I : Imm} {nx : Nat} {L : List Blk} {X : List Res} {w : World} (h : Sat B I nx L X w) (n : Nat) : Sat B I nx L X { w with drawn := n } :=
 ⟨⟨h.evo.os, h.evo.tape, h.evo.output, h.evo.size, h.evo.blk⟩, h.hnx, h.blk, h.own, h.ne, fun r hr => r.stable I w _ (fun _ _ => rfl) (h.res r hr), h.rown, h.rdis, h.rblk, h.im, h.imL, h.imX, h.le, h.inew⟩

theorem lk_lt {α : Type} {t : Nat} : ∀ {l : List (Nat × α)}, (l.all fun p => decide (p.1 < t)) = true → ∀ i, (lk l i).isSome = true → i < t := by
 intro l h i hi
 obtain ⟨a, ha⟩ := Option.isSome_iff_exists.1 hi
 have := List.all_eq_true.1 h _ (lk_mem ha)
 simpa using this

theorem Sat.drawnAny {B : Base} {I : Imm} {nx : Nat} {L : List Blk} {X : List Res} (t : Nat) (os : List Oper) (an : List Nat) (vl : List (Nat × (Wt → Value))) (gl : List (Nat × ((Nat → Wt) → Value))) (R : List (Addr × Value)) (Lq : List Blk) (locs : List Loc)
  (han : ancs os [] = an) (hok : drawOk os an t = true) (hlt : (vl.all fun p => decide (p.1 < t)) = true)
  (hq : ∀ u, (qSim P R Lq os A vl gl u locs 0 (os.take t) K).isSome = true)
  (he : ∀ u, (qSim P R Lq os A vl gl u locs 0 (os.take t) K).map (fun x => x.2.2.map (·.1)) = (qSim P R Lq os A vl gl u locs 0 (os.take t) K).map (fun x => x.2.2.map (·.2)))
  (S : (Nat → Bool) → (Nat → Wt) → World → Prop) (hS : ∀ D u w, S D u w → (∀ b ∈ Lq, w.heap[b.g]? = some (.cells b.cs.toArray b.ty (0, 0))) ∧ ∀ r ∈ R, w.cell? r.1 = some r.2)
  (h0 : ∀ u w, Sat B I nx L X w → S (fun _ => false) u w)
  (Ks : List ((Nat → Wt) → List (Nat × Value))) (hf : framesOk A K os (vsOf P R Lq os A vl gl locs t K) vl Ks) (hl : Louds P os an vl S vl Ks)
  (Kg : List ((Nat → Wt) → List (Nat × Value))) (hfg : framesOk A K os (vsOf P R Lq os A vl gl locs t K) gl Kg) (hg : Givens P os an vl S gl Kg)
  (K' : (Nat → Wt) → List (Nat × Value)) (hK : ∀ u, foldPut A K (os.take t) (vsOf P R Lq os A vl gl locs t K u) = K' u)
  (k : ∀ u a w, S (Dall vl) u w → Knows A (K' u) a → wpList P os.toArray Q (os.drop t) a w) : ∀ a w, Knows A K a → Sat B I nx L X w → wpAny P .any os.toArray Q os.toArray.size (Array.replicate os.toArray.size false) a { w with drawn := w.drawn + 1 } := by
 intro a w ha hs
 have hq' : ∀ u, ∃ K' es, qSim P R Lq os A vl gl u locs 0 (os.take t) K = some (vsOf P R Lq os A vl gl locs t K u, K', es) ∧ eqs es := fun u => by
  have h1 := hq u
  have h2 := he u
  unfold vsOf
  cases hx : qSim P R Lq os A vl gl u locs 0 (os.take t) K with
  | none => rw [hx] at h1; cases h1
  | some x =>
   obtain ⟨vs, K1, es⟩ := x
   rw [hx] at h2
   simp only [Option.map_some, Option.some.injEq] at h2
   exact ⟨K1, es, rfl, eqs_of_map h2⟩
 have hsz : (Array.replicate os.toArray.size false).size = os.length := by simp
 have hno : ∀ j, ¬ lstOf (Array.replicate os.toArray.size false) j := fun j hj => by
  unfold lstOf at hj
  rw [Array.getD_eq_getD_getElem?, Array.getElem?_replicate] at hj
  split at hj <;> simp at hj
 have hD0 : Dl vl (Array.replicate os.toArray.size false) = fun _ => false := by
  funext j
  have := hno j
  unfold lstOf at this
  unfold Dl
  cases hc : (Array.replicate os.toArray.size false).getD j false with
  | false => rfl
  | true => exact absurd hc this
 refine any_body han hok (lk_lt hlt) (vsOf P R Lq os A vl gl locs t K) hq' S hS (fun i f hi => louds_get vl Ks hl hf i f (lk_mem hi)) (fun i f hi => (givens_get gl Kg hg hfg i f (lk_mem hi)).1) (fun i f hi => (givens_get gl Kg hg hfg i f (lk_mem hi)).2)
  (fun u a w hSw hka => k u a w hSw (by rw [← hK u]; exact hka)) os.toArray.size _ (fun _ _ => (none, 0, [])) a _ hsz (fun j hj => absurd hj (hno j)) (fun i o hi => absurd hi (hno i)) (by rw [hD0]; exact h0 _ _ (hs.drawn _))
  (fun u' _ => ⟨ha.size, ha.defers, fun p hp _ => ha.slot p hp, fun i hi => absurd hi (hno i)⟩) ?_
 have key : ∀ (f : Nat → Bool) n, cntF f n ≤ n := by
  intro f n
  induction n with
  | zero => exact Nat.le_refl _
  | succ n ih => simp only [cntF]; split <;> omega
 simpa using key _ os.length

theorem OK.drawn {c : Code} {B : Base} {I : Imm} {nx : Nat} {L : List Blk} {X : List Res} (id t : Nat) (os : List Oper) (an : List Nat) (h : c = .region id os.toArray true) (hm : P.follows .mixedOrders = true) (vl : List (Nat × (Wt → Value))) (gl : List (Nat × ((Nat → Wt) → Value))) (R : List (Addr × Value)) (Lq : List Blk) (locs : List Loc)
  (han : ancs os [] = an) (hok : drawOk os an t = true) (hlt : (vl.all fun p => decide (p.1 < t)) = true)
  (hq : ∀ u, (qSim P R Lq os A vl gl u locs 0 (os.take t) K).isSome = true)
  (he : ∀ u, (qSim P R Lq os A vl gl u locs 0 (os.take t) K).map (fun x => x.2.2.map (·.1)) = (qSim P R Lq os A vl gl u locs 0 (os.take t) K).map (fun x => x.2.2.map (·.2)))
  (S : (Nat → Bool) → (Nat → Wt) → World → Prop) (hS : ∀ D u w, S D u w → (∀ b ∈ Lq, w.heap[b.g]? = some (.cells b.cs.toArray b.ty (0, 0))) ∧ ∀ r ∈ R, w.cell? r.1 = some r.2)
  (h0 : ∀ u w, Sat B I nx L X w → S (fun _ => false) u w)
  (Ks : List ((Nat → Wt) → List (Nat × Value))) (hf : framesOk A K os (vsOf P R Lq os A vl gl locs t K) vl Ks) (hl : Louds P os an vl S vl Ks)
  (Kg : List ((Nat → Wt) → List (Nat × Value))) (hfg : framesOk A K os (vsOf P R Lq os A vl gl locs t K) gl Kg) (hg : Givens P os an vl S gl Kg)
  (K' : (Nat → Wt) → List (Nat × Value)) (hK : ∀ u, foldPut A K (os.take t) (vsOf P R Lq os A vl gl locs t K u) = K' u)
  (k : ∀ u a w, S (Dall vl) u w → Knows A (K' u) a → wpList P os.toArray Q (os.drop t) a w) : OK P c Q A K B I nx L X := by
 intro a w ha hs
 rw [h]
 exact wp_region_any hm (Sat.drawnAny t os an vl gl R Lq locs han hok hlt hq he S hS h0 Ks hf hl Kg hfg hg K' hK k a w ha hs)

theorem RL.go {B : Base} {I : Imm} {nx : Nat} {L : List Blk} {X : List Res} {p : Nat} {a : Act} {w : World} (k : RL P os Q p A K B I nx L X) (ha : Knows A K a) (hs : Sat B I nx L X w) : wpList P os.toArray Q (os.drop p) a w := k a w ha hs
theorem Does.call {s : Sem Next} {w : World} {N : Value → World → Prop} (f : FuncId) (xs : List Value) (h : (simQ P [] [] s .no []).map (·.1) = some (.enter f xs.toArray)) (hc : Calls P f xs.toArray w fun e w' => ∃ v, e = .returned v ∧ N v w') : Does P s w N := by
 refine .inr ⟨f, xs.toArray, ?_, hc⟩
 cases hsim : simQ P [] [] s .no [] with
 | none => rw [hsim] at h; cases h
 | some x =>
  obtain ⟨x1, es1⟩ := x
  rw [hsim] at h
  simp only [Option.map_some, Option.some.injEq] at h
  subst h
  exact simQ_any _ _ _ _ hsim w
end

end Go.Proofs.YtfecniimkgkmfaaGreat.RW
namespace Go.Proofs.YtfecniimkgkmfaaGreat.AM
open Go Go.RowKit Go.Proofs.YtfecniimkgkmfaaGreat.RW

/-! ### what data are -/
inductive TC where
 | int (k : IntKind)
 | bool
 | str
 | unit
 | row (c : TC)
 | pair (a b : TC)
 deriving DecidableEq

@[reducible] def TC.I : TC → Type
 | .int _ => Int
 | .bool => Bool
 | .str => ByteArray
 | .unit => Unit
 | .row c => List c.I
 | .pair a b => a.I × b.I
def TC.sz : TC → Nat
 | .int _ => 1
 | .bool => 1
 | .str => 1
 | .unit => 0
 | .row _ => 1
 | .pair a b => a.sz + b.sz
def TC.dflt : (c : TC) → c.I
 | .int _ => (0 : Int)
 | .bool => false
 | .str => (⟨#[]⟩ : ByteArray)
 | .unit => ()
 | .row _ => []
 | .pair a b => (a.dflt, b.dflt)
def TC.cast {a : TC} (b : TC) (x : a.I) : Option b.I := if h : a = b then some (h ▸ x) else none
def TC.castL {a : TC} (b : TC) (x : List a.I) : Option (List b.I) := if h : a = b then some (h ▸ x) else none

/-! ### one cell; a value; a piece of memory -/
/-- What is known to the letter and never turns: a map from numbers to functions. -/
inductive AK where
 | mp (k : IntKind) (l : List (Int × Nat))
 deriving DecidableEq
inductive AC where
 | v (x : Value)
 | rd (full : Bool) (c : TC) (l : List c.I)
 | sl (o : Nat)
 | sb (o n : Nat)
 | ptr (o off : Nat)
 | el (o sz : Nat) (i : Nat) (off : Nat)
 | pr (c : TC) (x : c.I) (off : Nat)
 | fn (f : Fn) (first cap : List (Nat × Nat))
 | kn (x : AK)
 | ea (o off : Nat) (c : TC) (n i q : Nat)
inductive AW where
 | c (a : AC)
 | agg (l : List AC)
inductive AV where
 | w (x : AW)
 | tup (l : List AW)
inductive AObj where
 | blk (ty : TypeId) (cs : List AC)
 | row (e : TypeId) (c : TC) (l : List c.I)
 | frz (c : TC) (l : List c.I)
 | gone
abbrev AMem := List (Nat × AObj)
abbrev ASl := List (Nat × AV)

/-- What is told of data, cell by cell, and back. -/
def TC.one : (c : TC) → c.I → AC
 | .int k, x => .v (.int k x)
 | .bool, x => .v (.bool x)
 | .str, x => .v (.string x)
 | .row c, l => .rd false c l
 | .unit, _ => .v undef
 | .pair _ _, _ => .v undef
def TC.cells : (c : TC) → c.I → List AC
 | .int k, x => [.v (.int k x)]
 | .bool, x => [.v (.bool x)]
 | .str, x => [.v (.string x)]
 | .unit, _ => []
 | .row c, l => [.rd false c l]
 | .pair a b, x => a.cells x.1 ++ b.cells x.2
def TC.ofC : (c : TC) → AC → Option c.I
 | .int k, .v (.int k' x) => if k = k' then some x else none
 | .bool, .v (.bool b) => some b
 | .str, .v (.string s) => some s
 | .row c, .rd _ c' l => TC.castL (a := c') c l
 | .row _, .v (.slice none 0 0) => some []
 | _, _ => none
def TC.ofCs : (c : TC) → List AC → Option (c.I × List AC)
 | .unit, r => some ((), r)
 | .pair a b, r =>
  match a.ofCs r with
  | none => none
  | some (x, r1) =>
   match b.ofCs r1 with
   | none => none
   | some (y, r2) => some ((x, y), r2)
 | .int k, h :: r => match TC.ofC (.int k) h with | some x => some (x, r) | none => none
 | .bool, h :: r => match TC.ofC .bool h with | some x => some (x, r) | none => none
 | .str, h :: r => match TC.ofC .str h with | some x => some (x, r) | none => none
 | .row c, h :: r => match TC.ofC (.row c) h with | some x => some (x, r) | none => none
 | _, [] => none

/-! ### programs of told steps -/
inductive Tr (ρ : Type) : Type 1 where
 | ret (r : ρ) (ws : AMem)
 | look (o : Nat) (k : Option AObj → Tr ρ)
 | chk (b : Bool) (t : Tr ρ)
 | ite (b : Bool) (t e : Tr ρ)
 | opt (α : Type) (x : Option α) (k : α → Tr ρ)
 | sum (α β : Type) (x : α ⊕ β) (k : α → Tr ρ) (l : β → Tr ρ)
 | fail

universe u
def lk {α : Type u} : List (Nat × α) → Nat → Option α
 | [], _ => none
 | (j, a) :: r, i => bif Nat.beq j i then some a else lk r i

/-- The run of such a program, with what comes behind. -/
def Tr.run {ρ β : Type} (m : AMem) : Tr ρ → List Nat → (ρ → AMem → List Nat → Option β) → Option β
 | .ret r ws, rs, κ => κ r ws rs
 | .look o k, rs, κ => (k (lk m o)).run m (o :: rs) κ
 | .chk b t, rs, κ => bif b then t.run m rs κ else none
 | .ite b t e, rs, κ => bif b then t.run m rs κ else e.run m rs κ
 | .opt _ x k, rs, κ => x.bind fun y => (k y).run m rs κ
 | .sum _ _ x k l, rs, κ => match x with | .inl y => (k y).run m rs κ | .inr y => (l y).run m rs κ
 | .fail, _, _ => none

inductive Tr.Ex {ρ : Type} (m : AMem) : Tr ρ → ρ → AMem → List Nat → Prop where
 | ret (r : ρ) (ws : AMem) : Tr.Ex m (.ret r ws) r ws []
 | look {o : Nat} {k : Option AObj → Tr ρ} {r : ρ} {ws : AMem} {rs : List Nat} (h : Tr.Ex m (k (lk m o)) r ws rs) : Tr.Ex m (.look o k) r ws (o :: rs)
 | chk {t : Tr ρ} {r : ρ} {ws : AMem} {rs : List Nat} (h : Tr.Ex m t r ws rs) : Tr.Ex m (.chk true t) r ws rs
 | iteT {t e : Tr ρ} {r : ρ} {ws : AMem} {rs : List Nat} (h : Tr.Ex m t r ws rs) : Tr.Ex m (.ite true t e) r ws rs
 | iteF {t e : Tr ρ} {r : ρ} {ws : AMem} {rs : List Nat} (h : Tr.Ex m e r ws rs) : Tr.Ex m (.ite false t e) r ws rs
 | opt {α : Type} {x : Option α} {k : α → Tr ρ} (y : α) (hx : x = some y) {r : ρ} {ws : AMem} {rs : List Nat} (h : Tr.Ex m (k y) r ws rs) : Tr.Ex m (.opt α x k) r ws rs
 | inl {α β : Type} {k : α → Tr ρ} {l : β → Tr ρ} (y : α) {r : ρ} {ws : AMem} {rs : List Nat} (h : Tr.Ex m (k y) r ws rs) : Tr.Ex m (.sum α β (.inl y) k l) r ws rs
 | inr {α β : Type} {k : α → Tr ρ} {l : β → Tr ρ} (y : β) {r : ρ} {ws : AMem} {rs : List Nat} (h : Tr.Ex m (l y) r ws rs) : Tr.Ex m (.sum α β (.inr y) k l) r ws rs

def Tr.ofO {ρ : Type} : Option ρ → Tr ρ
 | some r => .ret r []
 | none => .fail

/-! ### patterns: told data with holes -/
inductive PC where
 | h (c : TC)
 | full (c : TC)
 | sl (o : Nat)
 | sb (o n : Nat)
 | ptr (o off : Nat)
 | fn (f : Nat) (first cap : List (Nat × Nat))
 | kn (x : AK)
 | nl
@[reducible] def PC.I : PC → Type
 | .h c => c.I
 | .full c => List c.I
 | _ => Unit
@[reducible] def PCsI : List PC → Type
 | [] => Unit
 | p :: r => p.I × PCsI r
inductive PW where
 | c (p : PC)
 | st (c : TC)
 | agg (l : List PC)
@[reducible] def PW.I : PW → Type
 | .c p => p.I
 | .st d => d.I
 | .agg l => PCsI l
@[reducible] def PWsI : List PW → Type
 | [] => Unit
 | p :: r => p.I × PWsI r
inductive PV where
 | w (x : PW)
 | tup (l : List PW)
@[reducible] def PV.I : PV → Type
 | .w x => x.I
 | .tup l => PWsI l
inductive PO where
 | blk (ty : TypeId) (cs : List PC)
 | stb (ty : TypeId) (c : TC)
 | row (e : TypeId) (c : TC)
 | frz (c : TC)
 | gone
 | same
@[reducible] def PO.I : PO → Type
 | .blk _ cs => PCsI cs
 | .stb _ c => c.I
 | .row _ c => List c.I
 | .frz c => List c.I
 | .gone => Unit
 | .same => Unit
def PO.live : PO → Bool
 | .gone => false
 | _ => true
def PO.isSame : PO → Bool
 | .same => true
 | _ => false
def PO.real (p : PO) : Bool := p.live && !p.isSame
@[reducible] def SlI : List (Nat × PV) → Type
 | [] => Unit
 | p :: r => p.2.I × SlI r
@[reducible] def ObI : List PO → Type
 | [] => Unit
 | p :: r => p.I × ObI r
structure Pat where
 sl : List (Nat × PV)
 ob : List PO
@[reducible] def Pat.I (p : Pat) : Type := SlI p.sl × ObI p.ob

/-! ### patterns, read off -/
/-- Which piece a pattern's piece is; what is frozen on the way. -/
structure Sg where
 b : List (Nat × Nat)
 fz : AMem
def Sg.bind (s : Sg) (i o : Nat) : Option Sg :=
 match lk s.b i with
 | some o' => bif Nat.beq o o' then some s else none
 | none => bif s.b.any (fun p => Nat.beq p.2 o) then none else some ⟨(i, o) :: s.b, s.fz⟩
def Sg.binds : List (Nat × Nat) → List (Nat × Nat) → Sg → Option Sg
 | [], [], s => some s
 | (i, j) :: r, (o, q) :: r', s => bif Nat.beq j q then match s.bind i o with | some s' => Sg.binds r r' s' | none => none else none
 | _, _, _ => none

section
variable {ρ : Type}
def mPC (p : PC) (a : AC) (s : Sg) (k : p.I → Sg → Tr ρ) : Tr ρ :=
 match p with
 | .h c =>
  match a with
  | .sl o =>
   match c with
   | .row c' => .look o fun ob =>
    match ob with
    | some (.row _ c2 l) => match TC.castL c' l with | some l' => k l' ⟨s.b, (o, .frz c2 l) :: s.fz⟩ | none => .fail
    | some (.frz _ l) => match TC.castL c' l with | some l' => k l' s | none => .fail
    | _ => .fail
   | _ => .fail
  | a => match c.ofC a with | some x => k x s | none => .fail
 | .full c => match a with | .rd true _ l => (match TC.castL c l with | some l => k l s | none => .fail) | _ => .fail
 | .sl i => match a with | .sl o => (match s.bind i o with | some s' => k () s' | none => .fail) | _ => .fail
 | .sb i q => match a with | .sb o q' => (bif Nat.beq q q' then match s.bind i o with | some s' => k () s' | none => .fail else .fail) | _ => .fail
 | .ptr i q => match a with | .ptr o q' => (bif Nat.beq q q' then match s.bind i o with | some s' => k () s' | none => .fail else .fail) | _ => .fail
 | .fn f l1 l2 =>
  match a with
  | .fn (.func g) r1 r2 => bif Nat.beq f g then match Sg.binds l1 r1 s with | some s' => (match Sg.binds l2 r2 s' with | some s'' => k () s'' | none => .fail) | none => .fail else .fail
  | _ => .fail
 | .kn x => match a with | .kn y => (bif decide (x = y) then k () s else .fail) | _ => .fail
 | .nl => match a with | .v (.slice none 0 0) => k () s | _ => .fail
def mPCs : (ps : List PC) → List AC → Sg → (PCsI ps → Sg → Tr ρ) → Tr ρ
 | [], [], s, k => k () s
 | p :: r, a :: az, s, k => mPC p a s fun x s => mPCs r az s fun xs s => k (x, xs) s
 | _, _, _, _ => .fail
/-- Rows of the call's own among the cells never turn from now on. -/
def fzCs : List AC → Sg → (List AC → Sg → Tr ρ) → Tr ρ
 | [], s, k => k [] s
 | .sl o :: r, s, k => .look o fun ob =>
  match ob with
  | some (.row _ c l) => fzCs r ⟨s.b, (o, .frz c l) :: s.fz⟩ fun az s => k (.rd false c l :: az) s
  | some (.frz c l) => fzCs r s fun az s => k (.rd false c l :: az) s
  | _ => .fail
 | a :: r, s, k => fzCs r s fun az s => k (a :: az) s
def mSt (c : TC) (l : List AC) (s : Sg) (k : c.I → Sg → Tr ρ) : Tr ρ := fzCs l s fun l s => match c.ofCs l with | some (x, []) => k x s | _ => .fail
def mPW (p : PW) (a : AW) (s : Sg) (k : p.I → Sg → Tr ρ) : Tr ρ :=
 match p with
 | .c p => match a with | .c a => mPC p a s k | _ => .fail
 | .st c => match a with | .agg l => mSt c l s k | _ => .fail
 | .agg ps => match a with | .agg l => mPCs ps l s k | _ => .fail
def mPWs : (ps : List PW) → List AW → Sg → (PWsI ps → Sg → Tr ρ) → Tr ρ
 | [], [], s, k => k () s
 | p :: r, a :: az, s, k => mPW p a s fun x s => mPWs r az s fun xs s => k (x, xs) s
 | _, _, _, _ => .fail
def mPV (p : PV) (a : AV) (s : Sg) (k : p.I → Sg → Tr ρ) : Tr ρ :=
 match p with
 | .w p => match a with | .w a => mPW p a s k | _ => .fail
 | .tup ps => match a with | .tup l => mPWs ps l s k | _ => .fail
def mSl : (ps : List (Nat × PV)) → ASl → Sg → (SlI ps → Sg → Tr ρ) → Tr ρ
 | [], _, s, k => k () s
 | p :: r, sl, s, k => match lk sl p.1 with | some a => mPV p.2 a s fun x s => mSl r sl s fun xs s => k (x, xs) s | none => .fail
def mPO (p : PO) (ob : Option AObj) (s : Sg) (k : p.I → Sg → Tr ρ) : Tr ρ :=
 match p with
 | .blk ty ps => match ob with | some (.blk ty' cs) => (bif Nat.beq ty ty' then mPCs ps cs s k else .fail) | _ => .fail
 | .stb ty c => match ob with | some (.blk ty' cs) => (bif Nat.beq ty ty' then mSt c cs s k else .fail) | _ => .fail
 | .row e c => match ob with | some (.row e' _ l) => (bif Nat.beq e e' then match TC.castL c l with | some l' => k l' s | none => .fail else .fail) | _ => .fail
 | .frz c => match ob with
  | some (.frz _ l) => (match TC.castL c l with | some l' => k l' s | none => .fail)
  | _ => .fail
 | .gone => k () s
 | .same => k () s
/-- The pieces from number i on. -/
def mOb : (ps : List PO) → Nat → Sg → (ObI ps → Sg → Tr ρ) → Tr ρ
 | [], _, s, k => k () s
 | p :: r, i, s, k =>
  match p with
  | .gone => mOb r (i + 1) s fun xs s => k ((), xs) s
  | .same => mOb r (i + 1) s fun xs s => k ((), xs) s
  | p => match lk s.b i with | some o => .look o fun ob => mPO p ob s fun x s => mOb r (i + 1) s fun xs s => k (x, xs) s | none => .fail
def Sg.ok (s : Sg) (n : Nat) : Bool := s.b.all (fun p => Nat.blt p.1 n) && s.fz.all fun q => !s.b.any fun p => Nat.beq p.2 q.1
def Pat.m (p : Pat) (sl : ASl) (s : Sg) (k : p.I → Sg → Tr ρ) : Tr ρ := mSl p.sl sl s fun xs s => mOb p.ob 0 s fun ys s => bif s.ok p.ob.length then k (xs, ys) s else .fail
end

/-! ### patterns, filled -/
section
variable (τ : Nat → Nat)
def PC.inst : (p : PC) → p.I → AC
 | .h c, x => c.one x
 | .full c, l => .rd true c l
 | .sl i, _ => .sl (τ i)
 | .sb i n, _ => .sb (τ i) n
 | .ptr i q, _ => .ptr (τ i) q
 | .fn f l1 l2, _ => .fn (.func f) (l1.map fun p => (τ p.1, p.2)) (l2.map fun p => (τ p.1, p.2))
 | .kn x, _ => .kn x
 | .nl, _ => .v (.slice none 0 0)
def instCs : (ps : List PC) → PCsI ps → List AC
 | [], _ => []
 | p :: r, x => p.inst τ x.1 :: instCs r x.2
def PW.inst : (p : PW) → p.I → AW
 | .c p, x => .c (p.inst τ x)
 | .st d, x => .agg (d.cells x)
 | .agg l, x => .agg (instCs τ l x)
def instWs : (ps : List PW) → PWsI ps → List AW
 | [], _ => []
 | p :: r, x => p.inst τ x.1 :: instWs r x.2
def PV.inst : (p : PV) → p.I → AV
 | .w p, x => .w (p.inst τ x)
 | .tup l, x => .tup (instWs τ l x)
def PO.inst : (p : PO) → p.I → AObj
 | .blk ty cs, x => .blk ty (instCs τ cs x)
 | .stb ty c, x => .blk ty (c.cells x)
 | .row e c, l => .row e c l
 | .frz c, l => .frz c l
 | .gone, _ => .gone
 | .same, _ => .gone
def instSl : (ps : List (Nat × PV)) → SlI ps → ASl
 | [], _ => []
 | p :: r, x => (p.1, p.2.inst τ x.1) :: instSl r x.2
def instOb : (ps : List PO) → Nat → ObI ps → AMem
 | [], _, _ => []
 | p :: r, i, x => bif p.isSame then instOb r (i + 1) x.2 else (τ i, p.inst τ x.1) :: instOb r (i + 1) x.2
end

/-! ### what a piece of code, or a function, is told to do -/
def kOf : Exit → Option Nat
 | .normal => some 0
 | .ret => some 1
 | .exit n => some (n + 2)
 | _ => none
def ofK : Nat → Exit
 | 0 => .normal
 | 1 => .ret
 | n + 2 => .exit n
/-- A way out: which exit, what is told there, as data of which type. -/
structure OutD where
 k : Nat
 p : Pat
 R : Type
 to : p.I → R
 of : R → p.I
 ok : ∀ y, of (to y) = y
@[reducible] def OutI : List OutD → Type
 | [] => Empty
 | [d] => d.R
 | d :: q :: r => d.R ⊕ OutI (q :: r)
structure FragD where
 pin : Pat
 outs : List OutD
 g : pin.I → Option (OutI outs)
def OutD.tr (fz : AMem) (τ : Nat → Nat) (d : OutD) (y : d.R) : Tr (Nat × ASl) := .ret (d.k, instSl τ d.p.sl (d.of y).1) (instOb τ d.p.ob 0 (d.of y).2 ++ fz)
/-- Which exit, with which slots and pieces. -/
def outTr (fz : AMem) (τ : Nat → Nat) : (os : List OutD) → OutI os → Tr (Nat × ASl)
 | [], _ => .fail
 | [d], y => d.tr fz τ y
 | d :: q :: r, y => .sum _ _ y (fun y => d.tr fz τ y) (fun y => outTr fz τ (q :: r) y)
/-- The new pieces are new: none has their numbers. -/
def newTr {ρ : Type} : Nat → Nat → Tr ρ → Tr ρ
 | 0, _, t => t
 | n + 1, b, t => .look b fun ob => match ob with | none => newTr n (b + 1) t | some _ => .fail
def outsN : List OutD → Nat → Nat
 | [], n => n
 | d :: r, n => outsN r (max d.p.ob.length n)
/-- Does each way out tell all the pieces? -/
def outsOk (n : Nat) (os : List OutD) : Bool := os.all fun d => Nat.ble n d.p.ob.length && (d.p.ob.drop n).all fun p => !p.isSame
/-- Data told in the one way. -/
def canD : AC → Bool
 | .v (.int _ _) => true
 | .v (.bool _) => true
 | .v (.string _) => true
 | .rd false _ _ => true
 | _ => false
def canC : PC → AC → Bool
 | .h _, a => canD a
 | .full _, _ => true
 | .sl _, _ => true
 | .sb _ _, _ => true
 | .ptr _ _, _ => true
 | .fn _ _ _, _ => false
 | .kn _, _ => false
 | .nl, _ => true
def canCs : List PC → List AC → Bool
 | [], [] => true
 | p :: r, a :: l => canC p a && canCs r l
 | _, _ => false
def canO : PO → AObj → Bool
 | .blk _ ps, .blk _ cs => canCs ps cs
 | .stb _ _, .blk _ cs => cs.all canD
 | .row _ _, .row _ _ _ => true
 | .frz _, .frz _ _ => true
 | _, _ => false
/-- Pieces that stay as they are: which of them are not told in the one way. -/
def canTr {ρ : Type} (obs : List PO) (b : List (Nat × Nat)) (t : List Nat → Tr ρ) : List Nat → List Nat → Tr ρ
 | [], nc => t nc
 | i :: r, nc =>
  match obs[i]?, lk b i with
  | some po, some o => .look o fun ob =>
   match ob with
   | some ob => bif canO po ob then canTr obs b t r nc else canTr obs b t r (i :: nc)
   | none => .fail
  | _, _ => .fail
/-- Some of the pieces. -/
def instPick (τ : Nat → Nat) (nc : List Nat) : (ps : List PO) → Nat → ObI ps → AMem
 | [], _, _ => []
 | p :: r, i, x => bif nc.any (Nat.beq i) then (τ i, p.inst τ x.1) :: instPick τ nc r (i + 1) x.2 else instPick τ nc r (i + 1) x.2
def sames (n : Nat) (os : List OutD) : List Nat := (List.range n).filter fun i => os.any fun d => match d.p.ob[i]? with | some p => p.isSame | none => false
def refsC : PC → List Nat
 | .h _ => []
 | .full _ => []
 | .sl i => [i]
 | .sb i _ => [i]
 | .ptr i _ => [i]
 | .fn _ a b => a.map (·.1) ++ b.map (·.1)
 | .kn _ => []
 | .nl => []
def refsO : PO → List Nat
 | .blk _ ps => ps.flatMap refsC
 | _ => []
def FragD.tau (d : FragD) (s : Sg) (base : Nat) (i : Nat) : Nat := bif Nat.blt i d.pin.ob.length then (lk s.b i).getD 0 else base + (i - d.pin.ob.length)
def frTr (d : FragD) (sl : ASl) (base : Nat) : Tr (Nat × ASl) :=
 d.pin.m sl ⟨[], []⟩ fun x s => newTr (outsN d.outs 0 - d.pin.ob.length) base (canTr d.pin.ob s.b (fun nc => bif outsOk d.pin.ob.length d.outs && d.pin.ob.all PO.real then .opt _ (d.g x) fun y => outTr (instPick (d.tau s base) nc d.pin.ob 0 x.2 ++ s.fz) (d.tau s base) d.outs y else .fail) (sames d.pin.ob.length d.outs) [])
def trMap {α β : Type} (f : α → β) : Tr α → Tr β
 | .ret r ws => .ret (f r) ws
 | .look o k => .look o fun ob => trMap f (k ob)
 | .chk b t => .chk b (trMap f t)
 | .ite b t e => .ite b (trMap f t) (trMap f e)
 | .opt α x k => .opt α x fun y => trMap f (k y)
 | .sum α β x k l => .sum α β x (fun y => trMap f (k y)) (fun y => trMap f (l y))
 | .fail => .fail
/-- Which pieces keep their places. -/
def keep (p : Pat) (n : Nat) : List Nat := (List.range n).filter fun i => match p.ob[i]? with | some o => o.live | none => true
/-- What stays as it was may be told so. -/
def sameOk (obs : List PO) (q : Pat) (un : List Nat) : Bool :=
 Nat.ble obs.length q.ob.length && ((List.range obs.length).all fun i =>
  match q.ob[i]? with
  | some p => !p.isSame || (un.any (Nat.beq i) && (match obs[i]? with | some po => po.real && (refsO po).all fun j => (keep q obs.length).any (Nat.beq j) | none => false))
  | none => true) && (q.ob.drop obs.length).all fun p => !p.isSame
def OutD.extG (obs : List PO) (un : List Nat) (sl : ASl) (d : OutD) : Tr d.R := d.p.m sl ⟨(keep d.p obs.length).map (fun i => (i, i)), []⟩ fun x s => bif (List.range obs.length).all (fun i => (keep d.p obs.length).any (Nat.beq i) || (lk s.b i).isNone) && sameOk obs d.p un then .ret (d.to x) [] else .fail
def OutD.ext (K : Option (List Nat)) (obs : List PO) (un : List Nat) (sl : ASl) (d : OutD) : Tr d.R :=
 match K with
 | some K => bif Nat.beq d.k 0 then d.p.m sl ⟨K.map (fun i => (i, i)), []⟩ fun x _ => bif d.p.ob.all PO.real && Nat.ble obs.length d.p.ob.length then .ret (d.to x) [] else .fail else d.extG obs un sl
 | none => d.extG obs un sl
/-- The exit and the state, read as one of the ways out. -/
def extTr (K : Option (List Nat)) (obs : List PO) (un : List Nat) (k : Nat) (sl : ASl) : (os : List OutD) → Tr (OutI os)
 | [] => .fail
 | [d] => bif Nat.beq k d.k then d.ext K obs un sl else .fail
 | d :: q :: r => bif Nat.beq k d.k then trMap .inl (d.ext K obs un sl) else trMap .inr (extTr K obs un k sl (q :: r))
/-- The pieces of the start that nothing was written to. -/
def unch (m : AMem) (n : Nat) : List Nat := (List.range n).filter fun i => !(m.take (m.length - n)).any fun q => Nat.beq q.1 i
end Go.Proofs.YtfecniimkgkmfaaGreat.AM
namespace Go.Proofs.YtfecniimkgkmfaaGreat.RW
open Go Go.RowKit

/-- Further cells that never turn. -/
def Imm.or (I C : Imm) : Imm := fun a => match I a with | some v => some v | none => C a
theorem Imm.le_or (I C : Imm) : I.le (I.or C) := fun a v h => by unfold Imm.or; rw [h]
theorem Imm.or_new {I C : Imm} {a : Addr} {v : Value} (h : (I.or C) a = some v) : I a = some v ∨ (I a = none ∧ C a = some v) := by
 unfold Imm.or at h
 cases hI : I a with
 | some u => rw [hI] at h; exact .inl h
 | none => rw [hI] at h; exact .inr ⟨rfl, h⟩
theorem Imm.or_get {I C : Imm} {a : Addr} {v : Value} (hn : I a = none) (h : C a = some v) : (I.or C) a = some v := by
 unfold Imm.or
 rw [hn]
 exact h

section
variable {P : Program} {c : Code} {Q : Exit → Act → World → Prop} {A : Fr} {K : List (Nat × Value)} {B : Base} {I : Imm} {nx : Nat} {L : List Blk} {X : List Res} {os : List Oper} {p : Nat}

theorem Sat.imm {w : World} (h : Sat B I nx L X w) (C : Imm) (hC : C.at_ w) (hL : ∀ a v, C a = some v → ∀ b ∈ L, b.g ≠ a.block) (hX : ∀ a v, C a = some v → ∀ r ∈ X, ¬ r.fp a.block) (hn : ∀ a v, C a = some v → B.w0.heap.size ≤ a.block ∨ B.S a.block) : Sat B (I.or C) nx L X w := by
 refine ⟨h.evo, h.hnx, h.blk, h.own, h.ne, fun r hr => r.ext _ _ w (Imm.le_or I C) (h.res r hr), h.rown, h.rdis, h.rblk, ?_, ?_, ?_, Imm.le_trans h.le (Imm.le_or I C), ?_⟩
 ·intro a v ha
  rcases Imm.or_new ha with h1 | ⟨_, h1⟩
  ·exact h.im a v h1
  ·exact hC a v h1
 ·intro a v ha
  rcases Imm.or_new ha with h1 | ⟨_, h1⟩
  ·exact h.imL a v h1
  ·exact hL a v h1
 ·intro a v ha
  rcases Imm.or_new ha with h1 | ⟨_, h1⟩
  ·exact h.imX a v h1
  ·exact hX a v h1
 ·intro a v ha
  rcases Imm.or_new ha with h1 | ⟨_, h1⟩
  ·exact h.inew a v h1
  ·exact .inr (hn a v h1)

/-- The cells of a row from the head of block g on. -/
def rowImm (g : Nat) (cs : List Value) : Imm := fun a => if a.block = g ∧ a.spot = none then cs[a.off]? else none
theorem rowImm_get {g j : Nat} {cs : List Value} : rowImm g cs ⟨g, j, none⟩ = cs[j]? := by
 unfold rowImm
 rw [if_pos ⟨rfl, rfl⟩]
theorem rowImm_some {g : Nat} {cs : List Value} {a : Addr} {v : Value} (h : rowImm g cs a = some v) : a = ⟨g, a.off, none⟩ ∧ cs[a.off]? = some v := by
 unfold rowImm at h
 split at h
 ·rename_i h1
  obtain ⟨b, o, s⟩ := a
  simp only at h1 h ⊢
  exact ⟨by rw [h1.1, h1.2], h⟩
 ·cases h

theorem rd_of_reps {α : Type} {d : Ty α} {J : Imm} {g : Nat} {xs : List α} {cs : List Value} (hr : Reps d J xs cs) (hJ : ∀ j u, cs[j]? = some u → J ⟨g, j, none⟩ = some u) (hl : xs.length ≤ 9223372036854775807) : Rd d J (some ⟨g, 0, none⟩) xs := by
 refine ⟨hl, fun _ => ⟨g, 0, rfl, fun j x hj => ?_⟩⟩
 obtain ⟨c, hk, hc⟩ := hr.get j x hj
 refine ⟨c, hk, fun i u hu => ?_⟩
 rw [Nat.zero_add]
 exact hJ _ _ (hc i u hu)

/-- A known block becomes a row of the call's own. -/
theorem Sat.toRow {i n sz : Nat} {b : Blk} {w : World} (h : Sat B I nx L X w) (hi : L[i]? = some b) (hn : b.cs.length = n * sz) (hl : n ≤ 9223372036854775807) :
  Sat B I nx (L.eraseIdx i) (X ++ [orow b.ty sz (some ⟨b.g, 0, none⟩) n n b.cs]) w := by
 have hbm := List.mem_of_getElem? hi
 obtain ⟨hil, hie⟩ := List.getElem?_eq_some_iff.1 hi
 have hs := h.less (List.eraseIdx_sublist L i) (List.Sublist.refl X)
 have hoth : ∀ b' ∈ L.eraseIdx i, b'.g ≠ b.g := fun b' hb' => by
  obtain ⟨j, hj, hne, rfl⟩ : ∃ (j : Nat) (hj : j < L.length), j ≠ i ∧ L[j] = b' := by
   obtain ⟨q, hq, hqr⟩ := List.getElem_of_mem hb'
   rw [List.length_eraseIdx_of_lt hil] at hq
   rw [List.getElem_eraseIdx] at hqr
   split at hqr
   ·exact ⟨q, by omega, by omega, hqr⟩
   ·exact ⟨q + 1, by omega, by omega, hqr⟩
  have hp := List.pairwise_iff_getElem.1 h.ne
  intro e6
  rcases Nat.lt_or_gt_of_ne hne with hlt | hlt
  ·exact hp j i hj hil hlt (by rw [hie]; exact e6)
  ·exact hp i j hil hj hlt (by rw [hie]; exact e6.symm)
 have hfp : ∀ k, (orow b.ty sz (some ⟨b.g, 0, none⟩) n n b.cs).fp k → k = b.g := by
  rintro k ⟨a, ha, rfl⟩
  injection ha with ha
  rw [← ha]
 refine ⟨hs.evo, hs.hnx, hs.blk, hs.own, hs.ne, ?_, ?_, ?_, ?_, hs.im, hs.imL, ?_, hs.le, hs.inew⟩
 ·intro r hr
  rcases List.mem_append.1 hr with hr | hr
  ·exact hs.res r hr
  ·rw [List.mem_singleton.1 hr]
   exact ⟨hn, .inr ⟨b.g, n, b.cs.toArray, rfl, Nat.zero_le _, h.blk b hbm, Nat.le_refl _, by simp only [maxLen]; omega, by simpa using hn, by rw [← hn]; simp⟩⟩
 ·intro r hr k hk
  rcases List.mem_append.1 hr with hr | hr
  ·exact hs.rown r hr k hk
  ·rw [List.mem_singleton.1 hr] at hk
   rw [hfp k hk]
   exact ⟨h.lt hbm, h.own b hbm⟩
 ·rw [List.pairwise_append]
  refine ⟨hs.rdis, List.pairwise_singleton _ _, fun a ha r hr k hk1 hk2 => ?_⟩
  rw [List.mem_singleton.1 hr] at hk2
  rw [hfp k hk2] at hk1
  exact h.rblk a ha b hbm hk1
 ·intro r hr b' hb' hf
  rcases List.mem_append.1 hr with hr | hr
  ·exact hs.rblk r hr b' hb' hf
  ·rw [List.mem_singleton.1 hr] at hf
   exact hoth b' hb' (hfp _ hf)
 ·intro a v ha r hr hf
  rcases List.mem_append.1 hr with hr | hr
  ·exact hs.imX a v ha r hr hf
  ·rw [List.mem_singleton.1 hr] at hf
   exact h.imL a v ha b hbm (hfp _ hf).symm
theorem RL.toRow (i n sz : Nat) {b : Blk} (hi : L[i]? = some b) (hn : b.cs.length = n * sz) (hl : n ≤ 9223372036854775807)
  (k : RL P os Q p A K B I nx (L.eraseIdx i) (X ++ [orow b.ty sz (some ⟨b.g, 0, none⟩) n n b.cs])) : RL P os Q p A K B I nx L X := fun a w ha hs => k a w ha (hs.toRow hi hn hl)

/-- A new row, of nothing but zeros. -/
theorem Reps.zeros {α : Type} {d : Ty α} {I : Imm} {z : α} {zc : Value} (hz : d.K I z [zc]) : ∀ n : Nat, Reps d I (List.replicate n z) (List.replicate n zc)
 | 0 => rfl
 | n + 1 => ⟨[zc], List.replicate n zc, rfl, hz, Reps.zeros hz n⟩
/-! ### elements of rows of the call's own -/
theorem setRow_sat {w : World} (hs : Sat B I nx L X w) {xi : Nat} {e : TypeId} {sz g n cap : Nat} {cs cs' : List Value} (hX : X[xi]? = some (orow e sz (some ⟨g, 0, none⟩) n cap cs)) (cur : Array Value) (hg : w.heap[g]? = some (.cells cur e (0, 0))) (hl : cs'.length = n * sz) (rest : List Value) (hcap : cap * sz = (cs' ++ rest).length) (hn : n ≤ cap) (hm : cap ≤ maxLen) :
  Sat B I nx L (X.set xi (orow e sz (some ⟨g, 0, none⟩) n cap cs')) (w.setRow g (cs' ++ rest).toArray) := by
 have hheap : ∀ k, k ≠ g → (w.setRow g (cs' ++ rest).toArray).heap[k]? = w.heap[k]? := fun k hk => by
  simp only [World.setRow, Array.getElem?_modify]
  rw [if_neg (fun e => hk e.symm)]
 have hsz : (w.setRow g (cs' ++ rest).toArray).heap.size = w.heap.size := by simp [World.setRow]
 have := hs.replace hX (orow e sz (some ⟨g, 0, none⟩) n cap cs') (w' := w.setRow g (cs' ++ rest).toArray) rfl rfl rfl (by rw [hsz]; exact Nat.le_refl _) (fun k hk hf => hheap k (fun e1 => hf (by rw [e1]; exact ⟨_, rfl, rfl⟩)))
  ⟨hl, .inr ⟨g, cap, (cs' ++ rest).toArray, rfl, Nat.zero_le _, setRow_heap w g cur _ e _ hg, hn, hm, by simp [← hcap], by simp [← hl]⟩⟩
  (fun k hk => .inl hk) (fun k hk => by
   obtain ⟨a, ha, rfl⟩ := hk
   injection ha with ha
   rw [← ha, hsz]
   exact (Array.getElem?_eq_some_iff.1 hg).1)
 rwa [hsz, hs.hnx] at this

/-- A store into a row of the call's own. -/
theorem RL.storeRow {T e : TypeId} (sz : Nat) (xi : Nat) {S : Option Addr} {g : Nat} (hS : S = some ⟨g, 0, none⟩) (n cap i : Nat) (cs news : List Value) (v : Value)
  (hl : ready os p K none = true)
  (hx : execOp (evalK K) (os.getD p default) = (Instr.storeAt T (.pointer (some ⟨g, 0 + i * sz, none⟩)) v).bind fun _ => .pure .skip)
  (hz : (P.info? T).map (·.size) = some sz) (hv : v.cells = news.toArray) (hnl : news.length = sz) (hone : ∀ u ∈ news, u.oneCell' = true) (hX : X[xi]? = some (orow e sz S n cap cs)) (hi : i < n)
  (kk : RL P os Q (p + 1) A K B I nx L (X.set xi (orow e sz S n cap (cs.take (i * sz) ++ news ++ cs.drop (i * sz + sz))))) : RL P os Q p A K B I nx L X := by
 subst hS
 intro a w ha hs
 unfold ready at hl
 split at hl
 ·cases hl
 ·rename_i o ho
  simp only [Bool.and_eq_true, beq_iff_eq, List.all_eq_true] at hl
  obtain ⟨⟨hw, hk1, hk2⟩, hd⟩ := hl
  have hgo : os.getD p default = o := by rw [List.getD_eq_getElem?_getD, ho]; rfl
  rw [drop_get (by rw [ho]; rfl), hgo]
  simp only [wpList]
  rw [if_pos (wantedK_spec ha hw)]
  refine .inl ?_
  unfold Oper.wp
  rw [ha.exec hk1 (fun x hx => hk2 x (by simpa using hx))]
  rw [hgo] at hx
  rw [hx]
  have ho' := hs.own_P hX
  rcases ho'.2 with ⟨e1, h0⟩ | ⟨g', cap', cur, e1, _, hg, hc, hmx, hcs, htk⟩
  ·omega
  ·injection e1 with e1 _ e3
   injection e1 with e1
   injection e1 with e1
   subst e1; subst e3
   obtain ⟨inf, hinf, hsz⟩ := Option.map_eq_some_iff.1 hz
   have hle : i * sz + sz ≤ n * sz := by rw [← Nat.succ_mul]; exact Nat.mul_le_mul_right _ hi
   have hle2 : n * sz ≤ cap * sz := Nat.mul_le_mul_right _ hc
   have hst := run_storeCells_at P g (i * sz) e news 0 cur w hg (by rw [hnl, hcs]; omega) hone
   simp only [Nat.add_zero] at hst
   have hr : (Instr.storeAt T (.pointer (some ⟨g, 0 + i * sz, none⟩)) v).run P w = .ok () (w.setRow g (cur.toList.take (i * sz) ++ news ++ cur.toList.drop (i * sz + news.length)).toArray) := by
    simp only [Nat.zero_add]
    simp [Instr.storeAt, Instr.sureAddr, storeVar, sizeOf, typeInfo, hinf, hsz, hv, hnl, hst]
   rw [Sem.run_bind', hr]
   show wpList P os.toArray Q (os.drop (p + 1)) (a.put o.dst undef) _
   rw [hd]
   have hcl : cs.length = n * sz := ho'.1
   have hcur : cur.toList = cs ++ cur.toList.drop (n * sz) := by rw [← htk]; exact (List.take_append_drop _ _).symm
   have hnew : cur.toList.take (i * sz) ++ news ++ cur.toList.drop (i * sz + news.length) = (cs.take (i * sz) ++ news ++ cs.drop (i * sz + sz)) ++ cur.toList.drop (n * sz) := by
    rw [hnl]
    conv => lhs; rw [hcur]
    rw [List.take_append_of_le_length (by omega), List.drop_append_of_le_length (by omega)]
    simp only [List.append_assoc]
   rw [hnew]
   refine kk _ _ (ha.put none undef) (setRow_sat hs hX cur hg ?_ _ ?_ hc hmx)
   ·simp only [List.length_append, List.length_take, List.length_drop, hnl]; omega
   ·simp only [List.length_append, List.length_take, List.length_drop, hnl, Array.length_toList, hcs]; omega
end

end Go.Proofs.YtfecniimkgkmfaaGreat.RW
namespace Go.Proofs.YtfecniimkgkmfaaGreat.RW
open Go Go.RowKit

theorem Sat.perm {B : Base} {I : Imm} {nx : Nat} {L : List Blk} {X X' : List Res} {w : World} (h : Sat B I nx L X w) (hp : X.Perm X') : Sat B I nx L X' w :=
 ⟨h.evo, h.hnx, h.blk, h.own, h.ne, fun r hr => h.res r (hp.mem_iff.2 hr), fun r hr => h.rown r (hp.mem_iff.2 hr),
  (hp.pairwise_iff (fun {a b} (h1 : ∀ k, a.fp k → ¬ b.fp k) k hb ha => h1 k ha hb)).1 h.rdis, fun r hr => h.rblk r (hp.mem_iff.2 hr), h.im, h.imL, fun a v ha r hr => h.imX a v ha r (hp.mem_iff.2 hr), h.le, h.inew⟩

/-- Some of the rows, in any order. -/
def sel (X : List Res) : List Nat → List Res
 | [] => []
 | i :: r => match X[i]? with | some x => x :: sel X r | none => sel X r
def noN : List Nat → Bool
 | [] => true
 | i :: r => r.all (fun j => !Nat.beq j i) && noN r
theorem sel_mem {X : List Res} {x : Res} : ∀ {l : List Nat}, x ∈ sel X l → ∃ i ∈ l, X[i]? = some x
 | [], h => by cases h
 | i :: r, h => by
  simp only [sel] at h
  split at h
  ·rename_i y hy
   rcases List.mem_cons.1 h with rfl | h
   ·exact ⟨i, List.mem_cons_self, hy⟩
   ·obtain ⟨j, h1, h2⟩ := sel_mem h
    exact ⟨j, List.mem_cons_of_mem _ h1, h2⟩
  ·obtain ⟨j, h1, h2⟩ := sel_mem h
   exact ⟨j, List.mem_cons_of_mem _ h1, h2⟩
theorem Sat.sel {B : Base} {I : Imm} {nx : Nat} {L : List Blk} {X : List Res} {w : World} (h : Sat B I nx L X w) (l : List Nat) (hn : noN l = true) : Sat B I nx L (RW.sel X l) w := by
 have hm : ∀ r ∈ RW.sel X l, r ∈ X := fun r hr => by obtain ⟨i, _, hi⟩ := sel_mem hr; exact List.mem_of_getElem? hi
 refine ⟨h.evo, h.hnx, h.blk, h.own, h.ne, fun r hr => h.res r (hm r hr), fun r hr => h.rown r (hm r hr), ?_, fun r hr => h.rblk r (hm r hr), h.im, h.imL, fun a v ha r hr => h.imX a v ha r (hm r hr), h.le, h.inew⟩
 induction l with
 | nil => exact List.Pairwise.nil
 | cons i r ih =>
  simp only [noN, Bool.and_eq_true, List.all_eq_true, Bool.not_eq_true'] at hn
  simp only [RW.sel] at hm ⊢
  split
  ·rename_i x hx
   rw [hx] at hm
   refine List.pairwise_cons.2 ⟨fun y hy k hk1 hk2 => ?_, ih hn.2 (fun q hq => hm q (List.mem_cons_of_mem _ hq))⟩
   obtain ⟨j, hj, hjy⟩ := sel_mem hy
   have hne : j ≠ i := fun e => by
    have := hn.1 j hj
    rw [e, Nat.beq_refl] at this
    cases this
   obtain ⟨hi1, hi2⟩ := List.getElem?_eq_some_iff.1 hx
   obtain ⟨hj1, hj2⟩ := List.getElem?_eq_some_iff.1 hjy
   have hp := List.pairwise_iff_getElem.1 h.rdis
   rcases Nat.lt_or_gt_of_ne hne with hlt | hlt
   ·exact hp j i hj1 hi1 hlt k (by rw [hj2]; exact hk2) (by rw [hi2]; exact hk1)
   ·exact hp i j hi1 hj1 hlt k (by rw [hi2]; exact hk1) (by rw [hj2]; exact hk2)
  ·rename_i hx
   rw [hx] at hm
   exact ih hn.2 hm
section
variable {P : Program} {A : Fr} {K : List (Nat × Value)} {Q : Exit → Act → World → Prop} {c : Code} {B : Base} {I : Imm} {nx : Nat} {L : List Blk} {X : List Res} {os : List Oper} {p : Nat}
theorem knows_sub {K' : List (Nat × Value)} {a : Act} (ha : Knows A K a) (hv : K'.map (fun p => lookK K p.1) = K'.map (fun p => some p.2)) : Knows A K' a :=
 ha.sub fun p hp => by
  obtain ⟨i, hi, rfl⟩ := List.getElem_of_mem hp
  have h1 := congrArg (·[i]?) hv
  simp only [List.getElem?_map, List.getElem?_eq_getElem hi, Option.map_some, Option.some.injEq] at h1
  exact h1
end

/-- What an operation leaves that only makes memory: its value, rows of the call's own, what holds from then on. -/
structure Ld where
 i : Nat
 val : Wt → Value
 Y : Wt → List Res
 F : Wt → Imm → Prop
 mono : ∀ (x : Wt) (J J' : Imm), J.le J' → F x J → F x J'

def Ld.vl (ld : List Ld) : List (Nat × (Wt → Value)) := ld.map fun l => (l.i, l.val)
def xs : List Ld → (Nat → Bool) → (Nat → Wt) → List Res
 | [], _, _ => []
 | l :: r, D, u => (bif D l.i then l.Y (u l.i) else []) ++ xs r D u
def fs : List Ld → (Nat → Bool) → (Nat → Wt) → Imm → Prop
 | [], _, _, _ => True
 | l :: r, D, u, J => (D l.i = true → l.F (u l.i) J) ∧ fs r D u J
theorem fs.ext {J J' : Imm} (h : J.le J') {D : Nat → Bool} {u : Nat → Wt} : ∀ {ld : List Ld}, fs ld D u J → fs ld D u J'
 | [], _ => trivial
 | l :: _, f => ⟨fun hd => l.mono _ _ _ h (f.1 hd), fs.ext h f.2⟩
def nodupN : List Nat → Bool
 | [] => true
 | i :: r => r.all (fun j => !Nat.beq j i) && nodupN r

theorem xs_other {D : Nat → Bool} {u : Nat → Wt} {i : Nat} {x : Wt} : ∀ {ld : List Ld}, (∀ l ∈ ld, l.i ≠ i) → xs ld (dset D i) (upd u i x) = xs ld D u
 | [], _ => rfl
 | l :: r, h => by
  have h1 := h l List.mem_cons_self
  simp only [xs, dset_ne _ h1, upd_ne _ _ h1]
  rw [xs_other (fun l' hl' => h l' (List.mem_cons_of_mem _ hl'))]
theorem xs_set {D : Nat → Bool} {u : Nat → Wt} {x : Wt} {l : Ld} : ∀ {ld : List Ld}, nodupN (ld.map (·.i)) = true → l ∈ ld → D l.i = false → (xs ld D u ++ l.Y x).Perm (xs ld (dset D l.i) (upd u l.i x))
 | [], _, h, _ => by cases h
 | a :: r, hn, h, hD => by
  simp only [List.map_cons, nodupN, Bool.and_eq_true, List.all_eq_true, Bool.not_eq_true'] at hn
  rcases List.mem_cons.1 h with rfl | h
  ·have hr : ∀ l' ∈ r, l'.i ≠ l.i := fun l' hl' e => by
    have := hn.1 l'.i (List.mem_map.2 ⟨l', hl', rfl⟩)
    rw [e, beq_self] at this
    cases this
   simp only [xs, hD, dset_self, upd_self, xs_other hr, cond_true, cond_false, List.nil_append]
   exact List.perm_append_comm
  ·have hne : a.i ≠ l.i := fun e => by
    have := hn.1 l.i (List.mem_map.2 ⟨l, h, rfl⟩)
    rw [e, beq_self] at this
    cases this
   simp only [xs, dset_ne _ hne, upd_ne _ _ hne, List.append_assoc]
   exact List.Perm.append_left _ (xs_set hn.2 h hD)
theorem fs_set {D : Nat → Bool} {u : Nat → Wt} {x : Wt} {l : Ld} {J : Imm} : ∀ {ld : List Ld}, nodupN (ld.map (·.i)) = true → l ∈ ld → fs ld D u J → l.F x J → fs ld (dset D l.i) (upd u l.i x) J
 | [], _, h, _, _ => by cases h
 | a :: r, hn, h, hf, hx => by
  simp only [List.map_cons, nodupN, Bool.and_eq_true, List.all_eq_true, Bool.not_eq_true'] at hn
  have other : ∀ {r : List Ld}, (∀ l' ∈ r, l'.i ≠ l.i) → fs r D u J → fs r (dset D l.i) (upd u l.i x) J := by
   intro r
   induction r with
   | nil => intro _ _; trivial
   | cons b r ih =>
    intro hr hf
    have h1 := hr b List.mem_cons_self
    refine ⟨?_, ih (fun l' hl' => hr l' (List.mem_cons_of_mem _ hl')) hf.2⟩
    rw [dset_ne _ h1, upd_ne _ _ h1]
    exact hf.1
  rcases List.mem_cons.1 h with rfl | h
  ·have hr : ∀ l' ∈ r, l'.i ≠ l.i := fun l' hl' e => by
    have := hn.1 l'.i (List.mem_map.2 ⟨l', hl', rfl⟩)
    rw [e, beq_self] at this
    cases this
   refine ⟨fun _ => ?_, other hr hf.2⟩
   rw [upd_self]
   exact hx
  ·have hne : a.i ≠ l.i := fun e => by
    have := hn.1 l.i (List.mem_map.2 ⟨l, h, rfl⟩)
    rw [e, beq_self] at this
    cases this
   refine ⟨?_, fs_set hn.2 h hf.2 hx⟩
   rw [dset_ne _ hne, upd_ne _ _ hne]
   exact hf.1

/-- What holds in between. -/
def SG (B : Base) (I : Imm) (L : List Blk) (X0 : (Nat → Bool) → (Nat → Wt) → List Res) (ld : List Ld) (D : Nat → Bool) (u : Nat → Wt) (w : World) : Prop :=
 ∃ J, I.le J ∧ Sat B J w.heap.size L (X0 D u ++ xs ld D u) w ∧ fs ld D u J

/-- An operation that only makes memory, at any world in between. -/
def GotOp (P : Program) (os : List Oper) (an : List Nat) (B : Base) (I : Imm) (L : List Blk) (X0 : (Nat → Bool) → (Nat → Wt) → List Res) (ld : List Ld) (l : Ld) (Kl : (Nat → Wt) → List (Nat × Value)) : Prop :=
 ∀ D u J w, (∀ j, behind an l.i j = true → (lk (Ld.vl ld) j).isSome = true → D j = true) → I.le J → Sat B J w.heap.size L (X0 D u ++ xs ld D u) w → fs ld D u J →
  Does P (execOp (evalK (Kl u)) (os.getD l.i default)) w (fun v w' => ∃ x J', v = l.val x ∧ Got w w' J J' (l.Y x) ∧ l.F x J')
theorem Does.mono {P : Program} {s : Sem Next} {w : World} {N M : Value → World → Prop} (h : ∀ v w', N v w' → M v w') (d : Does P s w N) : Does P s w M := by
 rcases d with ⟨v, w', hr, hN⟩ | ⟨f, xs, hr, hc⟩
 ·exact .inl ⟨v, w', hr, h _ _ hN⟩
 ·exact .inr ⟨f, xs, hr, hc.mono fun e w' ⟨v, hv, hN⟩ => ⟨v, hv, h _ _ hN⟩⟩
theorem GotOp.loud {P : Program} {os : List Oper} {an : List Nat} {B : Base} {I : Imm} {L : List Blk} {X0 : (Nat → Bool) → (Nat → Wt) → List Res} {ld : List Ld} {l : Ld} {Kl : (Nat → Wt) → List (Nat × Value)} (hn : nodupN (ld.map (·.i)) = true) (hm : l ∈ ld) (hX : ∀ D u x, D l.i = false → X0 (dset D l.i) (upd u l.i x) = X0 D u)
  (h : GotOp P os an B I L X0 ld l Kl) : ∀ D u w, D l.i = false → (∀ j, behind an l.i j = true → (lk (Ld.vl ld) j).isSome = true → D j = true) → SG B I L X0 ld D u w →
   Does P (execOp (evalK (Kl u)) (os.getD l.i default)) w (fun v w' => ∃ x, v = l.val x ∧ SG B I L X0 ld (dset D l.i) (upd u l.i x) w') := by
 rintro D u w hD hp ⟨J, hJ, hs, hf⟩
 refine (h D u J w hp hJ hs hf).mono ?_
 rintro v w' ⟨x, J', rfl, hg, hx⟩
 refine ⟨x, rfl, J', Imm.le_trans hJ hg.le, ?_, fs_set hn hm (hf.ext hg.le) hx⟩
 have := hs.call hg
 rw [hX D u x hD]
 rw [List.append_assoc] at this
 exact this.perm (List.Perm.append_left _ (xs_set hn hm hD))

/-- Cells that are known in between: those that never turn, and those of the call's own rows. -/
def RI (B : Base) (I : Imm) (L : List Blk) (X : List Res) (R : List (Addr × Value)) : Prop := ∀ (J : Imm) (Y : List Res) (nx : Nat) (w : World), I.le J → Sat B J nx L (X ++ Y) w → ∀ r ∈ R, w.cell? r.1 = some r.2
theorem RI.nil {B : Base} (I : Imm) {L : List Blk} {X : List Res} : RI B I L X [] := fun _ _ _ _ _ _ r hr => by cases hr
theorem OK.drawnG {P : Program} {A : Fr} {K : List (Nat × Value)} {Q : Exit → Act → World → Prop} {c : Code} {B : Base} {I : Imm} {nx : Nat} {L : List Blk} {X : List Res} (id t : Nat) (os : List Oper) (an : List Nat) (h : c = .region id os.toArray true) (hm : P.follows .mixedOrders = true) (ld : List Ld) (gl : List (Nat × ((Nat → Wt) → Value))) (X0 : (Nat → Bool) → (Nat → Wt) → List Res) (R : List (Addr × Value)) (hR : ∀ D u, RI B I L (X0 D u) R) (locs : List Loc)
  (han : ancs os [] = an) (hok : drawOk os an t = true) (hlt : ((Ld.vl ld).all fun p => decide (p.1 < t)) = true)
  (hq : ∀ u, (qSim P R L os A (Ld.vl ld) gl u locs 0 (os.take t) K).isSome = true)
  (he : ∀ u, (qSim P R L os A (Ld.vl ld) gl u locs 0 (os.take t) K).map (fun x => x.2.2.map (·.1)) = (qSim P R L os A (Ld.vl ld) gl u locs 0 (os.take t) K).map (fun x => x.2.2.map (·.2)))
  (hX0 : ∀ u, X0 (fun _ => false) u = X)
  (Ks : List ((Nat → Wt) → List (Nat × Value))) (hf : framesOk A K os (vsOf P R L os A (Ld.vl ld) gl locs t K) (Ld.vl ld) Ks) (hl : Louds P os an (Ld.vl ld) (SG B I L X0 ld) (Ld.vl ld) Ks)
  (Kg : List ((Nat → Wt) → List (Nat × Value))) (hfg : framesOk A K os (vsOf P R L os A (Ld.vl ld) gl locs t K) gl Kg) (hg : Givens P os an (Ld.vl ld) (SG B I L X0 ld) gl Kg)
  (K' : (Nat → Wt) → List (Nat × Value)) (hK : ∀ u, foldPut A K (os.take t) (vsOf P R L os A (Ld.vl ld) gl locs t K u) = K' u)
  (k : ∀ (u : Nat → Wt) (J : Imm) (nx' : Nat), I.le J → fs ld (Dall (Ld.vl ld)) u J → RL P os Q t A (K' u) B J nx' L (X0 (Dall (Ld.vl ld)) u ++ xs ld (Dall (Ld.vl ld)) u)) : OK P c Q A K B I nx L X := by
 refine OK.drawn id t os an h hm (Ld.vl ld) gl R L locs han hok hlt hq he (SG B I L X0 ld) ?_ ?_ Ks hf hl Kg hfg hg K' hK ?_
 ·rintro D u w ⟨J, hJ, hs, _⟩
  exact ⟨hs.blk, fun r hr => hR D u J _ _ _ hJ hs r hr⟩
 ·intro u w hs
  refine ⟨I, Imm.le_refl _, ?_, ?_⟩
  ·have hx : ∀ (l : List Ld), xs l (fun _ => false) u = [] := by
    intro l
    induction l with
    | nil => rfl
    | cons a r ih => simp only [xs, cond_false, List.nil_append]; exact ih
   rw [hX0, hx, List.append_nil, hs.hnx]
   exact hs
  ·have hx : ∀ (l : List Ld), fs l (fun _ => false) u I := by
    intro l
    induction l with
    | nil => trivial
    | cons a r ih => exact ⟨(fun e => Bool.noConfusion e), ih⟩
   exact hx ld
 ·rintro u a w ⟨J, hJ, hs, hf⟩ ha
  exact (k u J _ hJ hf).go ha hs

/-! ### what makes memory -/
/-- A block as a piece of memory. -/
def kblk (g : Nat) (ty : TypeId) (cs : List Value) : Res where
 fp := fun k => k = g
 P := fun _ w => w.heap[g]? = some (.cells cs.toArray ty (0, 0))
 stable := fun _ w w' h hp => by rw [h g rfl]; exact hp
 ext := fun _ _ _ _ h => h
section
variable {P : Program} {c : Code} {Q : Exit → Act → World → Prop} {A : Fr} {K : List (Nat × Value)} {B : Base} {I : Imm} {nx : Nat} {L : List Blk} {X : List Res}
end

/-! ### as the generator asks -/
section
variable {P : Program} {A : Fr} {K : List (Nat × Value)} {Q : Exit → Act → World → Prop} {c : Code} {B : Base} {I : Imm} {nx : Nat} {L : List Blk} {X : List Res} {os : List Oper}
theorem vsOf_eq {R : List (Addr × Value)} {vl : List (Nat × (Wt → Value))} {gl : List (Nat × ((Nat → Wt) → Value))} {locs : List Loc} {t : Nat} {vs : (Nat → Wt) → List Value} {K' : (Nat → Wt) → List (Nat × Value)} (hv : ∀ u, (qSim P R L os A vl gl u locs 0 (os.take t) K).map (fun x => (x.1, x.2.1)) = some (vs u, K' u)) :
  vsOf P R L os A vl gl locs t K = vs ∧ (∀ u, (qSim P R L os A vl gl u locs 0 (os.take t) K).isSome = true) ∧ ∀ u, foldPut A K (os.take t) (vs u) = K' u := by
 refine ⟨?_, fun u => ?_, fun u => ?_⟩
 ·funext u
  have := hv u
  unfold vsOf
  cases hx : qSim P R L os A vl gl u locs 0 (os.take t) K with
  | none => rw [hx] at this; cases this
  | some x => rw [hx] at this; simp only [Option.map_some, Option.some.injEq, Prod.mk.injEq] at this; simp [this.1]
 ·have := hv u
  cases hx : qSim P R L os A vl gl u locs 0 (os.take t) K with
  | none => rw [hx] at this; cases this
  | some x => rfl
 ·have := hv u
  cases hx : qSim P R L os A vl gl u locs 0 (os.take t) K with
  | none => rw [hx] at this; cases this
  | some x =>
   obtain ⟨vs1, K1, es⟩ := x
   rw [hx] at this
   simp only [Option.map_some, Option.some.injEq, Prod.mk.injEq] at this
   rw [← this.1, ← this.2]
   exact (qSim_spec _ _ _ _ _ _ _ hx).2.1.symm
theorem OK.drawnV (id t : Nat) (os : List Oper) (an : List Nat) (h : c = .region id os.toArray true) (hm : P.follows .mixedOrders = true) (ld : List Ld) (gl : List (Nat × ((Nat → Wt) → Value))) (X0 : (Nat → Bool) → (Nat → Wt) → List Res) (R : List (Addr × Value)) (hR : ∀ D u, RI B I L (X0 D u) R) (locs : List Loc)
  (han : ancs os [] = an) (hok : drawOk os an t = true) (hlt : ((Ld.vl ld).all fun p => decide (p.1 < t)) = true) (vs : (Nat → Wt) → List Value) (K' : (Nat → Wt) → List (Nat × Value))
  (hv : ∀ u, (qSim P R L os A (Ld.vl ld) gl u locs 0 (os.take t) K).map (fun x => (x.1, x.2.1)) = some (vs u, K' u))
  (he : ∀ u, (qSim P R L os A (Ld.vl ld) gl u locs 0 (os.take t) K).map (fun x => x.2.2.map (·.1)) = (qSim P R L os A (Ld.vl ld) gl u locs 0 (os.take t) K).map (fun x => x.2.2.map (·.2)))
  (hX0 : ∀ u, X0 (fun _ => false) u = X)
  (Ks : List ((Nat → Wt) → List (Nat × Value))) (hf : framesOk A K os vs (Ld.vl ld) Ks) (hl : Louds P os an (Ld.vl ld) (SG B I L X0 ld) (Ld.vl ld) Ks)
  (Kg : List ((Nat → Wt) → List (Nat × Value))) (hfg : framesOk A K os vs gl Kg) (hg : Givens P os an (Ld.vl ld) (SG B I L X0 ld) gl Kg)
  (k : ∀ (u : Nat → Wt) (J : Imm) (nx' : Nat), I.le J → fs ld (Dall (Ld.vl ld)) u J → RL P os Q t A (K' u) B J nx' L (X0 (Dall (Ld.vl ld)) u ++ xs ld (Dall (Ld.vl ld)) u)) : OK P c Q A K B I nx L X := by
 obtain ⟨e, h1, h2⟩ := vsOf_eq hv
 subst e
 exact OK.drawnG id t os an h hm ld gl X0 R hR locs han hok hlt h1 he hX0 Ks hf hl Kg hfg hg K' h2 k

end

section
variable {P : Program} {A : Fr} {K : List (Nat × Value)} {Q : Exit → Act → World → Prop} {c : Code} {B : Base} {I : Imm} {nx : Nat} {L : List Blk} {X : List Res}
def LoudsG (P : Program) (os : List Oper) (an : List Nat) (B : Base) (I : Imm) (L : List Blk) (X0 : (Nat → Bool) → (Nat → Wt) → List Res) (ld : List Ld) : List Ld → List ((Nat → Wt) → List (Nat × Value)) → Prop
 | [], _ => True
 | _ :: _, [] => False
 | l :: r, Kl :: Ks => GotOp P os an B I L X0 ld l Kl ∧ LoudsG P os an B I L X0 ld r Ks
theorem LoudsG.nil {os : List Oper} {an : List Nat} {X0 : (Nat → Bool) → (Nat → Wt) → List Res} {ld : List Ld} : LoudsG P os an B I L X0 ld [] [] := trivial
theorem LoudsG.cons {os : List Oper} {an : List Nat} {X0 : (Nat → Bool) → (Nat → Wt) → List Res} {ld r : List Ld} {l : Ld} {Kl : (Nat → Wt) → List (Nat × Value)} {Ks : List ((Nat → Wt) → List (Nat × Value))} (h : GotOp P os an B I L X0 ld l Kl) (k : LoudsG P os an B I L X0 ld r Ks) : LoudsG P os an B I L X0 ld (l :: r) (Kl :: Ks) := ⟨h, k⟩
theorem LoudsG.louds {os : List Oper} {an : List Nat} {X0 : (Nat → Bool) → (Nat → Wt) → List Res} {ld : List Ld} (hn : nodupN (ld.map (·.i)) = true) (hX : ∀ D u i x, X0 (dset D i) (upd u i x) = X0 D u) : ∀ (r : List Ld) (Ks : List ((Nat → Wt) → List (Nat × Value))), (∀ l ∈ r, l ∈ ld) → LoudsG P os an B I L X0 ld r Ks → Louds P os an (Ld.vl ld) (SG B I L X0 ld) (Ld.vl r) Ks
 | [], _, _, _ => trivial
 | _ :: _, [], _, h => h.elim
 | l :: r, _ :: Ks, hm, h => ⟨h.1.loud hn (hm l List.mem_cons_self) (fun D u x _ => hX D u l.i x), LoudsG.louds hn hX r Ks (fun l' hl' => hm l' (List.mem_cons_of_mem _ hl')) h.2⟩
theorem OK.drawnC (id t : Nat) (os : List Oper) (an : List Nat) (h : c = .region id os.toArray true) (hm : P.follows .mixedOrders = true) (ld : List Ld) (gl : List (Nat × ((Nat → Wt) → Value))) (R : List (Addr × Value)) (hR : RI B I L X R) (locs : List Loc)
  (han : ancs os [] = an) (hok : drawOk os an t = true) (hlt : ((Ld.vl ld).all fun p => decide (p.1 < t)) = true) (hn : nodupN (ld.map (·.i)) = true) (vs : (Nat → Wt) → List Value) (K' : (Nat → Wt) → List (Nat × Value))
  (hv : ∀ u, (qSim P R L os A (Ld.vl ld) gl u locs 0 (os.take t) K).map (fun x => (x.1, x.2.1)) = some (vs u, K' u))
  (he : ∀ u, (qSim P R L os A (Ld.vl ld) gl u locs 0 (os.take t) K).map (fun x => x.2.2.map (·.1)) = (qSim P R L os A (Ld.vl ld) gl u locs 0 (os.take t) K).map (fun x => x.2.2.map (·.2)))
  (Ks : List ((Nat → Wt) → List (Nat × Value))) (hf : framesOk A K os vs (Ld.vl ld) Ks) (hl : LoudsG P os an B I L (fun _ _ => X) ld ld Ks)
  (Kg : List ((Nat → Wt) → List (Nat × Value))) (hfg : framesOk A K os vs gl Kg) (hg : Givens P os an (Ld.vl ld) (SG B I L (fun _ _ => X) ld) gl Kg)
  (k : ∀ (u : Nat → Wt) (J : Imm) (nx' : Nat), I.le J → fs ld (Dall (Ld.vl ld)) u J → RL P os Q t A (K' u) B J nx' L (X ++ xs ld (Dall (Ld.vl ld)) u)) : OK P c Q A K B I nx L X :=
 OK.drawnV id t os an h hm ld gl (fun _ _ => X) R (fun _ _ => hR) locs han hok hlt vs K' hv he (fun _ => rfl) Ks hf (LoudsG.louds hn (fun _ _ _ _ => rfl) ld Ks (fun _ h => h) hl) Kg hfg hg k
theorem Givens.nil {os : List Oper} {an : List Nat} {vl : List (Nat × (Wt → Value))} {S : (Nat → Bool) → (Nat → Wt) → World → Prop} : Givens P os an vl S [] [] := trivial
theorem Givens.cons {os : List Oper} {an : List Nat} {vl : List (Nat × (Wt → Value))} {S : (Nat → Bool) → (Nat → Wt) → World → Prop} {i : Nat} {f : (Nat → Wt) → Value} {r : List (Nat × ((Nat → Wt) → Value))} {Kl : (Nat → Wt) → List (Nat × Value)} {Ks : List ((Nat → Wt) → List (Nat × Value))}
  (h : ∀ u w, (execOp (evalK (Kl u)) (os.getD i default)).run P w = .ok (.value (f u)) w) (h2 : ∀ u u', (∀ j, behind an i j = true → (lk vl j).isSome = true → u j = u' j) → f u = f u') (k : Givens P os an vl S r Ks) : Givens P os an vl S ((i, f) :: r) (Kl :: Ks) := ⟨fun _ u w _ _ => h u w, h2, k⟩
theorem framesOk.nil {α : Type} {os : List Oper} {vs : (Nat → Wt) → List Value} : framesOk A K os vs ([] : List (Nat × α)) [] := trivial
theorem framesOk.cons {α : Type} {os : List Oper} {vs : (Nat → Wt) → List Value} {i : Nat} {a : α} {r : List (Nat × α)} {Kl : (Nat → Wt) → List (Nat × Value)} {Ks : List ((Nat → Wt) → List (Nat × Value))} (h : ∀ u, foldPut A K (os.take i) ((vs u).take i) = Kl u) (k : framesOk A K os vs r Ks) : framesOk A K os vs ((i, a) :: r) (Kl :: Ks) := ⟨h, k⟩
end

/-! ### a block that is made in the region, and stored into at some later moment of it -/
structure Sb where
 i : Nat
 j : Nat
 ty : TypeId
 old : List Value
 new : (Nat → Wt) → List Value
def Sb.ent (s : Sb) (D : Nat → Bool) (u : Nat → Wt) : List Res := bif D s.i then [RW.kblk (u s.i 0).2.1 s.ty (bif D s.j then s.new u else s.old)] else []
def sx : List Sb → (Nat → Bool) → (Nat → Wt) → List Res
 | [], _, _ => []
 | s :: r, D, u => s.ent D u ++ sx r D u
def stVl : List Sb → List (Nat × (Wt → Value))
 | [] => []
 | s :: r => (s.i, fun x => .pointer (some ⟨(x 0).2.1, 0, none⟩)) :: (s.j, fun _ => undef) :: stVl r
def stIx : List Sb → List Nat
 | [] => []
 | s :: r => s.i :: s.j :: stIx r
/-- What is stored comes behind all that it needs. -/
def Clo (an : List Nat) (vl : List (Nat × (Wt → Value))) (sts : List Sb) (D : Nat → Bool) : Prop := ∀ s ∈ sts, D s.j = true → ∀ i, behind an s.j i = true → (lk vl i).isSome = true → D i = true
def SS (an : List Nat) (vl : List (Nat × (Wt → Value))) (B : Base) (I : Imm) (L : List Blk) (X : List Res) (ld : List Ld) (sts : List Sb) (D : Nat → Bool) (u : Nat → Wt) (w : World) : Prop :=
 Clo an vl sts D ∧ SG B I L (fun D u => X ++ sx sts D u) ld D u w
def New (an : List Nat) (vl : List (Nat × (Wt → Value))) (s : Sb) : Prop := ∀ u u' : Nat → Wt, (∀ i, behind an s.j i = true → (lk vl i).isSome = true → u i = u' i) → s.new u = s.new u'
def stsOk (an : List Nat) (vl : List (Nat × (Wt → Value))) (sts : List Sb) : Bool := sts.all fun s => behind an s.j s.i && (lk vl s.i).isSome && !Nat.beq s.i s.j
def AllocOk (P : Program) (os : List Oper) (s : Sb) (Ka : (Nat → Wt) → List (Nat × Value)) : Prop := ∀ (u : Nat → Wt) (n : Nat), (simS P [] (execOp (evalK (Ka u)) (os.getD s.i default)) .no n [] []).map (fun x => (x.1, x.2.2.1, x.2.2.2)) = some (.value (.pointer (some ⟨n, 0, none⟩)), [⟨n, s.old, s.ty⟩], [])
def StoreOk (P : Program) (os : List Oper) (L : List Blk) (s : Sb) (Kj : (Nat → Wt) → List (Nat × Value)) : Prop := ∀ (u : Nat → Wt) (nx : Nat),
 (simS P [] (execOp (evalK (Kj u)) (os.getD s.j default)) (.l L.length) nx (L ++ [⟨(u s.i 0).2.1, s.old, s.ty⟩]) []).map (fun x => (x.1, x.2.1, x.2.2.1)) = some (.skip, nx, L ++ [⟨(u s.i 0).2.1, s.new u, s.ty⟩]) ∧
 (simS P [] (execOp (evalK (Kj u)) (os.getD s.j default)) (.l L.length) nx (L ++ [⟨(u s.i 0).2.1, s.old, s.ty⟩]) []).map (fun x => x.2.2.2.map (·.1)) = (simS P [] (execOp (evalK (Kj u)) (os.getD s.j default)) (.l L.length) nx (L ++ [⟨(u s.i 0).2.1, s.old, s.ty⟩]) []).map (fun x => x.2.2.2.map (·.2))
def StsG (P : Program) (os : List Oper) (L : List Blk) : List Sb → List ((Nat → Wt) → List (Nat × Value)) → Prop
 | [], _ => True
 | s :: r, Ka :: Kj :: Ks => AllocOk P os s Ka ∧ StoreOk P os L s Kj ∧ StsG P os L r Ks
 | _ :: _, _ => False
section
variable {P : Program} {os : List Oper} {an : List Nat} {vl : List (Nat × (Wt → Value))} {B : Base} {I : Imm} {L : List Blk} {X : List Res} {ld : List Ld} {sts : List Sb}
def stsSep (ld : List Ld) (sts : List Sb) : Bool := ld.all fun l => sts.all fun s => !Nat.beq l.i s.i && !Nat.beq l.i s.j
end
end Go.Proofs.YtfecniimkgkmfaaGreat.RW
namespace Go.Proofs.YtfecniimkgkmfaaGreat.RW
open Go Go.RowKit

section
variable {P : Program} {c : Code} {Q : Exit → Act → World → Prop} {A : Fr} {K : List (Nat × Value)} {B : Base} {I : Imm} {nx : Nat} {L : List Blk} {X : List Res} {os : List Oper} {p : Nat}

theorem src_none {size : Nat} {tx e' : TypeId} (hk : P.underlying tx = some (.slice e')) (S : Option Addr) (cc : Nat) (w : World) : Src P size tx (.slice S 0 cc) 0 [] w := by
 refine ⟨.inl ⟨e', hk⟩, fun w' => by simp [Builtin.lenOf], ?_, ?_, by simp, fun u hu => by cases hu⟩
 ·cases S <;> simp [Builtin.firstCells, loadCells, loadCellsFrom]
 ·cases S <;> simp [Builtin.firstCells, loadCells, loadCellsFrom]

/-- An append of a row that never turns. -/
theorem RL.appendRd {α : Type} {T e : TypeId} {S S2 : Option Addr} (sz bytes : Nat) (ty : TypeId) (n cap c2 : Nat) (cs : List Value) (dt : Ty α) (ys : List α) (xi : Nat) (d : Option Tmp)
  (hl : ready os p K d = true)
  (hx : execOp (evalK K) (os.getD p default) = toNext (Builtin.append_ #[T, T] ty #[.slice S n cap, .slice S2 ys.length c2]))
  (hu : P.underlying T = some (.slice e)) (inf : TypeInfo) (hi : P.info? e = some inf) (z : Value) (hz : inf.zero = some z) (hsz : inf.size = sz) (hby : inf.bytes = bytes) (hzs : z.cells.size = sz) (hsz0 : 0 < sz)
  (hX : X[xi]? = some (orow e sz S n cap cs)) (hy : Rd dt I S2 ys) (hd : dt.sz = sz)
  (hbytes : (n + ys.length) * bytes ≤ 140737488355328) (hmax : n + ys.length ≤ 9223372036854775807)
  (kk : ∀ (S' : Option Addr) (c' nx' : Nat) (news : List Value), Reps dt I ys news → RL P os Q (p + 1) A (putK A K d (.slice S' (n + ys.length) c')) B I nx' L (X.set xi (orow e sz S' (n + ys.length) c' (cs ++ news)))) : RL P os Q p A K B I nx L X := by
 by_cases hne : ys = []
 ·subst hne
  refine RL.quiet d (.slice S n cap) hl rfl (fun w hs => ?_) ?_
  ·rw [hx]
   refine run_toNext ?_
   have hcap : n ≤ cap := by
    have ho := hs.own_P hX
    rcases ho.2 with ⟨e1, h0⟩ | ⟨g', cap', cur, e1, _, hg, hc, _⟩
    ·omega
    ·injection e1 with _ _ e3; omega
   exact run_append_nothing w T T ty e inf hu hi S n cap hcap _ (src_none hu S2 c2 w)
  ·have this : RL P os Q (p + 1) A (putK A K d (.slice S n cap)) B I nx L (X.set xi (orow e sz S n cap cs)) := by
    have := kk S cap nx [] rfl
    rwa [List.append_nil] at this
   have hset : X.set xi (orow e sz S n cap cs) = X := by
    obtain ⟨h1, h2⟩ := List.getElem?_eq_some_iff.1 hX
    rw [← h2]
    exact List.set_getElem_self h1
   rwa [hset] at this
 ·intro a w ha hs
  obtain ⟨news, hr, hn⟩ := news_rd hs hy hne
  refine RL.append sz bytes ty n cap ys.length c2 cs news xi d hl hx hu inf hi z hz hsz hby hzs hsz0 hX (by rw [hr.len, hd]) (fun u hu => hr.one u hu) (fun w' hs' => ?_) hbytes hmax (fun S' c' nx' => kk S' c' nx' news hr) a w ha hs
  obtain ⟨news', hr', hn'⟩ := news_rd hs' hy hne
  obtain ⟨q, hq, hc⟩ := hn
  obtain ⟨g, o, rfl, hI⟩ := hy.2 hne
  refine ⟨q, hq, fun j u hj => ?_⟩
  injection hq with hq
  subst hq
  -- the same cells, whatever the world
  have hadd : ∀ j, (⟨g, o, none⟩ : Addr).add j = ⟨g, o + j, none⟩ := fun j => by
   unfold Addr.add
   split
   ·rename_i h; rw [h]; rfl
   ·rfl
  have h1 := hc j u hj
  have hjl : j < ys.length * dt.sz := by rw [← hr.len]; exact (List.getElem?_eq_some_iff.1 hj).1
  have hsz' : 0 < dt.sz := by omega
  have hq1 : j / dt.sz < ys.length := (Nat.div_lt_iff_lt_mul hsz').2 hjl
  obtain ⟨c0, hk0, hc0⟩ := hI (j / dt.sz) _ (List.getElem?_eq_getElem hq1)
  have hm : j % dt.sz < c0.length := by rw [dt.len hk0]; exact Nat.mod_lt _ hsz'
  have h2 := hc0 _ _ (List.getElem?_eq_getElem hm)
  have he : o + j / dt.sz * dt.sz + j % dt.sz = o + j := by rw [Nat.add_assoc, Nat.div_add_mod']
  rw [he] at h2
  have h3 : w.cell? ⟨g, o + j, none⟩ = _ := hs.im _ _ h2
  rw [hadd] at h1 ⊢
  rw [h1] at h3
  injection h3 with h3
  rw [h3]
  exact hs'.im _ _ h2

/-! ### parts of rows -/
def rpart {α : Type} (l : List α) (lo hi : Int) : List α := (l.drop lo.toNat).take (hi.toNat - lo.toNat)
theorem part_length {α : Type} {l : List α} {lo hi : Int} (_ : 0 ≤ lo) (h1 : lo ≤ hi) (h2 : hi ≤ (l.length : Int)) : (rpart l lo hi).length = hi.toNat - lo.toNat := by
 unfold rpart
 rw [List.length_take, List.length_drop]
 omega
def slA (S : Option Addr) (l m s : Nat) : Option Addr := if m = l then S else S.map (·.add (l * s))
theorem elem_of {T e : TypeId} (hu : P.underlying T = some (.slice e)) : P.underlying T = some (.slice (P.elem T)) ∧ P.elem T = e := by
 have : P.elem T = e := by simp [Program.elem, hu]
 exact ⟨by rw [this]; exact hu, this⟩
theorem run_subH {α : Type} {T e : TypeId} {sz : Nat} (hu : P.underlying T = some (.slice e)) (hz : (P.info? e).map (·.size) = some sz) {l : List α} {S : Option Addr} {cap : Nat} {hi : Int} (hc : l.length ≤ cap) (h1 : 0 ≤ hi) (h2 : hi ≤ (l.length : Int)) (w : World) (kh : IntKind) :
  (Instr.sliceAt T (.slice S l.length cap) none (some (.int kh hi)) none).run P w = .ok (.slice (slA S (0 : Int).toNat cap sz) (rpart l 0 hi).length (cap - (0 : Int).toNat)) w := by
 obtain ⟨inf, hi', hsz⟩ := Option.map_eq_some_iff.1 hz
 obtain ⟨hu1, he⟩ := elem_of hu
 rw [run_sliceAt_slice w T _ _ _ _ hu1, run_slice_h w T S l.length cap hu1 kh hi h1 (by omega), he]
 simp only [sizeOf, typeInfo, Sem.run_bind, Result.andThen, part_length (Int.le_refl 0) h1 h2]
 simp [hi', hsz, sliced, slA]
theorem run_subL {α : Type} {T e : TypeId} {sz : Nat} (hu : P.underlying T = some (.slice e)) (hz : (P.info? e).map (·.size) = some sz) {l : List α} {S : Option Addr} {cap : Nat} {lo : Int} (h0 : 0 ≤ lo) (h1 : lo ≤ (l.length : Int)) (w : World) (kl : IntKind) :
  (Instr.sliceAt T (.slice S l.length cap) (some (.int kl lo)) none none).run P w = .ok (.slice (slA S lo.toNat cap sz) (rpart l lo (l.length : Int)).length (cap - lo.toNat)) w := by
 obtain ⟨inf, hi', hsz⟩ := Option.map_eq_some_iff.1 hz
 obtain ⟨hu1, he⟩ := elem_of hu
 rw [run_sliceAt_slice w T _ _ _ _ hu1, run_slice_l w T S l.length cap hu1 kl lo h0 h1, he]
 simp only [sizeOf, typeInfo, Sem.run_bind, Result.andThen, part_length h0 h1 (Int.le_refl _)]
 simp [hi', hsz, sliced, slA]
/-! ### strings and bytes -/
def bytesOf (s : ByteArray) : List Int := s.data.toList.map fun b => (b.toNat : Int)
theorem bytesOf_length (s : ByteArray) : (bytesOf s).length = s.size := by
 unfold bytesOf
 rw [List.length_map, Array.length_toList]
 rfl
theorem got_bytes {w : World} (hI : I.at_ w) (e : TypeId) (s : ByteArray) (hs : s.size ≤ 9223372036854775807) : ∃ J, Got w (Lib.bytesWorld w e s) I J [] ∧ Rd (Ty.int .u8) J (some ⟨w.heap.size, 0, none⟩) (bytesOf s) := by
 have hold : ∀ a v, I a = some v → look (Lib.bytesWorld w e s) a = some v := fun a v ha => by
  have hc := hI a v ha
  rw [look_of_block (w := w) (Lib.bytesWorld_at_old w e s _ (look_lt hc))]
  exact hc
 refine ⟨I.or (rowImm w.heap.size ((bytesOf s).map (Value.int .u8))), ⟨⟨?_, ?_, ?_, ?_, fun k hk _ => Lib.bytesWorld_at_old w e s k hk⟩, Imm.le_or _ _, ?_, ?_, (fun r hr => by cases hr), (fun r hr => by cases hr), List.Pairwise.nil, (fun a v _ r hr => by cases hr)⟩, ?_⟩
 ·rfl
 ·rfl
 ·rfl
 ·rw [Lib.bytesWorld_size]; omega
 ·intro a v ha
  rcases Imm.or_new ha with h | ⟨_, h⟩
  ·exact hold a v h
  ·obtain ⟨e1, e2⟩ := rowImm_some h
   rw [e1]
   have hlt : a.off < s.size := by
    have := (List.getElem?_eq_some_iff.1 e2).1
    rw [List.length_map, bytesOf_length] at this
    exact this
   show (Lib.bytesWorld w e s).cell? _ = _; rw [Lib.bytesWorld_cell w e s _ hlt, ← e2]
   have hl : a.off < s.data.toList.length := by
    rw [Array.length_toList]
    exact hlt
   simp only [bytesOf, List.map_map, List.getElem?_map, List.getElem?_eq_getElem hl, Option.map_some, List.getD_eq_getElem?_getD, Option.getD_some, Function.comp]
 ·intro a v ha
  rcases Imm.or_new ha with h | ⟨_, h⟩
  ·exact .inl h
  ·obtain ⟨e1, _⟩ := rowImm_some h
   rw [e1]
   exact .inr (Nat.le_refl _)
 ·refine ⟨by rw [bytesOf_length]; exact hs, fun _ => ⟨_, 0, rfl, fun j x hj => ⟨[.int .u8 x], rfl, fun i u hu => ?_⟩⟩⟩
  cases i with
  | succ i => simp at hu
  | zero =>
   injection hu with hu
   subst hu
   refine Imm.or_get ?_ ?_
   ·cases hI' : I ⟨w.heap.size, 0 + j * (Ty.int .u8).sz + 0, none⟩ with
    | none => rfl
    | some v => exact absurd (look_lt (hI _ _ hI')) (Nat.lt_irrefl _)
   ·rw [rowImm_get]
    have : 0 + j * (Ty.int .u8).sz + 0 = j := by show 0 + j * 1 + 0 = j; omega
    rw [this, List.getElem?_map, hj]
    rfl
theorem Does.toBytes {src dst e : TypeId} {s : ByteArray} {u : TypeDesc} {w : World} (hI : I.at_ w) (hs : P.underlying src = some u) (hd : P.underlying dst = some (.slice e)) (he : P.underlying e = some (.int .u8)) (hb : s.size ≤ 9223372036854775807) {sm : Sem Next} (hx : sm = toNext (convert src dst (.string s))) :
  Does P sm w (fun v w' => ∃ J cap, v = .slice (some ⟨w.heap.size, 0, none⟩) (bytesOf s).length cap ∧ Got w w' I J [] ∧ (bytesOf s).length ≤ cap ∧ Rd (Ty.int .u8) J (some ⟨w.heap.size, 0, none⟩) (bytesOf s)) := by
 obtain ⟨J, hg, hr⟩ := got_bytes hI e s hb
 refine .inl ⟨_, _, .inl (by rw [hx]; exact run_toNext (Lib.run_convert_string_bytes w src dst e s hs hd he)), J, grownCap w s.size 0 e, ?_, hg, ?_, hr⟩
 ·rw [bytesOf_length]
 ·rw [bytesOf_length]; exact grownCap_ge w s.size 0 e
end

end Go.Proofs.YtfecniimkgkmfaaGreat.RW
