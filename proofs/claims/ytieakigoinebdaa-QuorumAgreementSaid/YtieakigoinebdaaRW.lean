/- A walk's own words: a region of operations is run over known blocks by evaluation in the kernel; sound for the machine. -/
import Derived.Test.YtieakigoinebdaaProg
import Derived.Calls
import Derived.Tactics
import Derived.Tactics2
import Derived.Below
import Derived.KernelRfl
import Derived.Orders
namespace Go.Proofs.Ytieakigoinebdaa.RW
open Go Go.RowKit

/-- A known block: its number, its cells, its type. -/
structure Blk where
  g : Nat
  cs : List Value
  ty : TypeId

/-- From w to w' nothing has turned but blocks of S, and new ones. -/
structure Evo (S : Nat → Prop) (w w' : World) : Prop where
  os : w'.os = w.os
  tape : w'.tape = w.tape
  output : w'.output = w.output
  size : w.heap.size ≤ w'.heap.size
  blk : ∀ k, k < w.heap.size → ¬ S k → w'.heap[k]? = w.heap[k]?

theorem Evo.refl (S : Nat → Prop) (w : World) : Evo S w w := ⟨rfl, rfl, rfl, Nat.le_refl _, fun _ _ _ => rfl⟩
theorem Evo.trans {S : Nat → Prop} {a b c : World} (h : Evo S a b) (k : Evo S b c) : Evo S a c :=
  ⟨k.os.trans h.os, k.tape.trans h.tape, k.output.trans h.output, Nat.le_trans h.size k.size, fun i hi hs => (k.blk i (Nat.lt_of_lt_of_le hi h.size) hs).trans (h.blk i hi hs)⟩
theorem Evo.mono {S S' : Nat → Prop} {a b : World} (h : Evo S a b) (hs : ∀ k, k < a.heap.size → S k → S' k) : Evo S' a b :=
  ⟨h.os, h.tape, h.output, h.size, fun i hi hn => h.blk i hi (fun e => hn (hs i hi e))⟩

/-- Cells of which it is promised that they never turn. -/
abbrev Imm := Addr → Option Value
def Imm.le (I J : Imm) : Prop := ∀ a v, I a = some v → J a = some v
theorem Imm.le_refl (I : Imm) : I.le I := fun _ _ h => h
theorem Imm.le_trans {I J K : Imm} (h : I.le J) (k : J.le K) : I.le K := fun a v e => k a v (h a v e)
/-- What lies at an address; at a map's own mark: its entries. -/
def codeM (es : Array MapEntry) : Value := .tuple #[.agg (es.map (·.key)), .agg (es.map (·.val)), .agg (es.map fun e => .int .i64 e.born)]
def look (w : World) (a : Addr) : Option Value :=
  match a.spot with
  | none => w.cell? a
  | some _ => match w.heap[a.block]? with | some (.map es _) => some (codeM es) | _ => none
theorem look_cell {w : World} {a : Addr} (h : a.spot = none) : look w a = w.cell? a := by unfold look; rw [h]
theorem look_lt {w : World} {a : Addr} {v : Value} (h : look w a = some v) : a.block < w.heap.size := by
  have key : ∀ o, w.heap[a.block]? = some o → a.block < w.heap.size := fun o ho => (Array.getElem?_eq_some_iff.1 ho).1
  unfold look at h
  split at h
  · unfold World.cell? at h
    cases hb : w.heap[a.block]? with
    | none => rw [hb] at h; cases h
    | some o => exact key o hb
  · split at h
    · rename_i ho
      exact key _ ho
    · cases h
theorem look_of_block {w w' : World} {a : Addr} (h : w'.heap[a.block]? = w.heap[a.block]?) : look w' a = look w a := by
  unfold look
  split
  · exact World.cell?_of_block (w := w) h
  · rw [h]
def Imm.at_ (I : Imm) (w : World) : Prop := ∀ a v, I a = some v → look w a = some v

/-- What a call may turn, the world it began in, the cells that never turn as it began. -/
structure Base where
  w0 : World
  S : Nat → Prop
  I0 : Imm

/-- A piece of memory of the call's own, told by what it says. -/
structure Res where
  fp : Nat → Prop
  P : Imm → World → Prop
  stable : ∀ (I : Imm) (w w' : World), (∀ k, fp k → w'.heap[k]? = w.heap[k]?) → P I w → P I w'
  ext : ∀ (I J : Imm) (w : World), I.le J → P I w → P J w

structure Sat (B : Base) (I : Imm) (nx : Nat) (L : List Blk) (X : List Res) (w : World) : Prop where
  evo : Evo B.S B.w0 w
  hnx : w.heap.size = nx
  blk : ∀ b ∈ L, w.heap[b.g]? = some (.cells b.cs.toArray b.ty (0, 0))
  own : ∀ b ∈ L, B.w0.heap.size ≤ b.g ∨ B.S b.g
  ne : L.Pairwise (fun a b => a.g ≠ b.g)
  res : ∀ r ∈ X, r.P I w
  rown : ∀ r ∈ X, ∀ k, r.fp k → k < nx ∧ (B.w0.heap.size ≤ k ∨ B.S k)
  rdis : X.Pairwise (fun a b => ∀ k, a.fp k → ¬ b.fp k)
  rblk : ∀ r ∈ X, ∀ b ∈ L, ¬ r.fp b.g
  im : I.at_ w
  imL : ∀ a v, I a = some v → ∀ b ∈ L, b.g ≠ a.block
  imX : ∀ a v, I a = some v → ∀ r ∈ X, ¬ r.fp a.block
  le : B.I0.le I
  inew : ∀ a v, I a = some v → B.I0 a = some v ∨ B.w0.heap.size ≤ a.block

inductive Loc where
  | no
  | l (i : Nat)
  | r (j : Nat)

/-- One Sem program over known blocks. The pairs have to be equal. -/
def simS {α : Type} (P : Program) (R : List (Addr × Value)) : Sem α → Loc → Nat → List Blk → List (Nat × Nat) → Option (α × Nat × List Blk × List (Nat × Nat))
  | .pure a, _, nx, L, es => some (a, nx, L, es)
  | .load _ a k, .l i, nx, L, es =>
    match L[i]? with
    | none => none
    | some b =>
      match a.spot with
      | some _ => none
      | none =>
        match b.cs[a.off]? with
        | none => none
        | some v => simS P R (k v) (.l i) nx L ((a.block, b.g) :: es)
  | .load _ a k, .r j, nx, L, es =>
    match R[j]? with
    | none => none
    | some (q, v) =>
      match a.spot, q.spot with
      | none, none => simS P R (k v) (.r (j + 1)) nx L ((a.block, q.block) :: (a.off, q.off) :: es)
      | _, _ => none
  | .store _ a v k, .l i, nx, L, es =>
    match L[i]? with
    | none => none
    | some b =>
      match a.spot with
      | some _ => none
      | none =>
        match v with
        | .agg _ => none
        | .tuple _ => none
        | v =>
          match b.cs[a.off]? with
          | none => none
          | some _ => simS P R k (.l i) nx (L.set i ⟨b.g, b.cs.set a.off v, b.ty⟩) ((a.block, b.g) :: es)
  | .new o k, loc, nx, L, es =>
    match o with
    | .cells c ty (0, 0) => simS P R (k nx) loc (nx + 1) (L ++ [⟨nx, c.toList, ty⟩]) es
    | _ => none
  | .shape r k, .l i, nx, L, es =>
    match L[i]? with
    | none => none
    | some b => simS P R (k (some (b.ty, b.cs.length))) (.l i) nx L ((r, b.g) :: es)
  | .frozen a k, .l i, nx, L, es =>
    match L[i]? with
    | none => none
    | some b => simS P R (k false) (.l i) nx L ((a.block, b.g) :: es)
  | .program k, loc, nx, L, es => simS P R (k P) loc nx L es
  | .mark _ k, loc, nx, L, es => simS P R k loc nx L es
  | _, _, _, _, _ => none

def eqs (es : List (Nat × Nat)) : Prop := ∀ p ∈ es, p.1 = p.2

section
variable {B : Base} {I : Imm} {nx : Nat} {L : List Blk} {X : List Res} {w : World}

theorem cell_lt {w : World} {a : Addr} {v : Value} (h : w.cell? a = some v) : a.block < w.heap.size := by
  unfold World.cell? at h
  cases hb : w.heap[a.block]? with
  | none => rw [hb] at h; cases h
  | some o => exact (Array.getElem?_eq_some_iff.1 hb).1

theorem Sat.cell (h : Sat B I nx L X w) {i : Nat} {b : Blk} (hi : L[i]? = some b) {a : Addr} (ha : a.block = b.g) (hs : a.spot = none) : w.cell? a = b.cs[a.off]? := by
  have hm := List.mem_of_getElem? hi
  unfold World.cell?
  rw [ha, h.blk b hm]
  simp [hs]

theorem Sat.frozen (h : Sat B I nx L X w) {i : Nat} {b : Blk} (hi : L[i]? = some b) {a : Addr} (ha : a.block = b.g) : w.frozen? a = false := by
  have hm := List.mem_of_getElem? hi
  unfold World.frozen?
  rw [ha, h.blk b hm]
  simp

theorem Sat.shape (h : Sat B I nx L X w) {i : Nat} {b : Blk} (hi : L[i]? = some b) {r : Nat} (ha : r = b.g) : w.shape? r = some (b.ty, b.cs.length) := by
  have hm := List.mem_of_getElem? hi
  unfold World.shape?
  rw [ha, h.blk b hm]
  simp

theorem Sat.new (h : Sat B I nx L X w) (cs : List Value) (ty : TypeId) : Sat B I (nx + 1) (L ++ [⟨nx, cs, ty⟩]) X { w with heap := w.heap.push (.cells cs.toArray ty (0, 0)) } := by
  have hlt : ∀ b ∈ L, b.g < nx := fun b hb => by
    have := h.blk b hb
    rw [← h.hnx]
    exact (Array.getElem?_eq_some_iff.1 this).1
  have hold : ∀ k, k < nx → (w.heap.push (.cells cs.toArray ty (0, 0)))[k]? = w.heap[k]? := fun k hk => by
    rw [Array.getElem?_push, if_neg (by rw [h.hnx]; omega)]
  refine ⟨⟨h.evo.os, h.evo.tape, h.evo.output, by simp; exact Nat.le_succ_of_le h.evo.size, fun k hk hs => ?_⟩, by simp [h.hnx], ?_, ?_, ?_, ?_, ?_, h.rdis, ?_, ?_, ?_, h.imX, h.le, h.inew⟩
  · show (w.heap.push _)[k]? = _
    rw [hold k (by rw [← h.hnx]; exact Nat.lt_of_lt_of_le hk h.evo.size)]
    exact h.evo.blk k hk hs
  · intro b hb
    rcases List.mem_append.1 hb with hb | hb
    · show (w.heap.push _)[b.g]? = _
      rw [hold _ (hlt b hb)]
      exact h.blk b hb
    · rw [List.mem_singleton.1 hb]
      show (w.heap.push _)[nx]? = _
      rw [← h.hnx]
      simp
  · intro b hb
    rcases List.mem_append.1 hb with hb | hb
    · exact h.own b hb
    · rw [List.mem_singleton.1 hb]
      exact .inl (by show B.w0.heap.size ≤ nx; rw [← h.hnx]; exact h.evo.size)
  · rw [List.pairwise_append]
    refine ⟨h.ne, List.pairwise_singleton _ _, fun a ha b hb => ?_⟩
    rw [List.mem_singleton.1 hb]
    exact Nat.ne_of_lt (hlt a ha)
  · intro r hr
    exact r.stable I w _ (fun k hk => hold k (h.rown r hr k hk).1) (h.res r hr)
  · intro r hr k hk
    exact ⟨Nat.lt_succ_of_lt (h.rown r hr k hk).1, (h.rown r hr k hk).2⟩
  · intro r hr b hb
    rcases List.mem_append.1 hb with hb | hb
    · exact h.rblk r hr b hb
    · rw [List.mem_singleton.1 hb]
      intro hk
      exact Nat.lt_irrefl _ (h.rown r hr nx hk).1
  · intro a v ha
    have hc := h.im a v ha
    rw [← hc]
    exact look_of_block (w := w) (hold _ (by rw [← h.hnx]; exact look_lt hc))
  · intro a v ha b hb
    rcases List.mem_append.1 hb with hb | hb
    · exact h.imL a v ha b hb
    · rw [List.mem_singleton.1 hb]
      have := look_lt (h.im a v ha)
      rw [h.hnx] at this
      exact fun e => absurd this (by show ¬ a.block < nx; rw [← e]; exact Nat.lt_irrefl _)

theorem Sat.set (h : Sat B I nx L X w) {i : Nat} {b : Blk} (hi : L[i]? = some b) {a : Addr} (ha : a.block = b.g) (hs : a.spot = none) (v : Value) : Sat B I nx (L.set i ⟨b.g, b.cs.set a.off v, b.ty⟩) X (w.setCell a v) := by
  have hm := List.mem_of_getElem? hi
  obtain ⟨hil, hib⟩ := List.getElem?_eq_some_iff.1 hi
  have hold : ∀ k, k ≠ b.g → (w.setCell a v).heap[k]? = w.heap[k]? := fun k hk => Below.heap_setCell w a v k (by rw [ha]; exact hk)
  have hnew : (w.setCell a v).heap[b.g]? = some (.cells (b.cs.set a.off v).toArray b.ty (0, 0)) := by
    simp only [World.setCell, Array.getElem?_modify]
    rw [if_pos (by rw [ha])]
    rw [h.blk b hm]
    simp [hs]
  have hmem : ∀ c ∈ L.set i ⟨b.g, b.cs.set a.off v, b.ty⟩, c = ⟨b.g, b.cs.set a.off v, b.ty⟩ ∨ (c ∈ L ∧ c.g ≠ b.g) := by
    intro c hc
    obtain ⟨j, hj, hjc⟩ := List.getElem_of_mem hc
    rw [List.length_set] at hj
    rw [List.getElem_set] at hjc
    split at hjc
    · exact .inl hjc.symm
    · rename_i hne
      refine .inr ⟨by rw [← hjc]; exact List.getElem_mem _, ?_⟩
      have hp := List.pairwise_iff_getElem.1 h.ne
      rw [← hjc]
      have hgb : L[i].g = b.g := by rw [hib]
      intro e
      rcases Nat.lt_or_gt_of_ne hne with hlt | hlt
      · exact hp i j hil hj hlt (hgb.trans e.symm)
      · exact hp j i hj hil hlt (e.trans hgb.symm)
  have hg : ∀ c ∈ L.set i ⟨b.g, b.cs.set a.off v, b.ty⟩, ∃ c' ∈ L, c'.g = c.g := by
    intro c hc
    rcases hmem c hc with rfl | ⟨hc, _⟩
    · exact ⟨b, hm, rfl⟩
    · exact ⟨c, hc, rfl⟩
  refine ⟨⟨h.evo.os, h.evo.tape, h.evo.output, by simpa [World.setCell] using h.evo.size, fun k hk hn => ?_⟩, by simpa [World.setCell] using h.hnx, ?_, ?_, ?_, ?_, h.rown, h.rdis, ?_, ?_, ?_, h.imX, h.le, h.inew⟩
  · have : k ≠ b.g := by
      rintro rfl
      rcases h.own b hm with h1 | h1
      · omega
      · exact hn h1
    rw [hold k this]
    exact h.evo.blk k hk hn
  · intro c hc
    rcases hmem c hc with rfl | ⟨hc, hne⟩
    · exact hnew
    · rw [hold _ hne]
      exact h.blk c hc
  · intro c hc
    obtain ⟨c', h1, h2⟩ := hg c hc
    rw [← h2]
    exact h.own c' h1
  · rw [List.pairwise_iff_getElem]
    intro x y hx hy hxy
    rw [List.length_set] at hx hy
    have hp := List.pairwise_iff_getElem.1 h.ne x y hx hy hxy
    rw [List.getElem_set, List.getElem_set]
    by_cases e1 : i = x
    · subst e1
      rw [if_pos rfl, if_neg (by omega)]
      rw [hib] at hp
      exact hp
    · rw [if_neg e1]
      by_cases e2 : i = y
      · subst e2
        rw [if_pos rfl]
        rw [hib] at hp
        exact hp
      · rw [if_neg e2]
        exact hp
  · intro r hr
    exact r.stable I w _ (fun k hk => hold k (by rintro rfl; exact h.rblk r hr b hm hk)) (h.res r hr)
  · intro r hr c hc
    obtain ⟨c', h1, h2⟩ := hg c hc
    rw [← h2]
    exact h.rblk r hr c' h1
  · intro p u hp
    have hc := h.im p u hp
    rw [← hc]
    exact look_of_block (w := w) (hold _ (fun e => h.imL p u hp b hm e.symm))
  · intro p u hp c hc
    obtain ⟨c', h1, h2⟩ := hg c hc
    rw [← h2]
    exact h.imL p u hp c' h1
end

theorem simS_mono {α : Type} {P : Program} {R : List (Addr × Value)} : ∀ (s : Sem α) (loc : Loc) (nx : Nat) (L : List Blk) (es : List (Nat × Nat)) (x : α) (nx' : Nat) (L' : List Blk) (es' : List (Nat × Nat)), simS P R s loc nx L es = some (x, nx', L', es') → ∀ p ∈ es, p ∈ es' := by
  intro s
  induction s with
  | pure a => intro loc nx L es x nx' L' es' h p hp; simp only [simS, Option.some.injEq, Prod.mk.injEq] at h; obtain ⟨rfl, rfl, rfl, rfl⟩ := h; exact hp
  | load m a k ih =>
    intro loc nx L es x nx' L' es' h p hp
    cases loc with
    | no => simp [simS] at h
    | l i =>
      simp only [simS] at h
      split at h
      · cases h
      · split at h
        · cases h
        · split at h
          · cases h
          · exact ih _ _ _ _ _ _ _ _ _ h p (List.mem_cons_of_mem _ hp)
    | r j =>
      simp only [simS] at h
      split at h
      · cases h
      · split at h
        · exact ih _ _ _ _ _ _ _ _ _ h p (List.mem_cons_of_mem _ (List.mem_cons_of_mem _ hp))
        · cases h
  | store m a v k ih =>
    intro loc nx L es x nx' L' es' h p hp
    cases loc with
    | no => cases v <;> simp [simS] at h
    | r j => cases v <;> simp [simS] at h
    | l i =>
      simp only [simS] at h
      split at h
      · cases h
      · split at h
        · cases h
        · split at h
          · cases h
          · cases h
          · split at h
            · cases h
            · exact ih _ _ _ _ _ _ _ _ h p (List.mem_cons_of_mem _ hp)
  | new o k ih =>
    intro loc nx L es x nx' L' es' h p hp
    simp only [simS] at h
    split at h
    · exact ih _ _ _ _ _ _ _ _ _ h p hp
    · cases h
  | shape r k ih =>
    intro loc nx L es x nx' L' es' h p hp
    cases loc <;> simp only [simS] at h
    · cases h
    · split at h
      · cases h
      · exact ih _ _ _ _ _ _ _ _ _ h p (List.mem_cons_of_mem _ hp)
    · cases h
  | frozen a k ih =>
    intro loc nx L es x nx' L' es' h p hp
    cases loc <;> simp only [simS] at h
    · cases h
    · split at h
      · cases h
      · exact ih _ _ _ _ _ _ _ _ _ h p (List.mem_cons_of_mem _ hp)
    · cases h
  | program k ih => intro loc nx L es x nx' L' es' h p hp; simp only [simS] at h; exact ih _ _ _ _ _ _ _ _ _ h p hp
  | mark m k ih => intro loc nx L es x nx' L' es' h p hp; simp only [simS] at h; exact ih _ _ _ _ _ _ _ _ h p hp
  | _ => intro loc nx L es x nx' L' es' h p hp; cases loc <;> simp [simS] at h

theorem simS_sound {α : Type} {P : Program} {B : Base} {I : Imm} {X : List Res} {R : List (Addr × Value)} (hR : ∀ nx L w, Sat B I nx L X w → ∀ r ∈ R, w.cell? r.1 = some r.2) (s : Sem α) :
    ∀ (loc : Loc) (nx : Nat) (L : List Blk) (es : List (Nat × Nat)) (w : World) (x : α) (nx' : Nat) (L' : List Blk) (es' : List (Nat × Nat)),
      simS P R s loc nx L es = some (x, nx', L', es') → eqs es' → Sat B I nx L X w → eqs es ∧ ∃ w', s.run P w = .ok x w' ∧ Sat B I nx' L' X w' := by
  induction s with
  | pure a =>
    intro loc nx L es w x nx' L' es' h he hs
    simp only [simS, Option.some.injEq, Prod.mk.injEq] at h
    obtain ⟨rfl, rfl, rfl, rfl⟩ := h
    exact ⟨he, w, rfl, hs⟩
  | load m a k ih =>
    intro loc nx L es w x nx' L' es' h he hs
    cases loc with
    | no => simp [simS] at h
    | l i =>
      simp only [simS] at h
      split at h
      · cases h
      · rename_i b hb
        split at h
        · cases h
        · rename_i hsp
          split at h
          · cases h
          · rename_i v hv
            obtain ⟨he2, w', hr, hs'⟩ := ih v _ _ _ _ w _ _ _ _ h he hs
            have hblk : a.block = b.g := he2 (a.block, b.g) List.mem_cons_self
            refine ⟨fun p hp => he2 p (List.mem_cons_of_mem _ hp), w', ?_, hs'⟩
            simp only [Sem.run, hs.cell hb hblk hsp, hv]
            exact hr
    | r j =>
      simp only [simS] at h
      split at h
      · cases h
      · rename_i q v hq
        split at h
        · rename_i hsa hsq
          obtain ⟨he2, w', hr, hs'⟩ := ih v _ _ _ _ w _ _ _ _ h he hs
          have h1 : a.block = q.block := he2 (a.block, q.block) List.mem_cons_self
          have h2 : a.off = q.off := he2 (a.off, q.off) (List.mem_cons_of_mem _ List.mem_cons_self)
          refine ⟨fun p hp => he2 p (List.mem_cons_of_mem _ (List.mem_cons_of_mem _ hp)), w', ?_, hs'⟩
          have haq : a = q := by
            cases a; cases q
            simp only at h1 h2 hsa hsq
            rw [h1, h2, hsa, hsq]
          have hc := hR _ _ _ hs (q, v) (List.mem_of_getElem? hq)
          simp only at hc
          simp only [Sem.run, haq, hc]
          exact hr
        · cases h
  | store m a v k ih =>
    intro loc nx L es w x nx' L' es' h he hs
    cases loc with
    | no => cases v <;> simp [simS] at h
    | r j => cases v <;> simp [simS] at h
    | l i =>
      have key : ∀ b, L[i]? = some b → a.spot = none → (∀ u, v ≠ .agg u) → (∀ u, v ≠ .tuple u) → (b.cs[a.off]?).isSome → simS P R k (.l i) nx (L.set i ⟨b.g, b.cs.set a.off v, b.ty⟩) ((a.block, b.g) :: es) = some (x, nx', L', es') → eqs es ∧ ∃ w', (Sem.store m a v k).run P w = .ok x w' ∧ Sat B I nx' L' X w' := by
        intro b hb hsp hva hvt hc h
        obtain ⟨u, hu⟩ := Option.isSome_iff_exists.1 hc
        have hpre : eqs ((a.block, b.g) :: es) → eqs es ∧ a.block = b.g := fun he2 => ⟨fun p hp => he2 p (List.mem_cons_of_mem _ hp), he2 (a.block, b.g) List.mem_cons_self⟩
        -- the pairs hold whatever the world: first at some world, then at ours
        have hes : eqs ((a.block, b.g) :: es) := by
          exact fun p hp => he p (simS_mono _ _ _ _ _ _ _ _ _ h p hp)
        obtain ⟨he2, hblk⟩ := hpre hes
        obtain ⟨_, w', hr, hs'⟩ := ih _ _ _ _ _ _ _ _ _ h he (hs.set hb hblk hsp v)
        refine ⟨he2, w', ?_, hs'⟩
        have hcell := (hs.cell hb hblk hsp).trans hu
        have hfr := hs.frozen hb hblk
        cases v
        case agg => exact absurd rfl (hva _)
        case tuple => exact absurd rfl (hvt _)
        all_goals (simp only [Sem.run, hcell, hfr, Bool.false_eq_true, if_false]; exact hr)
      simp only [simS] at h
      split at h
      · cases h
      · rename_i b hb
        split at h
        · cases h
        · rename_i hsp
          split at h
          · cases h
          · cases h
          · rename_i hva hvt
            split at h
            · cases h
            · rename_i u hu
              exact key b hb hsp hva hvt (by rw [hu]; rfl) h
  | new o k ih =>
    intro loc nx L es w x nx' L' es' h he hs
    simp only [simS] at h
    split at h
    · rename_i c ty
      have hs2 := hs.new c.toList ty
      rw [Array.toArray_toList] at hs2
      obtain ⟨he2, w', hr, hs'⟩ := ih _ _ _ _ _ _ _ _ _ _ h he hs2
      refine ⟨he2, w', ?_, hs'⟩
      simp only [Sem.run, hs.hnx]
      exact hr
    · cases h
  | shape r k ih =>
    intro loc nx L es w x nx' L' es' h he hs
    cases loc <;> simp only [simS] at h
    · cases h
    · split at h
      · cases h
      · rename_i b hb
        obtain ⟨he2, w', hr, hs'⟩ := ih _ _ _ _ _ w _ _ _ _ h he hs
        refine ⟨fun p hp => he2 p (List.mem_cons_of_mem _ hp), w', ?_, hs'⟩
        simp only [Sem.run, hs.shape hb (he2 (_, _) List.mem_cons_self)]
        exact hr
    · cases h
  | frozen a k ih =>
    intro loc nx L es w x nx' L' es' h he hs
    cases loc <;> simp only [simS] at h
    · cases h
    · split at h
      · cases h
      · rename_i b hb
        obtain ⟨he2, w', hr, hs'⟩ := ih _ _ _ _ _ w _ _ _ _ h he hs
        refine ⟨fun p hp => he2 p (List.mem_cons_of_mem _ hp), w', ?_, hs'⟩
        simp only [Sem.run, hs.frozen hb (he2 (_, _) List.mem_cons_self)]
        exact hr
    · cases h
  | program k ih =>
    intro loc nx L es w x nx' L' es' h he hs
    simp only [simS] at h
    exact ih _ _ _ _ _ _ _ _ _ _ h he hs
  | mark m k ih =>
    intro loc nx L es w x nx' L' es' h he hs
    simp only [simS] at h
    exact ih _ _ _ _ _ _ _ _ _ h he hs
  | _ => intro loc nx L es w x nx' L' es' h he hs; cases loc <;> simp [simS] at h

end Go.Proofs.Ytieakigoinebdaa.RW
