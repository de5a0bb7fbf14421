/- A walk's own words, second part: frames, lists of operations, the code's own forms, calls. -/
import Derived.Test.YtieakigoinebdaaRW
import Derived.LoopN
namespace Go.Proofs.Ytieakigoinebdaa.RW
open Go Go.RowKit

/-! ### frames: some slots are known -/
/-- A frame's size, and what it defers. -/
structure Fr where
  n : Nat
  D : List Deferred

structure Knows (A : Fr) (K : List (Nat × Value)) (a : Act) : Prop where
  size : a.tmps.size = A.n
  defers : a.defers = A.D
  slot : ∀ p ∈ K, a.tmps[p.1]? = some p.2

def lookK : List (Nat × Value) → Nat → Option Value
  | [], _ => none
  | (i, v) :: K, t => if i = t then some v else lookK K t

def evalK (K : List (Nat × Value)) : Operand → Value
  | .tmp t => match lookK K t with | some v => v | none => undef
  | o => (⟨#[], []⟩ : Act).eval o
def knownO (K : List (Nat × Value)) : Operand → Bool
  | .tmp t => (lookK K t).isSome
  | _ => true
def noSelect : Op → Bool
  | .select _ _ => false
  | _ => true
def dropK : List (Nat × Value) → Nat → List (Nat × Value)
  | [], _ => []
  | (i, v) :: K, t => if i = t then dropK K t else (i, v) :: dropK K t
/-- A slot is written. -/
def putK (A : Fr) (K : List (Nat × Value)) (d : Option Tmp) (v : Value) : List (Nat × Value) :=
  match d with
  | some d => if d < A.n then (d, v) :: dropK K d else dropK K d
  | none => K

theorem look_mem {K : List (Nat × Value)} {t : Nat} {v : Value} (h : lookK K t = some v) : (t, v) ∈ K := by
  induction K with
  | nil => cases h
  | cons p K ih =>
    obtain ⟨i, u⟩ := p
    simp only [lookK] at h
    split at h
    · rename_i e
      injection h with h
      rw [← e, ← h]
      exact List.mem_cons_self
    · exact List.mem_cons_of_mem _ (ih h)
theorem dropK_mem {K : List (Nat × Value)} {t : Nat} {p : Nat × Value} (h : p ∈ dropK K t) : p ∈ K ∧ p.1 ≠ t := by
  induction K with
  | nil => cases h
  | cons q K ih =>
    obtain ⟨i, u⟩ := q
    simp only [dropK] at h
    split at h
    · exact ⟨List.mem_cons_of_mem _ (ih h).1, (ih h).2⟩
    · rename_i hne
      rcases List.mem_cons.1 h with rfl | h
      · exact ⟨List.mem_cons_self, hne⟩
      · exact ⟨List.mem_cons_of_mem _ (ih h).1, (ih h).2⟩

section
variable {A : Fr} {K : List (Nat × Value)} {a : Act}
theorem Knows.eval (h : Knows A K a) {o : Operand} (ho : knownO K o = true) : a.eval o = evalK K o := by
  cases o with
  | tmp t =>
    simp only [knownO] at ho
    obtain ⟨v, hv⟩ := Option.isSome_iff_exists.1 ho
    have := h.slot _ (look_mem hv)
    simp only at this
    simp only [Act.eval, evalK, hv]
    rw [Array.getD_eq_getD_getElem?, this]
    rfl
  | _ => rfl
theorem Knows.exec (h : Knows A K a) {o : Oper} (hs : noSelect o.op = true) (ho : ∀ x ∈ o.op.operands, knownO K x = true) : execOp a.eval o = execOp (evalK K) o :=
  execOp_congr o (fun cs b e => by rw [e] at hs; simp [noSelect] at hs) (fun x hx => h.eval (ho x hx))
theorem Knows.put (h : Knows A K a) (d : Option Tmp) (v : Value) : Knows A (putK A K d v) (a.put d v) := by
  cases d with
  | none => exact h
  | some d =>
    refine ⟨by simpa [Act.put] using h.size, h.defers, fun p hp => ?_⟩
    have old : p ∈ dropK K d → (a.put (some d) v).tmps[p.1]? = some p.2 := fun hp => by
      obtain ⟨h1, h2⟩ := dropK_mem hp
      simp only [Act.put]
      rw [Array.getElem?_setIfInBounds_ne (fun e => h2 e.symm)]
      exact h.slot p h1
    simp only [putK] at hp
    split at hp
    · rename_i hd
      rcases List.mem_cons.1 hp with rfl | hp
      · simp only [Act.put]
        rw [Array.getElem?_setIfInBounds_self_of_lt (by rw [h.size]; exact hd)]
      · exact old hp
    · exact old hp
theorem Knows.sub {K' : List (Nat × Value)} (h : Knows A K a) (hK : ∀ p ∈ K', lookK K p.1 = some p.2) : Knows A K' a :=
  ⟨h.size, h.defers, fun p hp => h.slot _ (look_mem (hK p hp))⟩
end

/-- What the guard of an operation asks, as far as it is known. -/
def wantedK (ops : List Oper) (K : List (Nat × Value)) (o : Oper) : Option Bool :=
  match o.guard with
  | none => some true
  | some (j, want) =>
    match ops[j]? with
    | none => none
    | some q =>
      match q.dst with
      | none => none
      | some t =>
        match lookK K t with
        | some (.bool b) => some (b == want)
        | some (.tuple _) => some false
        | _ => none
theorem wantedK_spec {A : Fr} {K : List (Nat × Value)} {a : Act} (h : Knows A K a) {ops : List Oper} {o : Oper} {b : Bool} (hw : wantedK ops K o = some b) : Region.wanted o (yielded ops.toArray a.tmps) = b := by
  unfold wantedK at hw
  unfold Region.wanted
  split at hw
  · rename_i hg
    injection hw with hw
    rw [hg]
    exact hw
  · rename_i j want hg
    rw [hg]
    split at hw
    · cases hw
    · rename_i q hq
      split at hw
      · cases hw
      · rename_i t ht
        split at hw
        · rename_i b' hb
          injection hw with hw
          have hy : yielded ops.toArray a.tmps j = some b' := by
            unfold yielded
            have hs := h.slot _ (look_mem hb)
            simp only at hs
            simp [hq, ht, hs]
          simp only [hy]
          rw [← hw]
          cases b' <;> cases want <;> rfl
        · rename_i b' hb
          injection hw with hw
          have hy : yielded ops.toArray a.tmps j = none := by
            unfold yielded
            have hs := h.slot _ (look_mem hb)
            simp only at hs
            simp [hq, ht, hs]
          simp only [hy]
          rw [← hw]
          rfl
        · cases hw

/-! ### lists of operations -/
def simOps (P : Program) (R : List (Addr × Value)) (ops : List Oper) (A : Fr) : List Oper → List Loc → List (Nat × Value) → Nat → List Blk → List (Nat × Nat) → Option (List (Nat × Value) × Nat × List Blk × List (Nat × Nat))
  | [], _, K, nx, L, es => some (K, nx, L, es)
  | o :: rest, locs, K, nx, L, es =>
    match wantedK ops K o with
    | none => none
    | some false => simOps P R ops A rest (locs.drop 1) (putK A K o.dst undef) nx L es
    | some true =>
      match noSelect o.op && o.op.operands.toList.all (knownO K) with
      | false => none
      | true =>
        match simS P R (execOp (evalK K) o) (locs.headD .no) nx L es with
        | some (.value v, nx', L', es') => simOps P R ops A rest (locs.drop 1) (putK A K o.dst v) nx' L' es'
        | some (.skip, nx', L', es') => simOps P R ops A rest (locs.drop 1) (putK A K o.dst undef) nx' L' es'
        | _ => none

theorem simOps_mono {P : Program} {R : List (Addr × Value)} {ops : List Oper} {A : Fr} : ∀ (l : List Oper) (locs : List Loc) (K : List (Nat × Value)) (nx : Nat) (L : List Blk) (es : List (Nat × Nat)) (K' : List (Nat × Value)) (nx' : Nat) (L' : List Blk) (es' : List (Nat × Nat)),
    simOps P R ops A l locs K nx L es = some (K', nx', L', es') → ∀ p ∈ es, p ∈ es' := by
  intro l
  induction l with
  | nil => intro locs K nx L es K' nx' L' es' h p hp; simp only [simOps, Option.some.injEq, Prod.mk.injEq] at h; obtain ⟨rfl, rfl, rfl, rfl⟩ := h; exact hp
  | cons o rest ih =>
    intro locs K nx L es K' nx' L' es' h p hp
    simp only [simOps] at h
    split at h
    · cases h
    · exact ih _ _ _ _ _ _ _ _ _ h p hp
    · split at h
      · cases h
      · split at h
        · rename_i hs
          exact ih _ _ _ _ _ _ _ _ _ h p (simS_mono _ _ _ _ _ _ _ _ _ hs p hp)
        · rename_i hs
          exact ih _ _ _ _ _ _ _ _ _ h p (simS_mono _ _ _ _ _ _ _ _ _ hs p hp)
        · cases h

def RFacts (B : Base) (I : Imm) (X : List Res) (R : List (Addr × Value)) : Prop := ∀ nx L w, Sat B I nx L X w → ∀ r ∈ R, w.cell? r.1 = some r.2
theorem RFacts.nil (B : Base) (I : Imm) (X : List Res) : RFacts B I X [] := fun _ _ _ _ r hr => by cases hr
/-- A cell that never turns. -/
theorem RFacts.imm {B : Base} {I : Imm} {X : List Res} {R : List (Addr × Value)} {a : Addr} {v : Value} (h : I a = some v) (hR : RFacts B I X R) (hsp : a.spot = none := by rfl) : RFacts B I X ((a, v) :: R) := by
  intro nx L w hs r hr
  rcases List.mem_cons.1 hr with rfl | hr
  · rw [← look_cell hsp]; exact hs.im _ _ h
  · exact hR nx L w hs r hr

theorem simOps_sound {P : Program} {B : Base} {I : Imm} {X : List Res} {R : List (Addr × Value)} (hR : RFacts B I X R) {ops : List Oper} {Q : Exit → Act → World → Prop} {A : Fr} {rest : List Oper} :
    ∀ (l : List Oper) (locs : List Loc) (K : List (Nat × Value)) (nx : Nat) (L : List Blk) (es : List (Nat × Nat)) (K' : List (Nat × Value)) (nx' : Nat) (L' : List Blk) (es' : List (Nat × Nat)) (a : Act) (w : World),
      simOps P R ops A l locs K nx L es = some (K', nx', L', es') → eqs es' → Knows A K a → Sat B I nx L X w →
      (∀ a' w', Knows A K' a' → Sat B I nx' L' X w' → wpList P ops.toArray Q rest a' w') → wpList P ops.toArray Q (l ++ rest) a w := by
  intro l
  induction l with
  | nil =>
    intro locs K nx L es K' nx' L' es' a w h he ha hs hk
    simp only [simOps, Option.some.injEq, Prod.mk.injEq] at h
    obtain ⟨rfl, rfl, rfl, rfl⟩ := h
    exact hk a w ha hs
  | cons o l ih =>
    intro locs K nx L es K' nx' L' es' a w h he ha hs hk
    simp only [simOps] at h
    simp only [List.cons_append, wpList]
    split at h
    · cases h
    · rename_i hw
      rw [if_neg (by rw [wantedK_spec ha hw]; decide)]
      exact ih _ _ _ _ _ _ _ _ _ _ _ h he (ha.put _ _) hs hk
    · rename_i hw
      rw [if_pos (wantedK_spec ha hw)]
      split at h
      · cases h
      · rename_i hkn
        rw [Bool.and_eq_true, List.all_eq_true] at hkn
        refine .inl ?_
        unfold Oper.wp
        rw [ha.exec hkn.1 (fun x hx => hkn.2 x (by simpa using hx))]
        split at h
        · rename_i v nx1 L1 es1 hsim
          obtain ⟨_, w', hr, hs'⟩ := simS_sound hR _ _ _ _ _ w _ _ _ _ hsim (fun p hp => he p (simOps_mono _ _ _ _ _ _ _ _ _ _ h p hp)) hs
          rw [hr, Oper.upon_value]
          exact ih _ _ _ _ _ _ _ _ _ _ _ h he (ha.put _ _) hs' hk
        · rename_i nx1 L1 es1 hsim
          obtain ⟨_, w', hr, hs'⟩ := simS_sound hR _ _ _ _ _ w _ _ _ _ hsim (fun p hp => he p (simOps_mono _ _ _ _ _ _ _ _ _ _ h p hp)) hs
          rw [hr, Oper.upon_skip]
          exact ih _ _ _ _ _ _ _ _ _ _ _ h he (ha.put _ _) hs' hk
        · cases h

/-! ### what only reads -/
def simQ {α : Type} (P : Program) (R : List (Addr × Value)) (L : List Blk) : Sem α → Loc → List (Nat × Nat) → Option (α × List (Nat × Nat))
  | .pure a, _, es => some (a, es)
  | .load _ a k, .l i, es =>
    match L[i]? with
    | none => none
    | some b =>
      match a.spot with
      | some _ => none
      | none =>
        match b.cs[a.off]? with
        | none => none
        | some v => simQ P R L (k v) (.l i) ((a.block, b.g) :: es)
  | .load _ a k, .r j, es =>
    match R[j]? with
    | none => none
    | some (q, v) =>
      match a.spot, q.spot with
      | none, none => simQ P R L (k v) (.r (j + 1)) ((a.block, q.block) :: (a.off, q.off) :: es)
      | _, _ => none
  | .program k, loc, es => simQ P R L (k P) loc es
  | .mark _ k, loc, es => simQ P R L k loc es
  | _, _, _ => none

theorem simQ_mono {α : Type} {P : Program} {R : List (Addr × Value)} {L : List Blk} (s : Sem α) : ∀ (loc : Loc) (es : List (Nat × Nat)) (x : α) (es' : List (Nat × Nat)),
    simQ P R L s loc es = some (x, es') → ∀ p ∈ es, p ∈ es' := by
  induction s with
  | pure a => intro loc es x es' h p hp; simp only [simQ, Option.some.injEq, Prod.mk.injEq] at h; obtain ⟨rfl, rfl⟩ := h; exact hp
  | load m a k ih =>
    intro loc es x es' h p hp
    cases loc with
    | no => simp [simQ] at h
    | l i =>
      simp only [simQ] at h
      split at h
      · cases h
      · split at h
        · cases h
        · split at h
          · cases h
          · exact ih _ _ _ _ _ h p (List.mem_cons_of_mem _ hp)
    | r j =>
      simp only [simQ] at h
      split at h
      · cases h
      · split at h
        · exact ih _ _ _ _ _ h p (List.mem_cons_of_mem _ (List.mem_cons_of_mem _ hp))
        · cases h
  | program k ih => intro loc es x es' h p hp; simp only [simQ] at h; exact ih _ _ _ _ _ h p hp
  | mark m k ih => intro loc es x es' h p hp; simp only [simQ] at h; exact ih _ _ _ _ h p hp
  | _ => intro loc es x es' h p hp; simp [simQ] at h

theorem simQ_sound {α : Type} {P : Program} {B : Base} {I : Imm} {X : List Res} {nx : Nat} {L : List Blk} {R : List (Addr × Value)} (hR : RFacts B I X R) {w : World} (hs : Sat B I nx L X w) (s : Sem α) :
    ∀ (loc : Loc) (es : List (Nat × Nat)) (x : α) (es' : List (Nat × Nat)), simQ P R L s loc es = some (x, es') → eqs es' → s.run P w = .ok x w := by
  induction s with
  | pure a => intro loc es x es' h _; simp only [simQ, Option.some.injEq, Prod.mk.injEq] at h; obtain ⟨rfl, rfl⟩ := h; rfl
  | load m a k ih =>
    intro loc es x es' h he
    cases loc with
    | no => simp [simQ] at h
    | l i =>
      simp only [simQ] at h
      split at h
      · cases h
      · rename_i b hb
        split at h
        · cases h
        · rename_i hsp
          split at h
          · cases h
          · rename_i v hv
            have hblk : a.block = b.g := he (a.block, b.g) (simQ_mono _ _ _ _ _ h _ List.mem_cons_self)
            simp only [Sem.run, hs.cell hb hblk hsp, hv]
            exact ih _ _ _ _ _ h he
    | r j =>
      simp only [simQ] at h
      split at h
      · cases h
      · rename_i q v hq
        split at h
        · rename_i hsa hsq
          have h1 : a.block = q.block := he (a.block, q.block) (simQ_mono _ _ _ _ _ h _ List.mem_cons_self)
          have h2 : a.off = q.off := he (a.off, q.off) (simQ_mono _ _ _ _ _ h _ (List.mem_cons_of_mem _ List.mem_cons_self))
          have haq : a = q := by
            cases a; cases q
            simp only at h1 h2 hsa hsq
            rw [h1, h2, hsa, hsq]
          have hc := hR _ _ _ hs (q, v) (List.mem_of_getElem? hq)
          simp only at hc
          simp only [Sem.run, haq, hc]
          exact ih _ _ _ _ _ h he
        · cases h
  | program k ih => intro loc es x es' h he; simp only [simQ] at h; exact ih _ _ _ _ _ h he
  | mark m k ih => intro loc es x es' h he; simp only [simQ] at h; exact ih _ _ _ _ h he
  | _ => intro loc es x es' h he; simp [simQ] at h

/-- Without known blocks and cells: in any world. -/
theorem simQ_any {α : Type} {P : Program} (s : Sem α) : ∀ (es : List (Nat × Nat)) (x : α) (es' : List (Nat × Nat)), simQ P [] [] s .no es = some (x, es') → ∀ w : World, s.run P w = .ok x w := by
  induction s with
  | pure a => intro es x es' h w; simp only [simQ, Option.some.injEq, Prod.mk.injEq] at h; obtain ⟨rfl, rfl⟩ := h; rfl
  | program k ih => intro es x es' h w; simp only [simQ] at h; exact ih _ _ _ _ h w
  | mark m k ih => intro es x es' h w; simp only [simQ] at h; exact ih _ _ _ h w
  | _ => intro es x es' h w; simp [simQ] at h

theorem eqs_of_map {es : List (Nat × Nat)} (h : es.map (·.1) = es.map (·.2)) : eqs es := by
  intro p hp
  obtain ⟨i, hi, rfl⟩ := List.getElem_of_mem hp
  have h1 := congrArg (·[i]?) h
  simp only [List.getElem?_map, List.getElem?_eq_getElem hi, Option.map_some, Option.some.injEq] at h1
  exact h1
theorem simQ_run {α : Type} {P : Program} {B : Base} {I : Imm} {X : List Res} {nx : Nat} {L : List Blk} {R : List (Addr × Value)} (hR : RFacts B I X R) {w : World} {s : Sem α} (loc : Loc) (v : α)
    (h : (simQ P R L s loc []).map (·.1) = some v) (he : (simQ P R L s loc []).map (fun x => x.2.map (·.1)) = (simQ P R L s loc []).map (fun x => x.2.map (·.2))) (hs : Sat B I nx L X w) : s.run P w = .ok v w := by
  cases hsim : simQ P R L s loc [] with
  | none => rw [hsim] at h; cases h
  | some x =>
    obtain ⟨x1, es1⟩ := x
    rw [hsim] at h he
    simp only [Option.map_some, Option.some.injEq] at h he
    subst h
    exact simQ_sound hR hs _ _ _ _ _ hsim (eqs_of_map he)

/-- Less is known. -/
theorem Sat.less {B : Base} {I : Imm} {nx : Nat} {L : List Blk} {X : List Res} {w : World} (h : Sat B I nx L X w) {L' : List Blk} {X' : List Res} (hL : L'.Sublist L) (hX : X'.Sublist X) : Sat B I nx L' X' w :=
  ⟨h.evo, h.hnx, fun b hb => h.blk b (hL.subset hb), fun b hb => h.own b (hL.subset hb), h.ne.sublist hL, fun r hr => h.res r (hX.subset hr), fun r hr => h.rown r (hX.subset hr), h.rdis.sublist hX,
    fun r hr b hb => h.rblk r (hX.subset hr) b (hL.subset hb), h.im, fun a v ha b hb => h.imL a v ha b (hL.subset hb), fun a v ha r hr => h.imX a v ha r (hX.subset hr), h.le, h.inew⟩

/-! ### goals -/
def OK (P : Program) (c : Code) (Q : Exit → Act → World → Prop) (A : Fr) (K : List (Nat × Value)) (B : Base) (I : Imm) (nx : Nat) (L : List Blk) (X : List Res) : Prop :=
  ∀ a w, Knows A K a → Sat B I nx L X w → c.wp P Q a w
def RL (P : Program) (os : List Oper) (Q : Exit → Act → World → Prop) (p : Nat) (A : Fr) (K : List (Nat × Value)) (B : Base) (I : Imm) (nx : Nat) (L : List Blk) (X : List Res) : Prop :=
  ∀ a w, Knows A K a → Sat B I nx L X w → wpList P os.toArray Q (os.drop p) a w
def QN (Q : Exit → Act → World → Prop) (e : Exit) (A : Fr) (K : List (Nat × Value)) (B : Base) (I : Imm) (nx : Nat) (L : List Blk) (X : List Res) : Prop :=
  ∀ a w, Knows A K a → Sat B I nx L X w → Q e a w
/-- What holds at a point. -/
abbrev St := List (Nat × Value) → Imm → Nat → List Blk → List Res → Prop

def cL : Code → Code
  | .seq a _ => a
  | .cond _ a _ => a
  | .block _ b => b
  | .loop b => b
  | .scope b => b
  | c => c
def cR : Code → Code
  | .seq _ b => b
  | .cond _ _ b => b
  | c => c
def cOps : Code → List Oper
  | .region _ ops _ => ops.toList
  | _ => []
def cOpd : Code → Operand
  | .cond o _ _ => o
  | _ => .tmp 0
def cBody (f : Func) : Code := f.body.getD .skip

section
variable {P : Program} {c : Code} {Q : Exit → Act → World → Prop} {A : Fr} {K : List (Nat × Value)} {B : Base} {I : Imm} {nx : Nat} {L : List Blk} {X : List Res}

theorem OK.seq (l r : Code) (h : c = .seq l r) (k : OK P l (Exit.then (r.wp P Q) Q) A K B I nx L X) : OK P c Q A K B I nx L X := by
  intro a w ha hs
  rw [h]
  exact wp_seq (k a w ha hs)
theorem OK.region (id : Nat) (os : List Oper) (h : c = .region id os.toArray false) (k : RL P os Q 0 A K B I nx L X) : OK P c Q A K B I nx L X := by
  intro a w ha hs
  rw [h]
  exact wp_region_lit (k a w ha hs)
theorem OK.block (id : Nat) (l : Code) (h : c = .block id l) (k : OK P l (Exit.inBlock id Q) A K B I nx L X) : OK P c Q A K B I nx L X := by
  intro a w ha hs
  rw [h]
  exact wp_block (k a w ha hs)
theorem OK.cond (o : Operand) (l r : Code) (t : Bool) (h : c = .cond o l r) (hk : knownO K o = true) (ht : evalK K o = .bool t) (k1 : t = true → OK P l Q A K B I nx L X) (k2 : t = false → OK P r Q A K B I nx L X) : OK P c Q A K B I nx L X := by
  intro a w ha hs
  rw [h]
  refine wp_cond_split (t := t) ?_ (fun e => k1 e a w ha hs) (fun e => k2 e a w ha hs)
  rw [ha.eval hk]
  exact ht
theorem OK.condT (o : Operand) (l r : Code) (h : c = .cond o l r) (hk : knownO K o = true) (ht : evalK K o = .bool true) (k1 : OK P l Q A K B I nx L X) : OK P c Q A K B I nx L X :=
  OK.cond o l r true h hk ht (fun _ => k1) (fun e => by cases e)
theorem OK.condF (o : Operand) (l r : Code) (h : c = .cond o l r) (hk : knownO K o = true) (ht : evalK K o = .bool false) (k1 : OK P r Q A K B I nx L X) : OK P c Q A K B I nx L X :=
  OK.cond o l r false h hk ht (fun e => by cases e) (fun _ => k1)
theorem OK.exit (id : Nat) (h : c = .exit id) (k : QN Q (.exit id) A K B I nx L X) : OK P c Q A K B I nx L X := by
  intro a w ha hs
  rw [h]
  exact wp_exit (k a w ha hs)
theorem OK.ret (h : c = .ret) (k : QN Q .ret A K B I nx L X) : OK P c Q A K B I nx L X := by
  intro a w ha hs
  rw [h]
  exact wp_ret (k a w ha hs)
theorem OK.skip (h : c = .skip) (k : QN Q .normal A K B I nx L X) : OK P c Q A K B I nx L X := by
  intro a w ha hs
  rw [h]
  exact wp_skip (k a w ha hs)
theorem OK.label (l : Nat) (h : c = .label l) (k : QN Q .normal A K B I nx L X) : OK P c Q A K B I nx L X := by
  intro a w ha hs
  rw [h]
  exact wp_label (k a w ha hs)

/-- A loop: what holds at the head of a round, and how many rounds are left at most. -/
theorem OK.loopInv (l : Code) (h : c = .loop l) (Inv : Nat → St) (k : Nat) (h0 : Inv k K I nx L X) (hz : ∀ K I nx L X, ¬ Inv 0 K I nx L X)
    (step : ∀ k K I nx L X, Inv (k + 1) K I nx L X → ∀ Q' : Exit → Act → World → Prop, (∀ K' I' nx' L' X', Inv k K' I' nx' L' X' → QN Q' .normal A K' B I' nx' L' X') → (∀ e a w, e ≠ .normal → Q e a w → Q' e a w) → OK P l Q' A K B I nx L X) :
    OK P c Q A K B I nx L X := by
  have key : ∀ k K I nx L X, Inv k K I nx L X → ∀ a w, Knows A K a → Sat B I nx L X w → Code.rounds P l Q k a w := by
    intro k
    induction k with
    | zero => intro K I nx L X hi; exact absurd hi (hz _ _ _ _ _)
    | succ k ih =>
      intro K I nx L X hi a w ha hs
      refine step k K I nx L X hi (Exit.then (Code.rounds P l Q k) Q) (fun K' I' nx' L' X' hi' a' w' ha' hs' => ih K' I' nx' L' X' hi' a' w' ha' hs') (fun e a w hne hq => ?_) a w ha hs
      cases e with
      | normal => exact absurd rfl hne
      | _ => exact hq
  intro a w ha hs
  rw [h]
  exact wp_loop_rounds k (key k K I nx L X h0 a w ha hs)
/-- Where ways meet: what holds behind this piece of code. -/
theorem OK.join (S : St) (k2 : ∀ K I nx L X, S K I nx L X → QN Q .normal A K B I nx L X)
    (k1 : ∀ Q' : Exit → Act → World → Prop, (∀ K' I' nx' L' X', S K' I' nx' L' X' → QN Q' .normal A K' B I' nx' L' X') → (∀ e a w, e ≠ .normal → Q e a w → Q' e a w) → OK P c Q' A K B I nx L X) :
    OK P c Q A K B I nx L X :=
  k1 Q (fun _ _ _ _ _ h => k2 _ _ _ _ _ h) (fun _ _ _ _ h => h)
theorem QN.outR {Q' : Exit → Act → World → Prop} (hQ : ∀ e a w, e ≠ .normal → Q e a w → Q' e a w) (k : QN Q .ret A K B I nx L X) : QN Q' .ret A K B I nx L X := fun a w ha hs => hQ _ _ _ (by intro h; cases h) (k a w ha hs)
theorem QN.outE {Q' : Exit → Act → World → Prop} {id : Nat} (hQ : ∀ e a w, e ≠ .normal → Q e a w → Q' e a w) (k : QN Q (.exit id) A K B I nx L X) : QN Q' (.exit id) A K B I nx L X := fun a w ha hs => hQ _ _ _ (by intro h; cases h) (k a w ha hs)
theorem QN.then_ {Q' : Exit → Act → World → Prop} (k : OK P c Q A K B I nx L X) : QN (Exit.then (c.wp P Q) Q') .normal A K B I nx L X := k
theorem QN.thenE {N : Act → World → Prop} {id : Nat} (k : QN Q (.exit id) A K B I nx L X) : QN (Exit.then N Q) (.exit id) A K B I nx L X := k
theorem QN.thenR {N : Act → World → Prop} (k : QN Q .ret A K B I nx L X) : QN (Exit.then N Q) .ret A K B I nx L X := k
theorem QN.blkN {id : Nat} (k : QN Q .normal A K B I nx L X) : QN (Exit.inBlock id Q) .normal A K B I nx L X := k
theorem QN.blkR {id : Nat} (k : QN Q .ret A K B I nx L X) : QN (Exit.inBlock id Q) .ret A K B I nx L X := k
theorem QN.blkE {id : Nat} (k : QN Q .normal A K B I nx L X) : QN (Exit.inBlock id Q) (.exit id) A K B I nx L X := by
  intro a w ha hs
  show (if id = id then Q .normal _ w else Q (.exit id) _ w)
  rw [if_pos rfl]
  exact k a w ha hs
theorem QN.blkX {id id' : Nat} (hne : id' ≠ id) (k : QN Q (.exit id') A K B I nx L X) : QN (Exit.inBlock id Q) (.exit id') A K B I nx L X := by
  intro a w ha hs
  show (if id' = id then Q .normal _ w else Q (.exit id') _ w)
  rw [if_neg hne]
  exact k a w ha hs
/-- Less is known. -/
theorem OK.sub {K' : List (Nat × Value)} {L' : List Blk} {X' : List Res} (hv : K'.map (fun p => lookK K p.1) = K'.map (fun p => some p.2)) (hL : L'.Sublist L) (hX : X'.Sublist X)
    (k : OK P c Q A K' B I nx L' X') : OK P c Q A K B I nx L X := by
  intro a w ha hs
  refine k a w (ha.sub fun p hp => ?_) (hs.less hL hX)
  obtain ⟨i, hi, rfl⟩ := List.getElem_of_mem hp
  have h1 := congrArg (·[i]?) hv
  simp only [List.getElem?_map, List.getElem?_eq_getElem hi, Option.map_some, Option.some.injEq] at h1
  exact h1
theorem QN.sub {e : Exit} {K' : List (Nat × Value)} {L' : List Blk} {X' : List Res} (hv : K'.map (fun p => lookK K p.1) = K'.map (fun p => some p.2)) (hL : L'.Sublist L) (hX : X'.Sublist X)
    (k : QN Q e A K' B I nx L' X') : QN Q e A K B I nx L X := by
  intro a w ha hs
  refine k a w (ha.sub fun p hp => ?_) (hs.less hL hX)
  obtain ⟨i, hi, rfl⟩ := List.getElem_of_mem hp
  have h1 := congrArg (·[i]?) hv
  simp only [List.getElem?_map, List.getElem?_eq_getElem hi, Option.map_some, Option.some.injEq] at h1
  exact h1

variable {os : List Oper} {p : Nat} {fn : Func}
theorem RL.nil (h : os.drop p = []) (k : QN Q .normal A K B I nx L X) : RL P os Q p A K B I nx L X := by
  intro a w ha hs
  rw [h]
  exact k a w ha hs
theorem RL.sim (R : List (Addr × Value)) (hR : RFacts B I X R) (n : Nat) (locs : List Loc) {K' : List (Nat × Value)} {nx' : Nat} {L' : List Blk}
    (h : (simOps P R os A ((os.drop p).take n) locs K nx L []).map (fun x => (x.1, x.2.1, x.2.2.1)) = some (K', nx', L'))
    (he : (simOps P R os A ((os.drop p).take n) locs K nx L []).map (fun x => x.2.2.2.map (·.1)) = (simOps P R os A ((os.drop p).take n) locs K nx L []).map (fun x => x.2.2.2.map (·.2)))
    (k : RL P os Q (p + n) A K' B I nx' L' X) : RL P os Q p A K B I nx L X := by
  intro a w ha hs
  cases hsim : simOps P R os A ((os.drop p).take n) locs K nx L [] with
  | none => rw [hsim] at h; cases h
  | some x =>
    obtain ⟨K1, nx1, L1, es1⟩ := x
    rw [hsim] at h he
    simp only [Option.map_some, Option.some.injEq, Prod.mk.injEq] at h he
    obtain ⟨rfl, rfl, rfl⟩ := h
    have := simOps_sound hR (Q := Q) (rest := os.drop (p + n)) _ _ _ _ _ _ _ _ _ _ a w hsim (eqs_of_map he) ha hs (fun a' w' ha' hs' => k a' w' ha' hs')
    rwa [← List.drop_drop, List.take_append_drop] at this

/-- The same, told in other words; less. -/
theorem RL.norm {K' : List (Nat × Value)} {nx' : Nat} {L' : List Blk} {X' : List Res} (hK : K = K') (hn : nx = nx') (hL : L = L') (hX : X = X') (k : RL P os Q p A K' B I nx' L' X') : RL P os Q p A K B I nx L X := by
  subst hK; subst hn; subst hL; subst hX
  exact k
theorem RL.sub {K' : List (Nat × Value)} {L' : List Blk} {X' : List Res} (hv : K'.map (fun p => lookK K p.1) = K'.map (fun p => some p.2)) (hL : L'.Sublist L) (hX : X'.Sublist X)
    (k : RL P os Q p A K' B I nx L' X') : RL P os Q p A K B I nx L X := by
  intro a w ha hs
  refine k a w (ha.sub fun p hp => ?_) (hs.less hL hX)
  obtain ⟨i, hi, rfl⟩ := List.getElem_of_mem hp
  have h1 := congrArg (·[i]?) hv
  simp only [List.getElem?_map, List.getElem?_eq_getElem hi, Option.map_some, Option.some.injEq] at h1
  exact h1
/-- A Bool, both ways. -/
theorem RL.cases (b : Bool) (k1 : b = true → RL P os Q p A K B I nx L X) (k2 : b = false → RL P os Q p A K B I nx L X) : RL P os Q p A K B I nx L X := by
  cases b with
  | true => exact k1 rfl
  | false => exact k2 rfl
theorem drop_get {os : List Oper} {p : Nat} (h : (os[p]?).isSome = true) : os.drop p = os.getD p default :: os.drop (p + 1) := by
  obtain ⟨o, ho⟩ := Option.isSome_iff_exists.1 h
  obtain ⟨hp, rfl⟩ := List.getElem?_eq_some_iff.1 ho
  rw [List.drop_eq_getElem_cons hp]
  simp [List.getD_eq_getElem?_getD, List.getElem?_eq_getElem hp]

/-- May operation p be carried out, and are its operands known? -/
def ready (os : List Oper) (p : Nat) (K : List (Nat × Value)) (d : Option Tmp) : Bool :=
  match os[p]? with
  | none => false
  | some o => (wantedK os K o == some true) && (noSelect o.op && o.op.operands.toList.all (knownO K)) && (o.dst == d)

/-- One operation whose run is told beside; the world behind it as it comes out. -/
theorem RL.one (d : Option Tmp) (N : Value → World → Prop) (hl : ready os p K d = true)
    (h : ∀ w, Sat B I nx L X w → ∃ v w', (execOp (evalK K) (os.getD p default)).run P w = .ok (.value v) w' ∧ N v w')
    (k : ∀ v w', N v w' → ∀ a', Knows A (putK A K d v) a' → wpList P os.toArray Q (os.drop (p + 1)) a' w') : RL P os Q p A K B I nx L X := by
  intro a w ha hs
  unfold ready at hl
  split at hl
  · cases hl
  · rename_i o ho
    simp only [Bool.and_eq_true, beq_iff_eq, List.all_eq_true] at hl
    obtain ⟨⟨hw, hk1, hk2⟩, hd⟩ := hl
    have hg : os.getD p default = o := by rw [List.getD_eq_getElem?_getD, ho]; rfl
    rw [drop_get (by rw [ho]; rfl), hg]
    simp only [wpList]
    rw [if_pos (wantedK_spec ha hw)]
    refine .inl ?_
    unfold Oper.wp
    rw [ha.exec hk1 (fun x hx => hk2 x (by simpa using hx))]
    obtain ⟨v, w', hr, hN⟩ := h w hs
    rw [hg] at hr
    rw [hr, Oper.upon_value, hd]
    exact k v w' hN _ (ha.put d v)

/-- One operation that leaves the world as it is. -/
theorem RL.quiet {K' : List (Nat × Value)} (d : Option Tmp) (v : Value) (hl : ready os p K d = true) (hF : putK A K d v = K')
    (h : ∀ w, Sat B I nx L X w → (execOp (evalK K) (os.getD p default)).run P w = .ok (.value v) w)
    (k : RL P os Q (p + 1) A K' B I nx L X) : RL P os Q p A K B I nx L X :=
  RL.one d (fun u w' => u = v ∧ Sat B I nx L X w') hl (fun w hs => ⟨v, w, h w hs, rfl, hs⟩) (fun u w' hN a' ha' => by
    obtain ⟨rfl, hs⟩ := hN
    rw [hF] at ha'
    exact k a' w' ha' hs)

/-- A call: what the callee is, and with what. -/
theorem RL.resume {K' : List (Nat × Value)} {d : Option Tmp} {v : Value} {I' : Imm} {nx' : Nat} {L' : List Blk} {X' : List Res} {w' : World} (hK : putK A K d v = K') (hs : Sat B I' nx' L' X' w') (k : RL P os Q p A K' B I' nx' L' X') : ∀ a', Knows A (putK A K d v) a' → wpList P os.toArray Q (os.drop p) a' w' := by
  intro a' ha'
  rw [hK] at ha'
  exact k a' w' ha' hs
theorem RL.call (f : FuncId) (xs : List Value) (d : Option Tmp) (N : Value → World → Prop) (hl : ready os p K d = true)
    (h : (simQ P [] [] (execOp (evalK K) (os.getD p default)) .no []).map (·.1) = some (.enter f xs.toArray))
    (hc : ∀ w, Sat B I nx L X w → Calls P f xs.toArray w fun e w' => ∃ v, e = .returned v ∧ N v w')
    (k : ∀ v w', N v w' → ∀ a', Knows A (putK A K d v) a' → wpList P os.toArray Q (os.drop (p + 1)) a' w') : RL P os Q p A K B I nx L X := by
  intro a w ha hs
  unfold ready at hl
  split at hl
  · cases hl
  · rename_i o ho
    simp only [Bool.and_eq_true, beq_iff_eq, List.all_eq_true] at hl
    obtain ⟨⟨hw, hk1, hk2⟩, hd⟩ := hl
    have hg : os.getD p default = o := by rw [List.getD_eq_getElem?_getD, ho]; rfl
    rw [drop_get (by rw [ho]; rfl), hg]
    simp only [wpList]
    rw [if_pos (wantedK_spec ha hw)]
    refine .inl ?_
    unfold Oper.wp
    rw [ha.exec hk1 (fun x hx => hk2 x (by simpa using hx))]
    rw [hg] at h
    have hr : (execOp (evalK K) o).run P w = .ok (.enter f xs.toArray) w := by
      cases hsim : simQ P [] [] (execOp (evalK K) o) .no [] with
      | none => rw [hsim] at h; cases h
      | some x =>
        obtain ⟨x1, es1⟩ := x
        rw [hsim] at h
        simp only [Option.map_some, Option.some.injEq] at h
        subst h
        exact simQ_any _ _ _ _ hsim w
    rw [hr, Oper.upon_enter]
    refine (hc w hs).mono ?_
    rintro e w'' ⟨v, rfl, hN⟩
    show wpList P os.toArray Q (os.drop (p + 1)) (a.put o.dst v) w''
    rw [hd]
    exact k v w'' hN _ (ha.put d v)

/-- The same, with what the callee's contract says of the world before and the world behind. -/
theorem RL.callP (f : FuncId) (xs : List Value) (d : Option Tmp) (Post : World → Value → World → Prop) (hl : ready os p K d = true)
    (h : (simQ P [] [] (execOp (evalK K) (os.getD p default)) .no []).map (·.1) = some (.enter f xs.toArray))
    (hc : ∀ w, Sat B I nx L X w → Calls P f xs.toArray w fun e w' => ∃ v, e = .returned v ∧ Post w v w')
    (k : ∀ w v w', Sat B I nx L X w → Post w v w' → ∀ a', Knows A (putK A K d v) a' → wpList P os.toArray Q (os.drop (p + 1)) a' w') : RL P os Q p A K B I nx L X :=
  RL.call f xs d (fun v w' => ∃ w, Sat B I nx L X w ∧ Post w v w') hl h (fun w hs => (hc w hs).mono fun e w' ⟨v, hv, hp⟩ => ⟨v, hv, w, hs, hp⟩) (fun v w' ⟨w, hs, hp⟩ => k w v w' hs hp)

/-! ### a call's end -/
/-- What a function hands back, by its slots. -/
def resultsK (fn : Func) (K : List (Nat × Value)) : Sem Value := do
  let vs ← fn.results.mapM fun
    | .tmp t => pure (evalK K (.tmp t))
    | .cell a t => do loadVar t (← asAddr (evalK K (.tmp a)))
  pure (if h : vs.size = 1 then vs[0] else .tuple vs)
def resKnown (K : List (Nat × Value)) (l : List ResultVar) : Bool :=
  l.all fun
    | .tmp t => (lookK K t).isSome
    | .cell a _ => (lookK K a).isSome
theorem mapM_congr_list {α β : Type} {f g : α → Sem β} : ∀ (l : List α), (∀ x ∈ l, f x = g x) → l.mapM f = l.mapM g
  | [], _ => rfl
  | x :: l, h => by
    rw [List.mapM_cons, List.mapM_cons, h x List.mem_cons_self, mapM_congr_list l (fun y hy => h y (List.mem_cons_of_mem _ hy))]
theorem results_eq (hk : resKnown K fn.results.toList = true) {a : Act} (ha : Knows A K a) : results fn a.tmps = resultsK fn K := by
  unfold results resultsK
  rw [Array.mapM_eq_mapM_toList, Array.mapM_eq_mapM_toList]
  rw [mapM_congr_list fn.results.toList (fun x hx => ?_)]
  unfold resKnown at hk
  have := (List.all_eq_true.1 hk) x hx
  cases x with
  | tmp t =>
    have he : a.tmps.getD t undef = evalK K (.tmp t) := ha.eval (o := .tmp t) this
    simp only [he]
  | cell p t =>
    have he : a.tmps.getD p undef = evalK K (.tmp p) := ha.eval (o := .tmp p) this
    simp only [he]

theorem QN.body {Rr : Ending → World → Prop} (hD : A.D = []) (R : List (Addr × Value)) (hR : RFacts B I X R) (loc : Loc) (v : Value) (hk : resKnown K fn.results.toList = true)
    (h : (simQ P R L (resultsK fn K) loc []).map (·.1) = some v)
    (he : (simQ P R L (resultsK fn K) loc []).map (fun x => x.2.map (·.1)) = (simQ P R L (resultsK fn K) loc []).map (fun x => x.2.map (·.2)))
    (k : ∀ w, Sat B I nx L X w → Rr (.returned v) w) (e : Exit) (hE : e = .normal ∨ e = .ret) :
    QN (bodyPost P fn Rr) e A K B I nx L X := by
  intro a w ha hs
  have hr := simQ_run hR loc v h he hs
  rcases hE with rfl | rfl <;> exact ⟨ha.defers.trans hD, v, by rw [results_eq hk ha]; exact hr, k w hs⟩
end

/-- A function's body, from its start. -/
theorem calls_body {P : Program} {f : FuncId} {fn : Func} {args : List Value} {w : World} {R : Ending → World → Prop} (hf : P.funcs[f]? = some fn) (hb : fn.body = some (cBody fn)) (n : Nat) (hn : fn.ntmps = n) (hle : Nat.ble args.length n = true) (B : Base) (I : Imm) (X : List Res)
    (K : List (Nat × Value)) (hK : K.map (fun p => args[p.1]?) = K.map (fun p => some p.2)) (hs : Sat B I w.heap.size [] X w)
    (h : OK P (cBody fn) (bodyPost P fn R) ⟨n, []⟩ K B I w.heap.size [] X) : Calls P f args.toArray w R := by
  refine calls_of_wp hf hb (h _ w ⟨?_, rfl, fun p hp => ?_⟩ hs)
  · have := Nat.le_of_ble_eq_true hle
    simp only [Array.size_append, List.size_toArray, Array.size_replicate]
    omega
  · obtain ⟨i, hi, rfl⟩ := List.getElem_of_mem hp
    have h1 := congrArg (·[i]?) hK
    simp only [List.getElem?_map, List.getElem?_eq_getElem hi, Option.map_some, Option.some.injEq] at h1
    have hlt := (List.getElem?_eq_some_iff.1 h1).1
    simp only
    rw [Array.getElem?_append_left (by simpa using hlt), List.getElem?_toArray]
    exact h1

theorem Sat.start (w : World) (S : Nat → Prop) (I : Imm) (hI : I.at_ w) : Sat ⟨w, S, I⟩ I w.heap.size [] [] w :=
  ⟨Evo.refl _ _, rfl, (fun b hb => by cases hb), (fun b hb => by cases hb), List.Pairwise.nil, (fun r hr => by cases hr), (fun r hr => by cases hr), List.Pairwise.nil, (fun r hr => by cases hr), hI, (fun a v _ b hb => by cases hb), (fun a v _ r hr => by cases hr), Imm.le_refl _, fun _ _ h => .inl h⟩

theorem Sat.lt {B : Base} {I : Imm} {nx : Nat} {L : List Blk} {X : List Res} {w : World} (h : Sat B I nx L X w) {b : Blk} (hb : b ∈ L) : b.g < nx := by
  have := h.blk b hb
  rw [← h.hnx]
  exact (Array.getElem?_eq_some_iff.1 this).1

/-- What a call that only makes memory leaves. -/
structure Got (w w' : World) (I J : Imm) (Y : List Res) : Prop where
  evo : Evo (fun _ => False) w w'
  le : I.le J
  im : J.at_ w'
  inew : ∀ a v, J a = some v → I a = some v ∨ w.heap.size ≤ a.block
  res : ∀ r ∈ Y, r.P J w'
  rown : ∀ r ∈ Y, ∀ k, r.fp k → w.heap.size ≤ k ∧ k < w'.heap.size
  rdis : Y.Pairwise (fun a b => ∀ k, a.fp k → ¬ b.fp k)
  imX : ∀ a v, J a = some v → ∀ r ∈ Y, ¬ r.fp a.block

theorem Got.drew (w : World) (I : Imm) (h : I.at_ w) : Got w w I I [] :=
  ⟨Evo.refl _ _, Imm.le_refl _, h, fun _ _ h => .inl h, (fun r hr => by cases hr), (fun r hr => by cases hr), List.Pairwise.nil, (fun a v _ r hr => by cases hr)⟩

/-- Out of the callee: what it knows at its end. -/
theorem Sat.got {w w' : World} {I J : Imm} {nx : Nat} {L : List Blk} {X : List Res} (h : Sat ⟨w, fun _ => False, I⟩ J nx L X w') (Y : List Res) (hY : Y.Sublist X) : Got w w' I J Y :=
  ⟨h.evo, h.le, h.im, h.inew, fun r hr => h.res r (hY.subset hr), fun r hr k hk => by
    have := h.rown r (hY.subset hr) k hk
    refine ⟨?_, by rw [h.hnx]; exact this.1⟩
    rcases this.2 with h1 | h1
    · exact h1
    · exact h1.elim, h.rdis.sublist hY, fun a v ha r hr => h.imX a v ha r (hY.subset hr)⟩

/-- Into the caller. -/
theorem Sat.call {B : Base} {I J : Imm} {nx : Nat} {L : List Blk} {X Y : List Res} {w w' : World} (h : Sat B I nx L X w) (g : Got w w' I J Y) : Sat B J w'.heap.size L (X ++ Y) w' := by
  have hk : ∀ k, k < nx → w'.heap[k]? = w.heap[k]? := fun k hk => g.evo.blk k (by rw [h.hnx]; exact hk) (fun f => f)
  have hnx := h.hnx
  refine ⟨h.evo.trans (g.evo.mono (fun _ _ f => f.elim)), rfl, fun b hb => by rw [hk _ (h.lt hb)]; exact h.blk b hb, h.own, h.ne, ?_, ?_, ?_, ?_, g.im, ?_, ?_, Imm.le_trans h.le g.le, ?_⟩
  · intro r hr
    rcases List.mem_append.1 hr with hr | hr
    · exact r.ext I J w' g.le (r.stable I w w' (fun k hf => hk k (h.rown r hr k hf).1) (h.res r hr))
    · exact g.res r hr
  · intro r hr k hf
    rcases List.mem_append.1 hr with hr | hr
    · have := h.rown r hr k hf
      exact ⟨Nat.lt_of_lt_of_le this.1 (by rw [← hnx]; exact g.evo.size), this.2⟩
    · have := g.rown r hr k hf
      exact ⟨this.2, .inl (Nat.le_trans h.evo.size this.1)⟩
  · rw [List.pairwise_append]
    refine ⟨h.rdis, g.rdis, fun a ha b hb k hk1 hk2 => ?_⟩
    have h1 := (h.rown a ha k hk1).1
    have h2 := (g.rown b hb k hk2).1
    omega
  · intro r hr b hb hf
    rcases List.mem_append.1 hr with hr | hr
    · exact h.rblk r hr b hb hf
    · have h1 := (g.rown r hr _ hf).1
      have h2 := h.lt hb
      omega
  · intro a v ha b hb
    rcases g.inew a v ha with h1 | h1
    · exact h.imL a v h1 b hb
    · have := h.lt hb
      omega
  · intro a v ha r hr hf
    rcases List.mem_append.1 hr with hr | hr
    · rcases g.inew a v ha with h1 | h1
      · exact h.imX a v h1 r hr hf
      · have := (h.rown r hr _ hf).1
        omega
    · exact g.imX a v ha r hr hf
  · intro a v ha
    rcases g.inew a v ha with h1 | h1
    · exact h.inew a v h1
    · exact .inr (Nat.le_trans h.evo.size h1)

end Go.Proofs.Ytieakigoinebdaa.RW
