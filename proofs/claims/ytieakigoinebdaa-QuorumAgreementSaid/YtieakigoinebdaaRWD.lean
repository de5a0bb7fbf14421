/- A walk's own words, fifth part: a region that draws its order. What acts comes in one order; what only reads may come anywhere. -/
import Derived.Test.YtieakigoinebdaaRWO
namespace Go.Proofs.Ytieakigoinebdaa.RW
open Go Go.RowKit

/-- What only reads, at a world where the known blocks and cells hold. -/
theorem simQ_at {α : Type} {P : Program} {L : List Blk} {R : List (Addr × Value)} {w : World} (hL : ∀ b ∈ L, w.heap[b.g]? = some (.cells b.cs.toArray b.ty (0, 0))) (hR : ∀ r ∈ R, w.cell? r.1 = some r.2) (s : Sem α) :
    ∀ (loc : Loc) (es : List (Nat × Nat)) (x : α) (es' : List (Nat × Nat)), simQ P R L s loc es = some (x, es') → eqs es' → s.run P w = .ok x w := by
  induction s with
  | pure a => intro loc es x es' h _; simp only [simQ, Option.some.injEq, Prod.mk.injEq] at h; obtain ⟨rfl, rfl⟩ := h; rfl
  | load m a k ih =>
    intro loc es x es' h he
    cases loc with
    | no => simp [simQ] at h
    | l i =>
      simp only [simQ] at h
      split at h
      · cases h
      · rename_i b hb
        split at h
        · cases h
        · rename_i hsp
          split at h
          · cases h
          · rename_i v hv
            have hblk : a.block = b.g := he (a.block, b.g) (simQ_mono _ _ _ _ _ h _ List.mem_cons_self)
            have hc : w.cell? a = some v := by
              unfold World.cell?
              rw [hblk, hL b (List.mem_of_getElem? hb)]
              simp [hsp, hv]
            simp only [Sem.run, hc]
            exact ih _ _ _ _ _ h he
    | r j =>
      simp only [simQ] at h
      split at h
      · cases h
      · rename_i q v hq
        split at h
        · rename_i hsa hsq
          have h1 : a.block = q.block := he (a.block, q.block) (simQ_mono _ _ _ _ _ h _ List.mem_cons_self)
          have h2 : a.off = q.off := he (a.off, q.off) (simQ_mono _ _ _ _ _ h _ (List.mem_cons_of_mem _ List.mem_cons_self))
          have haq : a = q := by
            cases a; cases q
            simp only at h1 h2 hsa hsq
            rw [h1, h2, hsa, hsq]
          have hc := hR (q, v) (List.mem_of_getElem? hq)
          simp only at hc
          simp only [Sem.run, haq, hc]
          exact ih _ _ _ _ _ h he
        · cases h
  | program k ih => intro loc es x es' h he; simp only [simQ] at h; exact ih _ _ _ _ _ h he
  | mark m k ih => intro loc es x es' h he; simp only [simQ] at h; exact ih _ _ _ _ h he
  | _ => intro loc es x es' h he; simp [simQ] at h

/-- One operation: it hands back a value, or it calls. -/
def Does (P : Program) (s : Sem Next) (w : World) (N : Value → World → Prop) : Prop :=
  (∃ v w', s.run P w = .ok (.value v) w' ∧ N v w') ∨ (∃ f xs, s.run P w = .ok (.enter f xs) w ∧ Calls P f xs w fun e w' => ∃ v, e = .returned v ∧ N v w')

/-- What isn't known of a value ahead of the call that makes it: addresses, capacities, cells. -/
abbrev Wt := Nat → Option Addr × Nat × List Value
def upd (u : Nat → Wt) (i : Nat) (v : Wt) : Nat → Wt := fun j => bif Nat.beq j i then v else u j
theorem beq_self (i : Nat) : Nat.beq i i = true := Nat.beq_refl i
theorem beq_ne {i j : Nat} (h : j ≠ i) : Nat.beq j i = false := by
  cases e : Nat.beq j i with
  | false => rfl
  | true => exact absurd (Nat.eq_of_beq_eq_true e) h
theorem upd_self (u : Nat → Wt) (i : Nat) (v : Wt) : upd u i v i = v := by unfold upd; rw [beq_self]; rfl
theorem upd_ne (u : Nat → Wt) {i j : Nat} (v : Wt) (h : j ≠ i) : upd u i v j = u j := by unfold upd; rw [beq_ne h]; rfl
def dset (D : Nat → Bool) (i : Nat) : Nat → Bool := fun j => bif Nat.beq j i then true else D j
theorem dset_self (D : Nat → Bool) (i : Nat) : dset D i i = true := by unfold dset; rw [beq_self]; rfl
theorem dset_ne (D : Nat → Bool) {i j : Nat} (h : j ≠ i) : dset D i j = D j := by unfold dset; rw [beq_ne h]; rfl
def lk {α : Type} : List (Nat × α) → Nat → Option α
  | [], _ => none
  | (j, a) :: r, i => bif Nat.beq j i then some a else lk r i
theorem lk_mem {α : Type} {i : Nat} {a : α} : ∀ {l : List (Nat × α)}, lk l i = some a → (i, a) ∈ l
  | [], h => by cases h
  | (j, b) :: r, h => by
    simp only [lk] at h
    cases e : Nat.beq j i with
    | true =>
      rw [e] at h
      injection h with h
      have := Nat.eq_of_beq_eq_true e
      subst this; subst h
      exact List.mem_cons_self
    | false =>
      rw [e] at h
      exact List.mem_cons_of_mem _ (lk_mem h)

/-- The operations in the text's order: the values, the frame; those of vl by u, those of gl as given. -/
def qSim (P : Program) (R : List (Addr × Value)) (L : List Blk) (os : List Oper) (A : Fr) (vl : List (Nat × (Wt → Value))) (gl : List (Nat × ((Nat → Wt) → Value))) (u : Nat → Wt) : List Loc → Nat → List Oper → List (Nat × Value) → Option (List Value × List (Nat × Value) × List (Nat × Nat))
  | _, _, [], K => some ([], K, [])
  | locs, i, o :: rest, K =>
    match wantedK os K o with
    | none => none
    | some false =>
      match lk vl i with
      | some _ => none
      | none =>
        match qSim P R L os A vl gl u (locs.drop 1) (i + 1) rest (putK A K o.dst undef) with
        | none => none
        | some (vs, K', es) => some (undef :: vs, K', es)
    | some true =>
      match noSelect o.op && o.op.operands.toList.all (knownO K) with
      | false => none
      | true =>
        match lk vl i with
        | some f =>
          match qSim P R L os A vl gl u (locs.drop 1) (i + 1) rest (putK A K o.dst (f (u i))) with
          | none => none
          | some (vs, K', es) => some (f (u i) :: vs, K', es)
        | none =>
          match lk gl i with
          | some f =>
            match qSim P R L os A vl gl u (locs.drop 1) (i + 1) rest (putK A K o.dst (f u)) with
            | none => none
            | some (vs, K', es) => some (f u :: vs, K', es)
          | none =>
            match simQ P R L (execOp (evalK K) o) (locs.headD .no) [] with
            | some (.value v, es1) =>
              match qSim P R L os A vl gl u (locs.drop 1) (i + 1) rest (putK A K o.dst v) with
              | none => none
              | some (vs, K', es) => some (v :: vs, K', es1 ++ es)
            | _ => none

/-- What each operation comes behind, as bits. -/
def ancStep (acc : List Nat) (o : Oper) : Nat := o.after.toList.foldr (fun e m => bif Region.binds .any e then (acc.getD e.on 0 ||| (1 <<< e.on)) ||| m else m) 0
def ancs : List Oper → List Nat → List Nat
  | [], acc => acc
  | o :: r, acc => ancs r (acc ++ [ancStep acc o])
/-- Does operation i come behind operation j, whatever the order? -/
def behind (an : List Nat) (i j : Nat) : Bool := (an.getD i 0).testBit j

def dstOf (os : List Oper) (i : Nat) : Option Tmp := (os[i]?).bind (·.dst)
def guardTmp (os : List Oper) (o : Oper) : List Tmp := match o.guard with | none => [] | some (j, _) => (dstOf os j).toList
def readTmps (os : List Oper) (o : Oper) : List Tmp := o.op.operands.toList.filterMap (fun | .tmp t => some t | _ => none) ++ guardTmp os o

/-- Each slot that operation i reads is written ahead of it, or behind it, in every order. -/
def readsOk (os : List Oper) (an : List Nat) (t i : Nat) (o : Oper) : Bool :=
  (readTmps os o).all fun x => (List.range t).all fun j => dstOf os j != some x || (if j < i then behind an i j else behind an j i)
/-- Two writers of one slot: none. -/
def dstsOk (os : List Oper) (t : Nat) : Bool := (List.range t).all fun i => (List.range t).all fun j => i == j || dstOf os i == none || dstOf os i != dstOf os j
def tailOk (os : List Oper) (an : List Nat) (t : Nat) : Bool :=
  (List.range os.length).all fun q => q < t ||
    match os[q]? with
    | none => false
    | some o => o.after.toList.all (fun e => !Region.binds .any e || decide (e.on < q)) &&
        (if q = t then (List.range t).all fun i => behind an q i else o.after.toList.any fun e => Region.binds .any e && e.on == q - 1)
def drawOk (os : List Oper) (an : List Nat) (t : Nat) : Bool :=
  decide (t ≤ os.length) && (List.range t).all (fun i => match os[i]? with | none => false | some o => readsOk os an t i o && noSelect o.op && o.after.toList.all fun e => !Region.binds .any e || decide (e.on < i)) &&
  dstsOk os t && tailOk os an t

/-! ### the frame, operation by operation -/
def foldPut (A : Fr) : List (Nat × Value) → List Oper → List Value → List (Nat × Value)
  | K, o :: l, v :: vs => foldPut A (putK A K o.dst v) l vs
  | K, _, _ => K

theorem putK_mem {A : Fr} {K : List (Nat × Value)} {d : Option Tmp} {v : Value} {p : Nat × Value} (h : p ∈ putK A K d v) : (d = some p.1 ∧ p.2 = v ∧ p.1 < A.n) ∨ (p ∈ K ∧ d ≠ some p.1) := by
  cases d with
  | none => exact .inr ⟨h, by simp⟩
  | some d =>
    simp only [putK] at h
    split at h
    · rename_i hd
      rcases List.mem_cons.1 h with rfl | h
      · exact .inl ⟨rfl, rfl, hd⟩
      · obtain ⟨h1, h2⟩ := dropK_mem h
        exact .inr ⟨h1, fun e => h2 (by injection e with e; exact e.symm)⟩
    · obtain ⟨h1, h2⟩ := dropK_mem h
      exact .inr ⟨h1, fun e => h2 (by injection e with e; exact e.symm)⟩

theorem foldPut_mem {A : Fr} : ∀ (l : List Oper) (vs : List Value) (K : List (Nat × Value)) (p : Nat × Value), vs.length = l.length → p ∈ foldPut A K l vs →
    (∃ (j : Nat) (o : Oper), l[j]? = some o ∧ o.dst = some p.1 ∧ vs[j]? = some p.2 ∧ p.1 < A.n ∧ ∀ (j' : Nat) (o' : Oper), j < j' → l[j']? = some o' → o'.dst ≠ some p.1) ∨ (p ∈ K ∧ ∀ (j : Nat) (o : Oper), l[j]? = some o → o.dst ≠ some p.1)
  | [], vs, K, p, _, h => .inr ⟨by cases vs <;> exact h, fun j o e => by cases e⟩
  | o :: l, [], K, p, hl, h => by cases hl
  | o :: l, v :: vs, K, p, hl, h => by
    rcases foldPut_mem l vs _ p (by simpa using hl) h with ⟨j, o', h1, h2, h3, h4, h5⟩ | ⟨h1, h2⟩
    · refine .inl ⟨j + 1, o', h1, h2, h3, h4, fun j' o'' hj hl' => ?_⟩
      cases j' with
      | zero => omega
      | succ j' => exact h5 j' o'' (by omega) hl'
    · rcases putK_mem h1 with ⟨e1, e2, e3⟩ | ⟨e1, e2⟩
      · refine .inl ⟨0, o, rfl, e1, by rw [e2]; rfl, e3, fun j' o'' hj hl' => ?_⟩
        cases j' with
        | zero => omega
        | succ j' => exact h2 j' o'' hl'
      · refine .inr ⟨e1, fun j o' hj => ?_⟩
        cases j with
        | zero => injection hj with hj; subst hj; exact e2
        | succ j => exact h2 j o' hj

/-- What the walk in the text's order says of each operation. -/
def StepOk (P : Program) (R : List (Addr × Value)) (L : List Blk) (os : List Oper) (vl : List (Nat × (Wt → Value))) (gl : List (Nat × ((Nat → Wt) → Value))) (u : Nat → Wt) (es : List (Nat × Nat)) (i : Nat) (o : Oper) (K : List (Nat × Value)) (v : Value) : Prop :=
  (wantedK os K o = some false ∧ lk vl i = none ∧ v = undef) ∨
  (wantedK os K o = some true ∧ noSelect o.op = true ∧ (∀ x ∈ o.op.operands, knownO K x = true) ∧
    ((∃ f, lk vl i = some f ∧ v = f (u i)) ∨ (lk vl i = none ∧ ∃ f, lk gl i = some f ∧ v = f u) ∨ (lk vl i = none ∧ ∃ loc es1, simQ P R L (execOp (evalK K) o) loc [] = some (.value v, es1) ∧ ∀ p ∈ es1, p ∈ es)))

theorem qSim_spec {P : Program} {R : List (Addr × Value)} {L : List Blk} {os : List Oper} {A : Fr} {vl : List (Nat × (Wt → Value))} {gl : List (Nat × ((Nat → Wt) → Value))} {u : Nat → Wt} : ∀ (l : List Oper) (locs : List Loc) (i : Nat) (K : List (Nat × Value)) (vs : List Value) (K' : List (Nat × Value)) (es : List (Nat × Nat)),
    qSim P R L os A vl gl u locs i l K = some (vs, K', es) → vs.length = l.length ∧ K' = foldPut A K l vs ∧
      ∀ (j : Nat) (o : Oper), l[j]? = some o → ∃ v, vs[j]? = some v ∧ StepOk P R L os vl gl u es (i + j) o (foldPut A K (l.take j) (vs.take j)) v := by
  intro l
  induction l with
  | nil =>
    intro locs i K vs K' es h
    simp only [qSim, Option.some.injEq, Prod.mk.injEq] at h
    obtain ⟨rfl, rfl, rfl⟩ := h
    exact ⟨rfl, rfl, fun j o e => by cases e⟩
  | cons o l ih =>
    intro locs i K vs K' es h
    have fin : ∀ (v : Value) (vs1 : List Value) (es1 es0 : List (Nat × Nat)), qSim P R L os A vl gl u (locs.drop 1) (i + 1) l (putK A K o.dst v) = some (vs1, K', es1) → vs = v :: vs1 → (∀ p ∈ es1, p ∈ es) → StepOk P R L os vl gl u es i o K v →
        vs.length = (o :: l).length ∧ K' = foldPut A K (o :: l) vs ∧ ∀ (j : Nat) (o' : Oper), (o :: l)[j]? = some o' → ∃ v, vs[j]? = some v ∧ StepOk P R L os vl gl u es (i + j) o' (foldPut A K ((o :: l).take j) (vs.take j)) v := by
      intro v vs1 es1 es0 h1 hvs hes hst
      obtain ⟨hl, hK, hj⟩ := ih _ _ _ _ _ _ h1
      subst hvs
      refine ⟨by simp [hl], hK, fun j o' e => ?_⟩
      cases j with
      | zero =>
        injection e with e
        subst e
        exact ⟨v, rfl, hst⟩
      | succ j =>
        obtain ⟨v', hv', hs'⟩ := hj j o' e
        refine ⟨v', hv', ?_⟩
        rw [show i + (j + 1) = i + 1 + j from by omega]
        rcases hs' with hs' | ⟨a1, a2, a3, hs' | hs' | ⟨a4, loc, es2, a5, a6⟩⟩
        · exact .inl hs'
        · exact .inr ⟨a1, a2, a3, .inl hs'⟩
        · exact .inr ⟨a1, a2, a3, .inr (.inl hs')⟩
        · exact .inr ⟨a1, a2, a3, .inr (.inr ⟨a4, loc, es2, a5, fun p hp => hes p (a6 p hp)⟩)⟩
    simp only [qSim] at h
    split at h
    · cases h
    · rename_i hw
      split at h
      · cases h
      · rename_i hc
        split at h
        · cases h
        · rename_i vs1 K1 es1 h1
          simp only [Option.some.injEq, Prod.mk.injEq] at h
          obtain ⟨rfl, rfl, rfl⟩ := h
          exact fin _ vs1 es1 [] h1 rfl (fun p hp => hp) (.inl ⟨hw, hc, rfl⟩)
    · rename_i hw
      split at h
      · cases h
      · rename_i hk
        rw [Bool.and_eq_true, List.all_eq_true] at hk
        have hk2 : ∀ x ∈ o.op.operands, knownO K x = true := fun x hx => hk.2 x (by simpa using hx)
        split at h
        · rename_i f hc
          split at h
          · cases h
          · rename_i vs1 K1 es1 h1
            simp only [Option.some.injEq, Prod.mk.injEq] at h
            obtain ⟨rfl, rfl, rfl⟩ := h
            exact fin _ vs1 es1 [] h1 rfl (fun p hp => hp) (.inr ⟨hw, hk.1, hk2, .inl ⟨f, hc, rfl⟩⟩)
        · rename_i hc
          split at h
          · rename_i f hg
            split at h
            · cases h
            · rename_i vs1 K1 es1 h1
              simp only [Option.some.injEq, Prod.mk.injEq] at h
              obtain ⟨rfl, rfl, rfl⟩ := h
              exact fin _ vs1 es1 [] h1 rfl (fun p hp => hp) (.inr ⟨hw, hk.1, hk2, .inr (.inl ⟨hc, f, hg, rfl⟩)⟩)
          · split at h
            · rename_i v es1 hsim
              split at h
              · cases h
              · rename_i vs1 K1 es2 h1
                simp only [Option.some.injEq, Prod.mk.injEq] at h
                obtain ⟨rfl, rfl, rfl⟩ := h
                exact fin _ vs1 es2 [] h1 rfl (fun p hp => List.mem_append_right _ hp) (.inr ⟨hw, hk.1, hk2, .inr (.inr ⟨hc, _, es1, hsim, fun p hp => List.mem_append_left _ hp⟩)⟩)
            · cases h

/-! ### in every order -/
def cntF (f : Nat → Bool) : Nat → Nat
  | 0 => 0
  | n + 1 => cntF f n + if f n then 1 else 0
theorem cntF_lt {f g : Nat → Bool} {i : Nat} (hi : f i = true) (hg : g i = false) (h : ∀ j, j ≠ i → g j = f j) : ∀ n, i < n → cntF g n < cntF f n := by
  have le : ∀ n, cntF g n ≤ cntF f n := by
    intro n
    induction n with
    | zero => exact Nat.le_refl _
    | succ n ih =>
      simp only [cntF]
      by_cases e : n = i
      · subst e; rw [hi, hg]; simp; omega
      · rw [h n e]; omega
  intro n
  induction n with
  | zero => intro h; omega
  | succ n ih =>
    intro hn
    simp only [cntF]
    by_cases e : n = i
    · subst e; rw [hi, hg]; have := le n; simp; omega
    · rw [h n e]; have := ih (by omega); omega
theorem cntF_zero {f : Nat → Bool} : ∀ n, cntF f n = 0 → ∀ i, i < n → f i = false := by
  intro n
  induction n with
  | zero => intro _ i hi; omega
  | succ n ih =>
    intro h i hi
    simp only [cntF] at h
    by_cases e : i = n
    · subst e
      cases hf : f i with
      | false => rfl
      | true => rw [hf] at h; simp at h
    · exact ih (by omega) i (by omega)

section
variable {P : Program} {os : List Oper} {Q : Exit → Act → World → Prop} {A : Fr} {K : List (Nat × Value)}

/-- The operations at the end, in the text's order. -/
theorem any_tail {t : Nat} {an : List Nat} (hT : tailOk os an t = true) : ∀ (fuel q : Nat) (listed : Array Bool) (a : Act) (w : World), t ≤ q → q ≤ os.length → os.length - q ≤ fuel → listed.size = os.length → (∀ i, i < os.length → (listed.getD i false = true ↔ i < q)) →
    wpList P os.toArray Q (os.drop q) a w → wpAny P .any os.toArray Q fuel listed a w := by
  have hg : ∀ (l : Array Bool), l.size = os.length → ∀ i, i < os.length → l.getD i true = l.getD i false := fun l hl i hi => by
    rw [Array.getD_eq_getD_getElem?, Array.getD_eq_getD_getElem?, Array.getElem?_eq_getElem (by rw [hl]; exact hi)]
    rfl
  intro fuel
  induction fuel with
  | zero =>
    intro q listed a w htq hq hf hsz hl hw
    obtain rfl : q = os.length := by omega
    rw [List.drop_length] at hw
    refine ⟨?_, hw⟩
    rw [List.eq_nil_iff_forall_not_mem]
    intro j hj
    obtain ⟨h1, o, ho, _⟩ := mem_ready.1 hj
    have hjl : j < os.length := by
      have := (Array.getElem?_eq_some_iff.1 ho).1
      simpa using this
    rw [hg listed hsz j hjl, (hl j hjl).2 hjl] at h1
    cases h1
  | succ fuel ih =>
    intro q listed a w htq hq hf hsz hl hw
    rcases Nat.lt_or_ge q os.length with hlt | hge
    · unfold tailOk at hT
      rw [List.all_eq_true] at hT
      have hTq := hT q (List.mem_range.2 hlt)
      have ho : os[q]? = some os[q] := List.getElem?_eq_getElem hlt
      rw [ho] at hTq
      simp only [Bool.or_eq_true, decide_eq_true_eq, Bool.and_eq_true, List.all_eq_true, Bool.not_eq_true'] at hTq
      have hTq' := hTq.resolve_left (by omega)
      have hmem : q ∈ Region.ready .any os.toArray listed := by
        refine mem_ready.2 ⟨?_, os[q], by simp, fun e he hb => ?_⟩
        · rw [hg listed hsz q hlt]
          cases hc : listed.getD q false with
          | false => rfl
          | true => have := (hl q hlt).1 hc; omega
        · rcases hTq'.1 e (by simpa using he) with h1 | h1
          · rw [hb] at h1; cases h1
          · exact (hl e.on (by omega)).2 h1
      refine ⟨(fun e => by rw [e] at hmem; cases hmem), fun i hi => ?_⟩
      have hiq : i = q := by
        obtain ⟨h1, o, hoi, h2⟩ := mem_ready.1 hi
        have hil : i < os.length := by
          have := (Array.getElem?_eq_some_iff.1 hoi).1
          simpa using this
        have hnl : ¬ i < q := fun h => by
          rw [hg listed hsz i hil, (hl i hil).2 h] at h1
          cases h1
        refine Nat.le_antisymm (Nat.le_of_not_lt fun hgt => ?_) (Nat.le_of_not_lt hnl)
        have hTi := hT i (List.mem_range.2 hil)
        have hoi' : os[i]? = some o := by simpa using hoi
        rw [hoi'] at hTi
        simp only [Bool.or_eq_true, decide_eq_true_eq, Bool.and_eq_true] at hTi
        have hTi' := (hTi.resolve_left (by omega)).2
        rw [if_neg (by omega), List.any_eq_true] at hTi'
        obtain ⟨e, he, hb⟩ := hTi'
        rw [Bool.and_eq_true, beq_iff_eq] at hb
        have := h2 e (by simpa using he) hb.1
        rw [hb.2] at this
        have := (hl (i - 1) (by omega)).1 this
        omega
      subst hiq
      rw [List.drop_eq_getElem_cons hlt] at hw
      unfold wpOp
      rw [show os.toArray[i]? = some os[i] from by simp]
      simp only [wpList] at hw
      have hnext : ∀ a w, wpList P os.toArray Q (os.drop (i + 1)) a w → wpAny P .any os.toArray Q fuel (listed.setIfInBounds i true) a w := fun a' w' h' => by
        refine ih (i + 1) _ a' w' (by omega) (by omega) (by omega) (by simp [hsz]) (fun j hj => ?_) h'
        by_cases e : j = i
        · subst e
          simp [Array.getD_eq_getD_getElem?, Array.getElem?_setIfInBounds, hsz, hj]
        · have := hl j hj
          simp only [Array.getD_eq_getD_getElem?, Array.getElem?_setIfInBounds_ne (fun h => e h.symm)] at this ⊢
          rw [this]
          omega
      simp only
      split
      · rename_i hwn
        rw [if_pos hwn] at hw
        exact hw.imp (fun h => Oper.wp_mono hnext h) id
      · rename_i hwn
        rw [if_neg hwn] at hw
        exact hnext _ _ hw
    · obtain rfl : q = os.length := by omega
      rw [List.drop_length] at hw
      have hn : Region.ready .any os.toArray listed = [] := by
        rw [List.eq_nil_iff_forall_not_mem]
        intro j hj
        obtain ⟨h1, o, ho, _⟩ := mem_ready.1 hj
        have hjl : j < os.length := by
          have := (Array.getElem?_eq_some_iff.1 ho).1
          simpa using this
        rw [hg listed hsz j hjl, (hl j hjl).2 hjl] at h1
        cases h1
      exact ⟨(fun _ => hw), (fun i hi => by rw [hn] at hi; cases hi)⟩

/-- Listed operations: what they come behind is listed, too. -/
def Closed (os : List Oper) (lst : Nat → Prop) : Prop := ∀ i o, lst i → os[i]? = some o → ∀ e ∈ o.after, Region.binds .any e = true → lst e.on
/-- Behind, step by step. -/
inductive Anc (os : List Oper) : Nat → Nat → Prop where
  | edge {i : Nat} {o : Oper} (ho : os[i]? = some o) {e : Edge} (he : e ∈ o.after) (hb : Region.binds .any e = true) : Anc os i e.on
  | trans {i j : Nat} {o : Oper} (ho : os[i]? = some o) {e : Edge} (he : e ∈ o.after) (hb : Region.binds .any e = true) (h : Anc os e.on j) : Anc os i j
theorem ancStep_spec {acc : List Nat} {o : Oper} {j : Nat} (h : (ancStep acc o).testBit j = true) : ∃ e ∈ o.after, Region.binds .any e = true ∧ ((acc.getD e.on 0).testBit j = true ∨ e.on = j) := by
  have key : ∀ (l : List Edge), (l.foldr (fun e m => bif Region.binds .any e then (acc.getD e.on 0 ||| (1 <<< e.on)) ||| m else m) 0).testBit j = true → ∃ e ∈ l, Region.binds .any e = true ∧ ((acc.getD e.on 0).testBit j = true ∨ e.on = j) := by
    intro l
    induction l with
    | nil => intro h; simp at h
    | cons e l ih =>
      intro h
      simp only [List.foldr_cons] at h
      cases hb : Region.binds .any e with
      | false =>
        rw [hb] at h
        obtain ⟨e', h1, h2⟩ := ih h
        exact ⟨e', List.mem_cons_of_mem _ h1, h2⟩
      | true =>
        rw [hb] at h
        simp only [cond_true, Nat.testBit_or, Bool.or_eq_true] at h
        rcases h with (h | h) | h
        · exact ⟨e, List.mem_cons_self, hb, .inl h⟩
        · refine ⟨e, List.mem_cons_self, hb, .inr ?_⟩
          rw [Nat.one_shiftLeft, Nat.testBit_two_pow] at h
          simpa using h
        · obtain ⟨e', h1, h2⟩ := ih h
          exact ⟨e', List.mem_cons_of_mem _ h1, h2⟩
  obtain ⟨e, h1, h2⟩ := key _ h
  exact ⟨e, by simpa using h1, h2⟩
theorem ancs_spec {os : List Oper} : ∀ (r : List Oper) (acc : List Nat) (n : Nat), acc.length = n → os.drop n = r → (∀ i j, (acc.getD i 0).testBit j = true → Anc os i j) → ∀ i j, ((ancs r acc).getD i 0).testBit j = true → Anc os i j
  | [], acc, n, _, _, h => h
  | o :: r, acc, n, hn, hr, h => by
    have hnl : n < os.length := by
      have := congrArg List.length hr
      simp at this
      omega
    have ho : os[n]? = some o := by
      rw [List.drop_eq_getElem_cons hnl] at hr
      injection hr with h1 h2
      rw [List.getElem?_eq_getElem hnl, h1]
    refine ancs_spec r (acc ++ [ancStep acc o]) (n + 1) (by simp [hn]) ?_ (fun i j hij => ?_)
    · rw [List.drop_eq_getElem_cons hnl] at hr
      injection hr
    · rcases Nat.lt_trichotomy i n with hi | hi | hi
      · refine h i j ?_
        rw [List.getD_eq_getElem?_getD, List.getElem?_append_left (by omega), ← List.getD_eq_getElem?_getD] at hij
        exact hij
      · subst hi
        rw [List.getD_eq_getElem?_getD, List.getElem?_append_right (by omega), hn, Nat.sub_self] at hij
        obtain ⟨e, he, hb, hj⟩ := ancStep_spec (show (ancStep acc o).testBit j = true from hij)
        rcases hj with hj | rfl
        · exact .trans ho he hb (h _ _ hj)
        · exact .edge ho he hb
      · rw [List.getD_eq_getElem?_getD, List.getElem?_eq_none (by simp [hn]; omega)] at hij
        simp at hij
theorem anc_listed {lst : Nat → Prop} (hc : Closed os lst) {i j : Nat} (h : Anc os i j) : (∀ o, os[i]? = some o → ∀ e ∈ o.after, Region.binds .any e = true → lst e.on) → lst j := by
  induction h with
  | edge ho he hb => intro hi; exact hi _ ho _ he hb
  | trans ho he hb _ ih => intro hi; exact ih (fun o' ho' => hc _ o' (hi _ ho _ he hb) ho')
theorem behind_listed {lst : Nat → Prop} (hc : Closed os lst) {an : List Nat} (han : ancs os [] = an) (i j : Nat) (h : behind an i j = true) (hi : ∀ o, os[i]? = some o → ∀ e ∈ o.after, Region.binds .any e = true → lst e.on) : lst j :=
  anc_listed hc (ancs_spec os [] 0 rfl rfl (fun i j h => by simp at h) i j (by rw [han]; exact h)) hi

/-- What is known of a frame while some operations have been carried out. -/
structure KD (os : List Oper) (A : Fr) (K : List (Nat × Value)) (vs : List Value) (lst : Nat → Prop) (a : Act) : Prop where
  size : a.tmps.size = A.n
  defers : a.defers = A.D
  old : ∀ p ∈ K, (∀ i, lst i → dstOf os i ≠ some p.1) → a.tmps[p.1]? = some p.2
  new : ∀ i, lst i → ∀ d v, dstOf os i = some d → vs[i]? = some v → d < A.n → a.tmps[d]? = some v

theorem KD.look {an : List Nat} {vs : List Value} {lst : Nat → Prop} {a : Act} {t i : Nat} {o : Oper} (h : KD os A K vs lst a) (hc : Closed os lst) (hlt : ∀ j, lst j → j < t) (ho : os[i]? = some o) (hi : i < t) (hni : ¬ lst i) (hr : readsOk os an t i o = true) (han : ancs os [] = an)
    (hed : ∀ e ∈ o.after, Region.binds .any e = true → lst e.on) (hvl : vs.length = t) (htl : t ≤ os.length) :
    ∀ x ∈ readTmps os o, ∀ v, lookK (foldPut A K (os.take i) (vs.take i)) x = some v → a.tmps[x]? = some v := by
  intro x hx v hv
  unfold readsOk at hr
  rw [List.all_eq_true] at hr
  have hrx := hr x hx
  rw [List.all_eq_true] at hrx
  have hedi : ∀ o', os[i]? = some o' → ∀ e ∈ o'.after, Region.binds .any e = true → lst e.on := fun o' ho' => by
    rw [ho] at ho'
    injection ho' with ho'
    subst ho'
    exact hed
  rcases foldPut_mem _ _ _ _ (by rw [List.length_take, List.length_take]; omega) (look_mem hv) with ⟨j, oj, h1, h2, h3, h4, _⟩ | ⟨h1, h2⟩
  · have hji : j < i := by
      have := (List.getElem?_eq_some_iff.1 h1).1
      rw [List.length_take] at this
      omega
    rw [List.getElem?_take_of_lt hji] at h1 h3
    have hd : dstOf os j = some x := by unfold dstOf; rw [h1]; exact h2
    have := hrx j (List.mem_range.2 (by omega))
    rw [hd] at this
    simp only [bne_self_eq_false, Bool.false_or, if_pos hji] at this
    exact h.new j (behind_listed hc han _ _ this hedi) x v hd h3 h4
  · refine h.old _ h1 (fun j hj hd => ?_)
    simp only at hd
    have hjt := hlt j hj
    rcases Nat.lt_trichotomy j i with hji | rfl | hji
    · have hjl : j < os.length := by omega
      have hoj : os[j]? = some os[j] := List.getElem?_eq_getElem hjl
      have := h2 j os[j] (by rw [List.getElem?_take_of_lt hji]; exact hoj)
      unfold dstOf at hd
      rw [hoj] at hd
      exact this hd
    · exact hni hj
    · have := hrx j (List.mem_range.2 hjt)
      rw [hd] at this
      simp only [bne_self_eq_false, Bool.false_or, if_neg (show ¬ j < i by omega)] at this
      exact hni (behind_listed hc han _ _ this (fun o' ho' => hc j o' hj ho'))

theorem wantedK_at {a : Act} {o : Oper} {b : Bool} {K : List (Nat × Value)} (hs : ∀ x ∈ guardTmp os o, ∀ v, lookK K x = some v → a.tmps[x]? = some v) (hw : wantedK os K o = some b) : Region.wanted o (yielded os.toArray a.tmps) = b := by
  unfold wantedK at hw
  unfold Region.wanted
  split at hw
  · rename_i hg
    injection hw with hw
    rw [hg]
    exact hw
  · rename_i j want hg
    rw [hg]
    split at hw
    · cases hw
    · rename_i q hq
      split at hw
      · cases hw
      · rename_i t ht
        split at hw
        · rename_i b' hb
          injection hw with hw
          have hs := hs t (by unfold guardTmp dstOf; rw [hg]; simp [hq, ht]) _ hb
          have hy : yielded os.toArray a.tmps j = some b' := by
            unfold yielded
            simp [hq, ht, hs]
          simp only [hy]
          rw [← hw]
          cases b' <;> cases want <;> rfl
        · rename_i b' hb
          injection hw with hw
          have hs := hs t (by unfold guardTmp dstOf; rw [hg]; simp [hq, ht]) _ hb
          have hy : yielded os.toArray a.tmps j = none := by
            unfold yielded
            simp [hq, ht, hs]
          simp only [hy]
          rw [← hw]
          rfl
        · cases hw

theorem exec_at {a : Act} {o : Oper} {K : List (Nat × Value)} (hs : ∀ x ∈ readTmps os o, ∀ v, lookK K x = some v → a.tmps[x]? = some v) (hn : noSelect o.op = true) (hk : ∀ x ∈ o.op.operands, knownO K x = true) : execOp a.eval o = execOp (evalK K) o := by
  refine execOp_congr o (fun cs b e => by rw [e] at hn; simp [noSelect] at hn) (fun x hx => ?_)
  cases x with
  | tmp t =>
    have := hk _ hx
    simp only [knownO] at this
    obtain ⟨v, hv⟩ := Option.isSome_iff_exists.1 this
    have := hs t (by unfold readTmps; exact List.mem_append_left _ (List.mem_filterMap.2 ⟨.tmp t, by simpa using hx, rfl⟩)) v hv
    simp only [Act.eval, evalK, hv]
    rw [Array.getD_eq_getD_getElem?, this]
    rfl
  | _ => rfl

theorem KD.put {vs : List Value} {lst : Nat → Prop} {a : Act} {t i : Nat} {v : Value} (h : KD os A K vs lst a) (hd : dstsOk os t = true) (hlt : ∀ j, lst j → j < t) (hi : i < t) (hni : ¬ lst i) (hv : vs[i]? = some v) :
    KD os A K vs (fun j => lst j ∨ j = i) (a.put (dstOf os i) v) := by
  unfold dstsOk at hd
  simp only [List.all_eq_true, List.mem_range, Bool.or_eq_true, beq_iff_eq, bne_iff_ne] at hd
  refine ⟨by cases hq : dstOf os i <;> simpa [Act.put, hq] using h.size, by cases hq : dstOf os i <;> simpa [Act.put, hq] using h.defers, fun p hp hn => ?_, fun j hj d u hdj hu hdn => ?_⟩
  · have h1 := h.old p hp (fun j hj => hn j (.inl hj))
    cases hq : dstOf os i with
    | none => exact h1
    | some d =>
      have : d ≠ p.1 := fun e => hn i (.inr rfl) (by rw [hq, e])
      simp only [Act.put]
      rw [Array.getElem?_setIfInBounds_ne this]
      exact h1
  · by_cases e : j = i
    · subst e
      rw [hv] at hu
      injection hu with hu
      subst hu
      rw [hdj]
      simp only [Act.put]
      rw [Array.getElem?_setIfInBounds_self_of_lt (by rw [h.size]; exact hdn)]
    · have hj' := hj.resolve_right e
      have h1 := h.new j hj' d u hdj hu hdn
      cases hq : dstOf os i with
      | none => exact h1
      | some d' =>
        have : d' ≠ d := fun e' => by
          rcases hd i hi j (hlt j hj') with (h2 | h2) | h2
          · exact e h2.symm
          · rw [hq] at h2; cases h2
          · exact h2 (by rw [hq, hdj, e'])
        simp only [Act.put]
        rw [Array.getElem?_setIfInBounds_ne this]
        exact h1

/-- What is listed. -/
def lstOf (listed : Array Bool) : Nat → Prop := fun i => listed.getD i false = true
theorem lstOf_set {listed : Array Bool} {i j : Nat} (hi : i < listed.size) : lstOf (listed.setIfInBounds i true) j ↔ lstOf listed j ∨ j = i := by
  unfold lstOf
  by_cases e : j = i
  · subst e
    simp [Array.getD_eq_getD_getElem?, Array.getElem?_setIfInBounds, hi]
  · simp only [Array.getD_eq_getD_getElem?, Array.getElem?_setIfInBounds_ne (fun h => e h.symm)]
    simp [e]

/-- Which of those that act are listed. -/
def Dl (vl : List (Nat × (Wt → Value))) (listed : Array Bool) : Nat → Bool := fun i => listed.getD i false && (lk vl i).isSome
def Dall (vl : List (Nat × (Wt → Value))) : Nat → Bool := fun i => (lk vl i).isSome

theorem any_body {t : Nat} {an : List Nat} {vl : List (Nat × (Wt → Value))} {gl : List (Nat × ((Nat → Wt) → Value))} {R : List (Addr × Value)} {L : List Blk} {locs : List Loc} (han : ancs os [] = an) (hok : drawOk os an t = true) (hlst : ∀ i, (lk vl i).isSome = true → i < t) (vs : (Nat → Wt) → List Value)
    (hq : ∀ u, ∃ K' es, qSim P R L os A vl gl u locs 0 (os.take t) K = some (vs u, K', es) ∧ eqs es)
    (S : (Nat → Bool) → (Nat → Wt) → World → Prop) (hS : ∀ D u w, S D u w → (∀ b ∈ L, w.heap[b.g]? = some (.cells b.cs.toArray b.ty (0, 0))) ∧ ∀ r ∈ R, w.cell? r.1 = some r.2)
    (hl : ∀ i f, lk vl i = some f → ∀ D u w, D i = false → (∀ j, behind an i j = true → (lk vl j).isSome = true → D j = true) → S D u w → Does P (execOp (evalK (foldPut A K (os.take i) ((vs u).take i))) (os.getD i default)) w (fun v w' => ∃ x, v = f x ∧ S (dset D i) (upd u i x) w'))
    (hg : ∀ i f, lk gl i = some f → ∀ D u w, (∀ j, behind an i j = true → (lk vl j).isSome = true → D j = true) → S D u w → (execOp (evalK (foldPut A K (os.take i) ((vs u).take i))) (os.getD i default)).run P w = .ok (.value (f u)) w)
    (hgu : ∀ i f, lk gl i = some f → ∀ u u', (∀ j, behind an i j = true → (lk vl j).isSome = true → u j = u' j) → f u = f u')
    (k : ∀ u a w, S (Dall vl) u w → Knows A (foldPut A K (os.take t) (vs u)) a → wpList P os.toArray Q (os.drop t) a w) :
    ∀ (fuel : Nat) (listed : Array Bool) (u : Nat → Wt) (a : Act) (w : World), listed.size = os.length → (∀ j, lstOf listed j → j < t) → Closed os (lstOf listed) → S (Dl vl listed) u w →
      (∀ u', (∀ i, Dl vl listed i = true → u' i = u i) → KD os A K (vs u') (lstOf listed) a) → cntF (fun i => !listed.getD i false) os.length ≤ fuel → wpAny P .any os.toArray Q fuel listed a w := by
  unfold drawOk at hok
  simp only [Bool.and_eq_true, decide_eq_true_eq, List.all_eq_true, List.mem_range] at hok
  obtain ⟨⟨⟨htl, hops⟩, hdst⟩, htail⟩ := hok
  have hvl : ∀ u, (vs u).length = t := fun u => by
    obtain ⟨K', es, h, _⟩ := hq u
    have := (qSim_spec _ _ _ _ _ _ _ h).1
    rw [this, List.length_take]; omega
  have hstep : ∀ u i o, i < t → os[i]? = some o → ∃ v es, (vs u)[i]? = some v ∧ eqs es ∧ StepOk P R L os vl gl u es i o (foldPut A K (os.take i) ((vs u).take i)) v := fun u i o hi ho => by
    obtain ⟨K', es, h, he⟩ := hq u
    obtain ⟨v, hv, hs⟩ := (qSim_spec _ _ _ _ _ _ _ h).2.2 i o (by rw [List.getElem?_take_of_lt hi]; exact ho)
    rw [Nat.zero_add, List.take_take, Nat.min_eq_left (by omega)] at hs
    exact ⟨v, es, hv, he, hs⟩
  have hop : ∀ i o, i < t → os[i]? = some o → readsOk os an t i o = true ∧ noSelect o.op = true ∧ ∀ e ∈ o.after, Region.binds .any e = true → e.on < i := fun i o hi ho => by
    have := hops i hi
    rw [ho] at this
    simp only [Bool.and_eq_true, List.all_eq_true, Bool.or_eq_true, Bool.not_eq_true', decide_eq_true_eq] at this
    refine ⟨this.1.1, this.1.2, fun e he hb => ?_⟩
    rcases this.2 e (by simpa using he) with h1 | h1
    · rw [hb] at h1; cases h1
    · exact h1
  have hgt : ∀ (l : Array Bool), l.size = os.length → ∀ i, i < os.length → l.getD i true = l.getD i false := fun l hl i hi => by
    rw [Array.getD_eq_getD_getElem?, Array.getD_eq_getD_getElem?, Array.getElem?_eq_getElem (by rw [hl]; exact hi)]
    rfl
  have hDall : ∀ listed : Array Bool, (∀ i, i < t → lstOf listed i) → Dl vl listed = Dall vl := fun listed h => by
    funext i
    unfold Dl Dall
    cases hi : (lk vl i).isSome with
    | false => simp
    | true =>
      have := h i (hlst i hi)
      unfold lstOf at this
      simp [this]
  have hfin : ∀ (listed : Array Bool) (u : Nat → Wt) (a : Act), (∀ i, i < t → lstOf listed i) → (∀ j, lstOf listed j → j < t) → KD os A K (vs u) (lstOf listed) a → Knows A (foldPut A K (os.take t) (vs u)) a := fun listed u a hdone hlt hkd => by
    refine ⟨hkd.size, hkd.defers, fun p hp => ?_⟩
    rcases foldPut_mem _ _ _ _ (by rw [hvl, List.length_take]; omega) hp with ⟨j, oj, h1, h2, h3, h4, _⟩ | ⟨h1, h2⟩
    · have hj : j < t := by have := (List.getElem?_eq_some_iff.1 h1).1; rw [List.length_take] at this; omega
      rw [List.getElem?_take_of_lt hj] at h1
      exact hkd.new j (hdone j hj) _ _ (by unfold dstOf; rw [h1]; exact h2) h3 h4
    · refine hkd.old p h1 (fun j hj hd => ?_)
      have hjt := hlt j hj
      have hoj : os[j]? = some os[j] := List.getElem?_eq_getElem (by omega)
      have := h2 j os[j] (by rw [List.getElem?_take_of_lt hjt]; exact hoj)
      unfold dstOf at hd
      rw [hoj] at hd
      exact this hd
  intro fuel
  induction fuel with
  | zero =>
    intro listed u a w hsz hlt hcl hSw hKD hcnt
    have hall := cntF_zero (f := fun i => !listed.getD i false) os.length (Nat.le_zero.1 hcnt)
    have hdone : ∀ i, i < t → lstOf listed i := fun i hi => by
      have := hall i (by omega)
      unfold lstOf
      simpa using this
    have hn : t = os.length := by
      rcases Nat.lt_or_ge t os.length with h1 | h1
      · have h2 := hall t h1
        have h3 : lstOf listed t := by unfold lstOf; simpa using h2
        have := hlt t h3
        omega
      · omega
    rw [hDall listed hdone] at hSw
    refine any_tail htail 0 t listed a w (Nat.le_refl _) htl (by omega) hsz (fun i hi => ?_) (k u a w hSw (hfin listed u a hdone hlt (hKD u (fun _ _ => rfl))))
    have h2 := hall i hi
    exact ⟨fun _ => by omega, fun _ => by simpa using h2⟩
  | succ fuel ih =>
    intro listed u a w hsz hlt hcl hSw hKD hcnt
    by_cases hdone : ∀ i, i < t → lstOf listed i
    · -- the end's operations
      have hcnt2 : os.length - t ≤ fuel + 1 := by
        refine Nat.le_trans ?_ hcnt
        have key : ∀ n, n ≤ os.length → n - t ≤ cntF (fun i => !listed.getD i false) n := by
          intro n
          induction n with
          | zero => intro _; omega
          | succ n ihn =>
            intro hn
            have := ihn (by omega)
            simp only [cntF]
            by_cases e : n < t
            · omega
            · have : listed.getD n false = false := by
                cases hc : listed.getD n false with
                | false => rfl
                | true => have := hlt n hc; omega
              simp only [this, Bool.not_false, if_true]
              omega
        exact key os.length (Nat.le_refl _)
      rw [hDall listed hdone] at hSw
      exact any_tail htail (fuel + 1) t listed a w (Nat.le_refl _) htl hcnt2 hsz (fun i hi => ⟨fun h => hlt i h, fun h => hdone i h⟩) (k u a w hSw (hfin listed u a hdone hlt (hKD u (fun _ _ => rfl))))
    · -- one of the body
      have hex : ∃ i, i < t ∧ ¬ lstOf listed i ∧ ∀ j, j < i → lstOf listed j := by
        obtain ⟨i0, hi0⟩ := Classical.not_forall.1 hdone
        obtain ⟨hi0, hn0⟩ := Classical.not_imp.1 hi0
        have key : ∀ n, n ≤ t → (∀ j, j < n → lstOf listed j) ∨ ∃ i, i < n ∧ ¬ lstOf listed i ∧ ∀ j, j < i → lstOf listed j := by
          intro n
          induction n with
          | zero => intro _; exact .inl (fun j hj => by omega)
          | succ n ihn =>
            intro hn
            rcases ihn (by omega) with h1 | ⟨i, h1, h2⟩
            · by_cases e : lstOf listed n
              · refine .inl (fun j hj => ?_)
                rcases Nat.lt_succ_iff_lt_or_eq.1 hj with h2 | rfl
                · exact h1 j h2
                · exact e
              · exact .inr ⟨n, by omega, e, h1⟩
            · exact .inr ⟨i, by omega, h2⟩
        rcases key t (Nat.le_refl _) with h1 | h1
        · exact absurd (h1 i0 hi0) hn0
        · exact h1
      have hne : Region.ready .any os.toArray listed ≠ [] := by
        obtain ⟨i, hi, hni, hsm⟩ := hex
        intro e
        have hio : i < os.length := by omega
        have ho : os[i]? = some os[i] := List.getElem?_eq_getElem hio
        have : i ∈ Region.ready .any os.toArray listed := by
          refine mem_ready.2 ⟨?_, os[i], by simp, fun e he hb => hsm e.on ((hop i _ hi ho).2.2 e he hb)⟩
          rw [hgt listed hsz i hio]
          cases hc : listed.getD i false with
          | false => rfl
          | true => exact absurd hc hni
        rw [e] at this
        cases this
      refine ⟨fun e => absurd e hne, fun i hi => ?_⟩
      obtain ⟨h1, o, hoi, h2⟩ := mem_ready.1 hi
      have ho : os[i]? = some o := by simpa using hoi
      have hio : i < os.length := (List.getElem?_eq_some_iff.1 ho).1
      have hni : ¬ lstOf listed i := fun h => by
        rw [hgt listed hsz i hio] at h1
        unfold lstOf at h
        rw [h] at h1
        cases h1
      have hed : ∀ e ∈ o.after, Region.binds .any e = true → lstOf listed e.on := fun e he hb => h2 e he hb
      have hit : i < t := by
        refine Nat.lt_of_not_le fun hti => ?_
        unfold tailOk at htail
        rw [List.all_eq_true] at htail
        have hTi := htail i (List.mem_range.2 hio)
        rw [ho] at hTi
        simp only [Bool.or_eq_true, decide_eq_true_eq, Bool.and_eq_true] at hTi
        have hTi' := (hTi.resolve_left (by omega)).2
        by_cases e : i = t
        · rw [if_pos e, List.all_eq_true] at hTi'
          obtain ⟨j, hj, hnj, _⟩ := hex
          exact hnj (behind_listed hcl han i j (hTi' j (List.mem_range.2 hj)) (fun o' ho' => by rw [ho] at ho'; injection ho' with ho'; subst ho'; exact hed))
        · rw [if_neg e, List.any_eq_true] at hTi'
          obtain ⟨e', he', hb'⟩ := hTi'
          rw [Bool.and_eq_true, beq_iff_eq] at hb'
          have := hed e' (by simpa using he') hb'.1
          rw [hb'.2] at this
          have := hlt _ this
          omega
      obtain ⟨hro, hns, hlow⟩ := hop i o hit ho
      have hlook : ∀ u', (∀ i, Dl vl listed i = true → u' i = u i) → ∀ x ∈ readTmps os o, ∀ v, lookK (foldPut A K (os.take i) ((vs u').take i)) x = some v → a.tmps[x]? = some v := fun u' hu' =>
        (hKD u' hu').look hcl hlt ho hit hni hro han hed (hvl u') htl
      have hpre : ∀ j, behind an i j = true → (lk vl j).isSome = true → Dl vl listed j = true := fun j hj hlj => by
        have := behind_listed hcl han i j hj (fun o' ho' => by rw [ho] at ho'; injection ho' with ho'; subst ho'; exact hed)
        unfold lstOf at this
        simp [Dl, this, hlj]
      have hisz : i < listed.size := by omega
      have hcl' : Closed os (lstOf (listed.setIfInBounds i true)) := fun j o' hj ho' e he hb => by
        rw [lstOf_set hisz] at hj ⊢
        rcases hj with hj | rfl
        · exact .inl (hcl j o' hj ho' e he hb)
        · rw [ho] at ho'
          injection ho' with ho'
          subst ho'
          exact .inl (hed e he hb)
      have hlt' : ∀ j, lstOf (listed.setIfInBounds i true) j → j < t := fun j hj => by
        rw [lstOf_set hisz] at hj
        rcases hj with hj | rfl
        · exact hlt j hj
        · exact hit
      have hcnt' : cntF (fun j => !(listed.setIfInBounds i true).getD j false) os.length ≤ fuel := by
        have : cntF (fun j => !(listed.setIfInBounds i true).getD j false) os.length < cntF (fun j => !listed.getD j false) os.length := by
          refine cntF_lt (i := i) ?_ ?_ (fun j hj => ?_) _ hio
          · unfold lstOf at hni
            simpa using hni
          · have : lstOf (listed.setIfInBounds i true) i := (lstOf_set hisz).2 (.inr rfl)
            unfold lstOf at this
            rw [this]
            rfl
          · simp only [Array.getD_eq_getD_getElem?, Array.getElem?_setIfInBounds_ne (fun h => hj h.symm)]
        omega
      have hsz' : (listed.setIfInBounds i true).size = os.length := by simp [hsz]
      have hKDput : ∀ u' v, KD os A K (vs u') (lstOf listed) a → (vs u')[i]? = some v → KD os A K (vs u') (lstOf (listed.setIfInBounds i true)) (a.put o.dst v) := fun u' v hkd hv => by
        have := hkd.put (t := t) hdst hlt hit hni hv
        have hd : dstOf os i = o.dst := by unfold dstOf; rw [ho]; rfl
        rw [hd] at this
        exact ⟨this.size, this.defers, fun p hp hn => this.old p hp (fun j hj => hn j ((lstOf_set hisz).2 hj)), fun j hj => this.new j ((lstOf_set hisz).1 hj)⟩
      have hDne : ∀ j, j ≠ i → Dl vl (listed.setIfInBounds i true) j = Dl vl listed j := fun j hj => by
        unfold Dl
        simp only [Array.getD_eq_getD_getElem?, Array.getElem?_setIfInBounds_ne (fun h => hj h.symm)]
      have hDi : Dl vl (listed.setIfInBounds i true) i = (lk vl i).isSome := by
        unfold Dl
        have : (listed.setIfInBounds i true).getD i false = true := (lstOf_set hisz).2 (.inr rfl)
        rw [this, Bool.true_and]
      cases hloud : lk vl i with
      | some f =>
        -- it acts
        have hDset : Dl vl (listed.setIfInBounds i true) = dset (Dl vl listed) i := by
          funext j
          by_cases e : j = i
          · subst e; rw [hDi, hloud, dset_self]; rfl
          · rw [hDne j e, dset_ne _ e]
        have hDf : Dl vl listed i = false := by
          unfold Dl
          unfold lstOf at hni
          cases hc : listed.getD i false with
          | false => rfl
          | true => exact absurd hc hni
        obtain ⟨v, es, hv, _, hs⟩ := hstep u i o hit ho
        have hex2 : wantedK os (foldPut A K (os.take i) ((vs u).take i)) o = some true ∧ (∀ y ∈ o.op.operands, knownO (foldPut A K (os.take i) ((vs u).take i)) y = true) := by
          rcases hs with ⟨_, h4, _⟩ | ⟨h3, _, h5, _⟩
          · rw [hloud] at h4; cases h4
          · exact ⟨h3, h5⟩
        have hw := wantedK_at (fun y hy => hlook u (fun _ _ => rfl) y (by unfold readTmps; exact List.mem_append_right _ hy)) hex2.1
        have hdoes := hl i f hloud (Dl vl listed) u w hDf hpre hSw
        have hg' : os.getD i default = o := by rw [List.getD_eq_getElem?_getD, ho]; rfl
        rw [hg', ← exec_at (hlook u (fun _ _ => rfl)) hns hex2.2] at hdoes
        have hnext : ∀ v w', (∃ y, v = f y ∧ S (dset (Dl vl listed) i) (upd u i y) w') → wpAny P .any os.toArray Q fuel (listed.setIfInBounds i true) (a.put o.dst v) w' := fun v w' ⟨y0, hy0, hS'⟩ => by
          refine ih _ (upd u i y0) _ w' hsz' hlt' hcl' (by rw [hDset]; exact hS') (fun u' hu' => ?_) hcnt'
          have hu1 : ∀ j, Dl vl listed j = true → u' j = u j := fun j hj => by
            have hne : j ≠ i := fun e => by subst e; rw [hDf] at hj; cases hj
            have h3 := hu' j (by rw [hDne j hne]; exact hj)
            rw [upd_ne _ _ hne] at h3
            exact h3
          have hui : u' i = y0 := by
            have h3 := hu' i (by rw [hDi, hloud]; rfl)
            rw [upd_self] at h3
            exact h3
          refine hKDput u' v (hKD u' hu1) ?_
          obtain ⟨v', es', hv', _, hs'⟩ := hstep u' i o hit ho
          rcases hs' with ⟨_, h4, _⟩ | ⟨_, _, _, ⟨f', h4, h5⟩ | ⟨h4, _⟩ | ⟨h4, _⟩⟩
          · rw [hloud] at h4; cases h4
          · rw [hloud] at h4
            injection h4 with h4
            subst h4
            rw [hv', h5, hui, hy0]
          · rw [hloud] at h4; cases h4
          · rw [hloud] at h4; cases h4
        unfold wpOp
        rw [hoi]
        simp only
        rw [if_pos hw]
        refine .inl ?_
        unfold Oper.wp
        rcases hdoes with ⟨v, w', hr, hS'⟩ | ⟨f, xs, hr, hc⟩
        · rw [hr, Oper.upon_value]
          exact hnext v w' hS'
        · rw [hr, Oper.upon_enter]
          refine hc.mono ?_
          rintro e w' ⟨v, rfl, hS'⟩
          exact hnext v w' hS'
      | none =>
        -- it only reads
        have hDsame : Dl vl (listed.setIfInBounds i true) = Dl vl listed := by
          funext j
          by_cases e : j = i
          · subst e; rw [hDi, hloud]; unfold Dl; rw [hloud]; simp
          · exact hDne j e
        obtain ⟨v, es, hv, he, hs⟩ := hstep u i o hit ho
        have hns' : ∀ (u' : Nat → Wt), (∀ j, Dl vl listed j = true → u' j = u j) → ∀ v', (∃ es', eqs es' ∧ StepOk P R L os vl gl u' es' i o (foldPut A K (os.take i) ((vs u').take i)) v') →
            (Region.wanted o (yielded os.toArray a.tmps) = false ∧ v' = undef) ∨ (Region.wanted o (yielded os.toArray a.tmps) = true ∧ ∃ f, lk gl i = some f ∧ v' = f u') ∨ (Region.wanted o (yielded os.toArray a.tmps) = true ∧ lk gl i = none ∧ (execOp a.eval o).run P w = .ok (.value v') w) ∨
            (Region.wanted o (yielded os.toArray a.tmps) = true ∧ (execOp a.eval o).run P w = .ok (.value v') w) := fun u' hu' v' ⟨es', he', hs'⟩ => by
          have hlk := hlook u' hu'
          rcases hs' with ⟨h5, _, h6⟩ | ⟨h5, _, h7, ⟨f, h6, _⟩ | ⟨_, f, h8, h9⟩ | ⟨_, loc, es1, h8, h9⟩⟩
          · exact .inl ⟨wantedK_at (fun y hy => hlk y (by unfold readTmps; exact List.mem_append_right _ hy)) h5, h6⟩
          · rw [hloud] at h6; cases h6
          · exact .inr (.inl ⟨wantedK_at (fun y hy => hlk y (by unfold readTmps; exact List.mem_append_right _ hy)) h5, f, h8, h9⟩)
          · have hr := simQ_at (hS _ _ _ hSw).1 (hS _ _ _ hSw).2 _ _ _ _ _ h8 (fun p hp => he' p (h9 p hp))
            rw [← exec_at hlk hns h7] at hr
            exact .inr (.inr (.inr ⟨wantedK_at (fun y hy => hlk y (by unfold readTmps; exact List.mem_append_right _ hy)) h5, hr⟩))
        have hmain : (Region.wanted o (yielded os.toArray a.tmps) = false ∧ v = undef) ∨ (Region.wanted o (yielded os.toArray a.tmps) = true ∧ (execOp a.eval o).run P w = .ok (.value v) w) := by
          rcases hs with ⟨h5, _, h6⟩ | ⟨h5, _, h7, ⟨f, h6, _⟩ | ⟨_, f, h8, h9⟩ | ⟨_, loc, es1, h8, h9⟩⟩
          · exact .inl ⟨wantedK_at (fun y hy => hlook u (fun _ _ => rfl) y (by unfold readTmps; exact List.mem_append_right _ hy)) h5, h6⟩
          · rw [hloud] at h6; cases h6
          · have hr := hg i f h8 (Dl vl listed) u w hpre hSw
            have hg' : os.getD i default = o := by rw [List.getD_eq_getElem?_getD, ho]; rfl
            rw [hg', ← exec_at (hlook u (fun _ _ => rfl)) hns h7, ← h9] at hr
            exact .inr ⟨wantedK_at (fun y hy => hlook u (fun _ _ => rfl) y (by unfold readTmps; exact List.mem_append_right _ hy)) h5, hr⟩
          · have hr := simQ_at (hS _ _ _ hSw).1 (hS _ _ _ hSw).2 _ _ _ _ _ h8 (fun p hp => he p (h9 p hp))
            rw [← exec_at (hlook u (fun _ _ => rfl)) hns h7] at hr
            exact .inr ⟨wantedK_at (fun y hy => hlook u (fun _ _ => rfl) y (by unfold readTmps; exact List.mem_append_right _ hy)) h5, hr⟩
        have hval : ∀ u', (∀ j, Dl vl listed j = true → u' j = u j) → (vs u')[i]? = some v := fun u' hu' => by
          obtain ⟨v', es', hv', he', hs'⟩ := hstep u' i o hit ho
          rw [hv']
          rcases hns' u' hu' v' ⟨es', he', hs'⟩ with ⟨h5, h6⟩ | ⟨h5, f, h6, h7⟩ | ⟨h5, _, h7⟩ | ⟨h5, h7⟩
          · rcases hmain with ⟨_, h8⟩ | ⟨h8, _⟩
            · rw [h6, h8]
            · rw [h5] at h8; cases h8
          · rcases hns' u (fun _ _ => rfl) v ⟨es, he, hs⟩ with ⟨h8, _⟩ | ⟨_, f', h8, h9⟩ | ⟨_, h8, _⟩ | ⟨_, h8⟩
            · rw [h5] at h8; cases h8
            · rw [h6] at h8
              injection h8 with h8
              subst h8
              rw [h7, h9, hgu i f h6 u' u (fun j hj hlj => hu' j (hpre j hj hlj))]
            · rw [h6] at h8; cases h8
            · rcases hmain with ⟨h9, _⟩ | ⟨_, h9⟩
              · rw [h5] at h9; cases h9
              · -- v is given, too
                rcases hs with ⟨h10, _, _⟩ | ⟨_, _, h11, ⟨f'', h10, _⟩ | ⟨_, f'', h10, h12⟩ | ⟨_, loc, es1, h10, h12⟩⟩
                · have := wantedK_at (fun y hy => hlook u (fun _ _ => rfl) y (by unfold readTmps; exact List.mem_append_right _ hy)) h10
                  rw [h5] at this; cases this
                · rw [hloud] at h10; cases h10
                · rw [h6] at h10
                  injection h10 with h10
                  subst h10
                  rw [h7, h12, hgu i f h6 u' u (fun j hj hlj => hu' j (hpre j hj hlj))]
                · have hr := hg i f h6 (Dl vl listed) u w hpre hSw
                  have hg' : os.getD i default = o := by rw [List.getD_eq_getElem?_getD, ho]; rfl
                  rw [hg', ← exec_at (hlook u (fun _ _ => rfl)) hns h11, h9] at hr
                  injection hr with hr
                  injection hr with hr
                  rw [h7, hr, hgu i f h6 u' u (fun j hj hlj => hu' j (hpre j hj hlj))]
          · rcases hmain with ⟨h9, _⟩ | ⟨_, h9⟩
            · rw [h5] at h9; cases h9
            · rw [h7] at h9
              injection h9 with h9
              injection h9 with h9
              rw [h9]
          · rcases hmain with ⟨h9, _⟩ | ⟨_, h9⟩
            · rw [h5] at h9; cases h9
            · rw [h7] at h9
              injection h9 with h9
              injection h9 with h9
              rw [h9]
        have hnext : wpAny P .any os.toArray Q fuel (listed.setIfInBounds i true) (a.put o.dst v) w :=
          ih _ u _ w hsz' hlt' hcl' (by rw [hDsame]; exact hSw) (fun u' hu' => by
            have hu1 : ∀ j, Dl vl listed j = true → u' j = u j := fun j hj => hu' j (by rw [hDsame]; exact hj)
            exact hKDput u' v (hKD u' hu1) (hval u' hu1)) hcnt'
        unfold wpOp
        rw [hoi]
        simp only
        rcases hmain with ⟨h5, h6⟩ | ⟨h5, h6⟩
        · rw [if_neg (by rw [h5]; decide)]
          subst h6
          exact hnext
        · rw [if_pos h5]
          refine .inl ?_
          unfold Oper.wp
          rw [h6, Oper.upon_value]
          exact hnext

/-- The values in the text's order. -/
def vsOf (P : Program) (R : List (Addr × Value)) (L : List Blk) (os : List Oper) (A : Fr) (vl : List (Nat × (Wt → Value))) (gl : List (Nat × ((Nat → Wt) → Value))) (locs : List Loc) (t : Nat) (K : List (Nat × Value)) (u : Nat → Wt) : List Value :=
  ((qSim P R L os A vl gl u locs 0 (os.take t) K).map (·.1)).getD []

/-- What each operation that acts has to show. -/
def Louds (P : Program) (os : List Oper) (an : List Nat) (vl : List (Nat × (Wt → Value))) (S : (Nat → Bool) → (Nat → Wt) → World → Prop) : List (Nat × (Wt → Value)) → List ((Nat → Wt) → List (Nat × Value)) → Prop
  | [], _ => True
  | _ :: _, [] => False
  | (i, f) :: r, Kl :: Ks => (∀ D u w, D i = false → (∀ j, behind an i j = true → (lk vl j).isSome = true → D j = true) → S D u w → Does P (execOp (evalK (Kl u)) (os.getD i default)) w (fun v w' => ∃ x, v = f x ∧ S (dset D i) (upd u i x) w')) ∧ Louds P os an vl S r Ks
/-- And each that is told beside. -/
def Givens (P : Program) (os : List Oper) (an : List Nat) (vl : List (Nat × (Wt → Value))) (S : (Nat → Bool) → (Nat → Wt) → World → Prop) : List (Nat × ((Nat → Wt) → Value)) → List ((Nat → Wt) → List (Nat × Value)) → Prop
  | [], _ => True
  | _ :: _, [] => False
  | (i, f) :: r, Kl :: Ks => (∀ D u w, (∀ j, behind an i j = true → (lk vl j).isSome = true → D j = true) → S D u w → (execOp (evalK (Kl u)) (os.getD i default)).run P w = .ok (.value (f u)) w) ∧
      (∀ u u', (∀ j, behind an i j = true → (lk vl j).isSome = true → u j = u' j) → f u = f u') ∧ Givens P os an vl S r Ks
def framesOk {α : Type} (A : Fr) (K : List (Nat × Value)) (os : List Oper) (vs : (Nat → Wt) → List Value) : List (Nat × α) → List ((Nat → Wt) → List (Nat × Value)) → Prop
  | [], _ => True
  | _ :: _, [] => False
  | (i, _) :: r, Kl :: Ks => (∀ u, foldPut A K (os.take i) ((vs u).take i) = Kl u) ∧ framesOk A K os vs r Ks
theorem louds_get {an : List Nat} {vl : List (Nat × (Wt → Value))} {S : (Nat → Bool) → (Nat → Wt) → World → Prop} {vs : (Nat → Wt) → List Value} : ∀ (l : List (Nat × (Wt → Value))) (Ks : List ((Nat → Wt) → List (Nat × Value))), Louds P os an vl S l Ks → framesOk A K os vs l Ks →
    ∀ i f, (i, f) ∈ l → ∀ D u w, D i = false → (∀ j, behind an i j = true → (lk vl j).isSome = true → D j = true) → S D u w → Does P (execOp (evalK (foldPut A K (os.take i) ((vs u).take i))) (os.getD i default)) w (fun v w' => ∃ x, v = f x ∧ S (dset D i) (upd u i x) w')
  | [], _, _, _ => fun i f h => by cases h
  | _ :: _, [], h, _ => h.elim
  | (j, g) :: r, Kl :: Ks, h, hf => fun i f hi D u w h1 h2 h3 => by
    rcases List.mem_cons.1 hi with e | hi
    · injection e with e1 e2
      subst e1; subst e2
      rw [hf.1 u]
      exact h.1 D u w h1 h2 h3
    · exact louds_get r Ks h.2 hf.2 i f hi D u w h1 h2 h3
theorem givens_get {an : List Nat} {vl : List (Nat × (Wt → Value))} {S : (Nat → Bool) → (Nat → Wt) → World → Prop} {vs : (Nat → Wt) → List Value} : ∀ (l : List (Nat × ((Nat → Wt) → Value))) (Ks : List ((Nat → Wt) → List (Nat × Value))), Givens P os an vl S l Ks → framesOk A K os vs l Ks →
    ∀ i f, (i, f) ∈ l → (∀ D u w, (∀ j, behind an i j = true → (lk vl j).isSome = true → D j = true) → S D u w → (execOp (evalK (foldPut A K (os.take i) ((vs u).take i))) (os.getD i default)).run P w = .ok (.value (f u)) w) ∧
      (∀ u u', (∀ j, behind an i j = true → (lk vl j).isSome = true → u j = u' j) → f u = f u')
  | [], _, _, _ => fun i f h => by cases h
  | _ :: _, [], h, _ => h.elim
  | (j, g) :: r, Kl :: Ks, h, hf => fun i f hi => by
    rcases List.mem_cons.1 hi with e | hi
    · injection e with e1 e2
      subst e1; subst e2
      refine ⟨fun D u w h2 h3 => ?_, h.2.1⟩
      rw [hf.1 u]
      exact h.1 D u w h2 h3
    · exact givens_get r Ks h.2.2 hf.2 i f hi

theorem Sat.drawn {B : Base} {I : Imm} {nx : Nat} {L : List Blk} {X : List Res} {w : World} (h : Sat B I nx L X w) (n : Nat) : Sat B I nx L X { w with drawn := n } :=
  ⟨⟨h.evo.os, h.evo.tape, h.evo.output, h.evo.size, h.evo.blk⟩, h.hnx, h.blk, h.own, h.ne, fun r hr => r.stable I w _ (fun _ _ => rfl) (h.res r hr), h.rown, h.rdis, h.rblk, h.im, h.imL, h.imX, h.le, h.inew⟩

theorem lk_lt {α : Type} {t : Nat} : ∀ {l : List (Nat × α)}, (l.all fun p => decide (p.1 < t)) = true → ∀ i, (lk l i).isSome = true → i < t := by
  intro l h i hi
  obtain ⟨a, ha⟩ := Option.isSome_iff_exists.1 hi
  have := List.all_eq_true.1 h _ (lk_mem ha)
  simpa using this

theorem Sat.drawnAny {B : Base} {I : Imm} {nx : Nat} {L : List Blk} {X : List Res} (t : Nat) (os : List Oper) (an : List Nat) (vl : List (Nat × (Wt → Value))) (gl : List (Nat × ((Nat → Wt) → Value))) (R : List (Addr × Value)) (Lq : List Blk) (locs : List Loc)
    (han : ancs os [] = an) (hok : drawOk os an t = true) (hlt : (vl.all fun p => decide (p.1 < t)) = true)
    (hq : ∀ u, (qSim P R Lq os A vl gl u locs 0 (os.take t) K).isSome = true)
    (he : ∀ u, (qSim P R Lq os A vl gl u locs 0 (os.take t) K).map (fun x => x.2.2.map (·.1)) = (qSim P R Lq os A vl gl u locs 0 (os.take t) K).map (fun x => x.2.2.map (·.2)))
    (S : (Nat → Bool) → (Nat → Wt) → World → Prop) (hS : ∀ D u w, S D u w → (∀ b ∈ Lq, w.heap[b.g]? = some (.cells b.cs.toArray b.ty (0, 0))) ∧ ∀ r ∈ R, w.cell? r.1 = some r.2)
    (h0 : ∀ u w, Sat B I nx L X w → S (fun _ => false) u w)
    (Ks : List ((Nat → Wt) → List (Nat × Value))) (hf : framesOk A K os (vsOf P R Lq os A vl gl locs t K) vl Ks) (hl : Louds P os an vl S vl Ks)
    (Kg : List ((Nat → Wt) → List (Nat × Value))) (hfg : framesOk A K os (vsOf P R Lq os A vl gl locs t K) gl Kg) (hg : Givens P os an vl S gl Kg)
    (K' : (Nat → Wt) → List (Nat × Value)) (hK : ∀ u, foldPut A K (os.take t) (vsOf P R Lq os A vl gl locs t K u) = K' u)
    (k : ∀ u a w, S (Dall vl) u w → Knows A (K' u) a → wpList P os.toArray Q (os.drop t) a w) : ∀ a w, Knows A K a → Sat B I nx L X w → wpAny P .any os.toArray Q os.toArray.size (Array.replicate os.toArray.size false) a { w with drawn := w.drawn + 1 } := by
  intro a w ha hs
  have hq' : ∀ u, ∃ K' es, qSim P R Lq os A vl gl u locs 0 (os.take t) K = some (vsOf P R Lq os A vl gl locs t K u, K', es) ∧ eqs es := fun u => by
    have h1 := hq u
    have h2 := he u
    unfold vsOf
    cases hx : qSim P R Lq os A vl gl u locs 0 (os.take t) K with
    | none => rw [hx] at h1; cases h1
    | some x =>
      obtain ⟨vs, K1, es⟩ := x
      rw [hx] at h2
      simp only [Option.map_some, Option.some.injEq] at h2
      exact ⟨K1, es, rfl, eqs_of_map h2⟩
  have hsz : (Array.replicate os.toArray.size false).size = os.length := by simp
  have hno : ∀ j, ¬ lstOf (Array.replicate os.toArray.size false) j := fun j hj => by
    unfold lstOf at hj
    rw [Array.getD_eq_getD_getElem?, Array.getElem?_replicate] at hj
    split at hj <;> simp at hj
  have hD0 : Dl vl (Array.replicate os.toArray.size false) = fun _ => false := by
    funext j
    have := hno j
    unfold lstOf at this
    unfold Dl
    cases hc : (Array.replicate os.toArray.size false).getD j false with
    | false => rfl
    | true => exact absurd hc this
  refine any_body han hok (lk_lt hlt) (vsOf P R Lq os A vl gl locs t K) hq' S hS (fun i f hi => louds_get vl Ks hl hf i f (lk_mem hi)) (fun i f hi => (givens_get gl Kg hg hfg i f (lk_mem hi)).1) (fun i f hi => (givens_get gl Kg hg hfg i f (lk_mem hi)).2)
    (fun u a w hSw hka => k u a w hSw (by rw [← hK u]; exact hka)) os.toArray.size _ (fun _ _ => (none, 0, [])) a _ hsz (fun j hj => absurd hj (hno j)) (fun i o hi => absurd hi (hno i)) (by rw [hD0]; exact h0 _ _ (hs.drawn _))
    (fun u' _ => ⟨ha.size, ha.defers, fun p hp _ => ha.slot p hp, fun i hi => absurd hi (hno i)⟩) ?_
  have key : ∀ (f : Nat → Bool) n, cntF f n ≤ n := by
    intro f n
    induction n with
    | zero => exact Nat.le_refl _
    | succ n ih => simp only [cntF]; split <;> omega
  simpa using key _ os.length

theorem OK.drawn {c : Code} {B : Base} {I : Imm} {nx : Nat} {L : List Blk} {X : List Res} (id t : Nat) (os : List Oper) (an : List Nat) (h : c = .region id os.toArray true) (hm : P.follows .mixedOrders = true) (vl : List (Nat × (Wt → Value))) (gl : List (Nat × ((Nat → Wt) → Value))) (R : List (Addr × Value)) (Lq : List Blk) (locs : List Loc)
    (han : ancs os [] = an) (hok : drawOk os an t = true) (hlt : (vl.all fun p => decide (p.1 < t)) = true)
    (hq : ∀ u, (qSim P R Lq os A vl gl u locs 0 (os.take t) K).isSome = true)
    (he : ∀ u, (qSim P R Lq os A vl gl u locs 0 (os.take t) K).map (fun x => x.2.2.map (·.1)) = (qSim P R Lq os A vl gl u locs 0 (os.take t) K).map (fun x => x.2.2.map (·.2)))
    (S : (Nat → Bool) → (Nat → Wt) → World → Prop) (hS : ∀ D u w, S D u w → (∀ b ∈ Lq, w.heap[b.g]? = some (.cells b.cs.toArray b.ty (0, 0))) ∧ ∀ r ∈ R, w.cell? r.1 = some r.2)
    (h0 : ∀ u w, Sat B I nx L X w → S (fun _ => false) u w)
    (Ks : List ((Nat → Wt) → List (Nat × Value))) (hf : framesOk A K os (vsOf P R Lq os A vl gl locs t K) vl Ks) (hl : Louds P os an vl S vl Ks)
    (Kg : List ((Nat → Wt) → List (Nat × Value))) (hfg : framesOk A K os (vsOf P R Lq os A vl gl locs t K) gl Kg) (hg : Givens P os an vl S gl Kg)
    (K' : (Nat → Wt) → List (Nat × Value)) (hK : ∀ u, foldPut A K (os.take t) (vsOf P R Lq os A vl gl locs t K u) = K' u)
    (k : ∀ u a w, S (Dall vl) u w → Knows A (K' u) a → wpList P os.toArray Q (os.drop t) a w) : OK P c Q A K B I nx L X := by
  intro a w ha hs
  rw [h]
  exact wp_region_any hm (Sat.drawnAny t os an vl gl R Lq locs han hok hlt hq he S hS h0 Ks hf hl Kg hfg hg K' hK k a w ha hs)

theorem RL.go {B : Base} {I : Imm} {nx : Nat} {L : List Blk} {X : List Res} {p : Nat} {a : Act} {w : World} (k : RL P os Q p A K B I nx L X) (ha : Knows A K a) (hs : Sat B I nx L X w) : wpList P os.toArray Q (os.drop p) a w := k a w ha hs
theorem Does.call {s : Sem Next} {w : World} {N : Value → World → Prop} (f : FuncId) (xs : List Value) (h : (simQ P [] [] s .no []).map (·.1) = some (.enter f xs.toArray)) (hc : Calls P f xs.toArray w fun e w' => ∃ v, e = .returned v ∧ N v w') : Does P s w N := by
  refine .inr ⟨f, xs.toArray, ?_, hc⟩
  cases hsim : simQ P [] [] s .no [] with
  | none => rw [hsim] at h; cases h
  | some x =>
    obtain ⟨x1, es1⟩ := x
    rw [hsim] at h
    simp only [Option.map_some, Option.some.injEq] at h
    subst h
    exact simQ_any _ _ _ _ hsim w
end

end Go.Proofs.Ytieakigoinebdaa.RW
