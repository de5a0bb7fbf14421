/- A walk's own words, twelfth part: a loop over an iterator whose body goes on every time. -/
import Derived.Test.YtieakigoinebdaaRWN
import Derived.RangeFuncLeaves
namespace Go.Proofs.Ytieakigoinebdaa.RW
open Go Go.RowKit

/-- Below n nothing has turned. -/
structure LowEq (n : Nat) (A B : World) : Prop where
  os : B.os = A.os
  tape : B.tape = A.tape
  output : B.output = A.output
  blk : ∀ k, k < n → B.heap[k]? = A.heap[k]?
theorem LowEq.trans {n : Nat} {A B C : World} (h : LowEq n A B) (k : LowEq n B C) : LowEq n A C :=
  ⟨k.os.trans h.os, k.tape.trans h.tape, k.output.trans h.output, fun i hi => (k.blk i hi).trans (h.blk i hi)⟩
theorem LowEq.less {n m : Nat} {A B : World} (h : LowEq n A B) (hm : m ≤ n) : LowEq m A B := ⟨h.os, h.tape, h.output, fun k hk => h.blk k (by omega)⟩
theorem Evo.low {S : Nat → Prop} {A B : World} {n : Nat} (h : Evo S A B) (hn : n ≤ A.heap.size) (hS : ∀ k, S k → n ≤ k) : LowEq n A B :=
  ⟨h.os, h.tape, h.output, fun k hk => h.blk k (by omega) (fun hs => by have := hS k hs; omega)⟩
theorem Evo.put (w : World) (g : Nat) (o : Obj) : Evo (fun k => k = g) w (w.putObj g o) :=
  ⟨rfl, rfl, rfl, by simp, fun k _ hn => World.putObj_heap_other hn⟩
theorem Evo.alloc (w : World) (o : Obj) : Evo (fun _ => False) w (w.alloc o) :=
  ⟨rfl, rfl, rfl, by simp, fun k hk _ => by
    show (w.heap.push o)[k]? = _
    rw [Array.getElem?_push, if_neg (by omega)]⟩

variable {P : Program}
theorem range_wp {α : Type} {g : Operand} {ps : Array Tmp} {assign body : Code} {Q : Exit → Act → World → Prop} {a : Act} {w : World} {gf : Nat} {lb : Array Value}
    (hg : a.eval g = .func (.func gf) #[] lb) (eg : ∀ args w, (callFunc gf args).run P w = .ok (.enter gf args) w)
    (E : α → Array Value → Prop) (hps : ∀ x xs, E x xs → xs.size = ps.size) (c : List α) (S : Nat → Prop) (hS : ∀ k, S k → k < w.heap.size)
    (J : List α → World → Prop) (hJ : ∀ pre A B, J pre A → LowEq w.heap.size A B → J pre B) (h0 : J [] w)
    (hround : ∀ (l : Nat) (pre : List α) (x : α) (xs : Array Value) (W : World), J pre W → (pre ++ [x]) <+: c → E x xs → w.heap.size ≤ l → l < W.heap.size →
      assign.wpIn (Fence.ro (some l)) 0 P (Exit.then (fun a₁ W₁ => Evo (fun _ => False) W W₁ ∧ ∀ W₂, Evo (fun k => k = l) W₁ W₂ → body.wpIn (Fence.ro (some l)) 0 P (fun e _ W' => e = .normal ∧ J (pre ++ [x]) W' ∧ Evo (fun k => S k ∨ W.heap.size ≤ k) W₂ W') a₁ W₂) (fun _ _ _ => False))
        { tmps := (ps.zip xs).foldl (fun t (p, v) => t.setIfInBounds p v) a.tmps, defers := [] } W)
    (hiter : ∀ (l : Nat) (W : World) (S' : Nat → Prop) (J' : List α → World → Prop), Evo (fun _ => False) w W → (∀ k, S' k → k < W.heap.size ∧ (S k ∨ w.heap.size ≤ k)) →
      (∀ pre A B, J' pre A → LowEq W.heap.size A B → J' pre B) →
      (∀ pre x xs W1, J' pre W1 → (pre ++ [x]) <+: c → E x xs → YieldAt (Fence.ro none) 0 P l xs W1 fun e W' => e = .returned (.bool true) ∧ J' (pre ++ [x]) W' ∧ Evo S' W1 W') →
      J' [] W → Calls P gf (#[.func (.yield l) #[] #[]] ++ lb) W fun e W' => (∃ v, e = .returned v) ∧ J' c W' ∧ Evo S' W W')
    (hdone : ∀ (D : Nat) (W : World), w.heap.size ≤ D → J c W → Evo S w W → W.heap[D]? = some (.deferred (some [])) → Q .normal { a with defers := { target := .collected D, args := #[] } :: a.defers } W) :
    (Code.rangeFunc g ps assign body).wp P Q a w := by
  refine (wpIn_wide (n := 0)).1 (wpIn_rangeFunc ?_)
  intro fn hfn
  rw [show Fence.wide.round = none from rfl]
  obtain ⟨rec, hrec⟩ : ∃ rec : LoopState → Option Code → Loop, rec = fun st pe => { state := st, pending := pe, fn, tmps := a.tmps, params := ps, assign, body, defers := w.heap.size } := ⟨_, rfl⟩
  obtain ⟨W1, hW1⟩ : ∃ W1, (w.alloc (.deferred (some []))).alloc (.loop (rec .ready none)) = W1 := ⟨_, rfl⟩
  have hL1 : W1.heap[w.heap.size + 1]? = some (.loop (rec .ready none)) := by
    rw [← hW1]; have := World.alloc_heap_new (w.alloc (.deferred (some []))) (.loop (rec .ready none)); rwa [World.size_alloc] at this
  have hE1 : Evo (fun _ => False) w W1 := by rw [← hW1]; exact (Evo.alloc w _).trans (Evo.alloc _ _)
  have hs1 : W1.heap.size = w.heap.size + 2 := by rw [← hW1]; simp
  have hK1 : W1.heap[w.heap.size]? = some (.deferred (some [])) := by
    rw [← hW1, (Evo.alloc (w.alloc (.deferred (some []))) (.loop (rec .ready none))).blk w.heap.size (by simp) (fun h => h)]
    exact World.alloc_heap_new w _
  have hI1 : J [] W1 := hJ _ _ _ h0 (hE1.low (Nat.le_refl _) (fun k h => h.elim))
  refine ⟨w.heap.size + 1, [{ target := .collected w.heap.size, args := #[] }], W1, { target := .fn (.func gf) lb, args := #[.func (.yield (w.heap.size + 1)) #[] #[]] }, W1, gf,
    #[.func (.yield (w.heap.size + 1)) #[] #[]] ++ lb, W1, ?_, ?_, (fun _ _ => trivial), ?_, (fun h => by cases h), ?_⟩
  · rw [← hW1, hrec]; exact run_enterLoop_outer _ _ _ _ _
  · simp only [resolve, hg]
    simp [go_sem]
  · simp [invoke, go_sem, eg]
  · refine callsIn_wide.2 ?_
    refine Calls.mono (hiter (w.heap.size + 1) W1 (fun k => k < W1.heap.size ∧ (S k ∨ k = w.heap.size + 1))
      (fun pre W => J pre W ∧ W.heap[w.heap.size + 1]? = some (.loop (rec .ready none)) ∧ W.heap[w.heap.size]? = some (.deferred (some [])))
      hE1 (fun k hk => ⟨hk.1, hk.2.imp id (fun h => by omega)⟩)
      (fun pre A B h hlow => ⟨hJ _ _ _ h.1 (hlow.less (by omega)), by rw [hlow.blk _ (by omega)]; exact h.2.1, by rw [hlow.blk _ (by omega)]; exact h.2.2⟩)
      ?_ ⟨hI1, hL1, hK1⟩) ?_
    · rintro pre x xs W ⟨hi, hl, hk⟩ hpre hE
      have hlt : w.heap.size + 1 < W.heap.size := (Array.getElem?_eq_some_iff.1 hl).1
      have hy := run_yield (P := P) (args := xs) hl (by rw [hrec]; exact hps x xs hE)
      rw [hrec] at hy
      refine ⟨fn, _, assign, body, hy, roundIn_of_wpIn (F := Fence.ro none) trivial ?_⟩
      refine wpIn_mono (hround (w.heap.size + 1) pre x xs W hi hpre hE (by omega) hlt) ?_
      rintro e a1 W2 hp
      cases e with
      | normal =>
        obtain ⟨hev, hbody⟩ := hp
        have hl2 : W2.heap[w.heap.size + 1]? = some (.loop (rec .ready none)) := by rw [hev.blk _ hlt (fun h => h)]; exact hl
        have hk2 : W2.heap[w.heap.size]? = some (.deferred (some [])) := by rw [hev.blk _ (by omega) (fun h => h)]; exact hk
        have hlt2 : w.heap.size + 1 < W2.heap.size := (Array.getElem?_eq_some_iff.1 hl2).1
        refine ⟨_, run_beginRound hl2 (by rw [hrec]), ?_⟩
        have hput := Evo.put W2 (w.heap.size + 1) (.loop { rec .ready none with state := .busy })
        refine wpIn_mono (hbody _ hput) ?_
        rintro e3 a3 W3 ⟨rfl, hJ3, hev3⟩
        have nS : ∀ k, w.heap.size ≤ k → k < W.heap.size → ¬ (S k ∨ W.heap.size ≤ k) := fun k hk hk2 hs => by
          rcases hs with hs | hs
          · have := hS k hs; omega
          · omega
        have hsz2 := hev.size
        have hl3 : W3.heap[w.heap.size + 1]? = some (.loop { rec .ready none with state := .busy }) := by
          rw [hev3.blk _ (by simpa using hlt2) (nS _ (by omega) hlt)]
          exact World.putObj_heap_same hlt2
        have hk3 : W3.heap[w.heap.size]? = some (.deferred (some [])) := by
          rw [hev3.blk _ (by simp; omega) (nS _ (by omega) (by omega)), World.putObj_heap_other (by omega)]
          exact hk2
        have hlt3 : w.heap.size + 1 < W3.heap.size := (Array.getElem?_eq_some_iff.1 hl3).1
        have hend := run_endRound (P := P) none hl3
        have hput3 := Evo.put W3 (w.heap.size + 1) (.loop { { rec .ready none with state := .busy } with state := if (none : Option Code).isNone then .ready else .done, pending := none })
        refine ⟨_, _, hend, rfl, ⟨?_, ?_, ?_⟩, ?_⟩
        · exact hJ _ _ _ hJ3 (hput3.low (by omega) (fun k h => by omega))
        · rw [World.putObj_heap_same hlt3, hrec]; rfl
        · rw [World.putObj_heap_other (by omega)]; exact hk3
        · have e1 : Evo (fun k => (k < W1.heap.size ∧ (S k ∨ k = w.heap.size + 1)) ∨ W.heap.size ≤ k) W W2 := hev.mono (fun k _ h => h.elim)
          have hWW : W1.heap.size ≤ W.heap.size := by omega
          have e2 : Evo (fun k => (k < W1.heap.size ∧ (S k ∨ k = w.heap.size + 1)) ∨ W.heap.size ≤ k) W2 _ := hput.mono (fun k _ h => .inl ⟨by omega, .inr h⟩)
          have e3 : Evo (fun k => (k < W1.heap.size ∧ (S k ∨ k = w.heap.size + 1)) ∨ W.heap.size ≤ k) _ W3 := hev3.mono (fun k _ h => h.imp (fun h => ⟨by have := hS k h; omega, .inl h⟩) id)
          exact (((e1.trans e2).trans e3).trans (hput3.mono (fun k _ h => .inl ⟨by omega, .inr h⟩))).mono (fun k hk h => h.resolve_right (by omega))
      | _ => exact hp.elim
    · rintro e W2 ⟨⟨v, rfl⟩, ⟨hi, hl, hk⟩, hev⟩
      refine ⟨none, _, by have := run_endLoop (P := P) hl (by rw [hrec]; simp); rw [hrec] at this; exact this, ?_⟩
      have hlt2 : w.heap.size + 1 < W2.heap.size := (Array.getElem?_eq_some_iff.1 hl).1
      have hput := Evo.put W2 (w.heap.size + 1) (.loop { rec .ready none with state := .exhausted })
      rw [hrec] at hput
      refine hdone w.heap.size _ (Nat.le_refl _) (hJ _ _ _ hi (hput.low (by omega) (fun k h => by omega))) ?_ ((World.putObj_heap_other (by omega)).trans hk)
      have e1 := (hE1.mono (S' := fun k => S k ∨ k = w.heap.size + 1) (fun k _ h => h.elim)).trans ((hev.mono (fun k _ h => h.2)).trans (hput.mono (fun k _ h => .inr h)))
      exact e1.mono (fun k hk h => h.resolve_right (by omega))

/-! ### what is asked around such a loop -/
theorem calls_bodyM {f : FuncId} {fn : Func} {args : List Value} {w : World} {R : Ending → World → Prop} (hf : P.funcs[f]? = some fn) (hb : fn.body = some (cBody fn)) (n : Nat) (hn : fn.ntmps = n) (hle : Nat.ble args.length n = true) (B : Base) (I : Imm) (X : List Res)
    (K : List (Nat × Value)) (hK : K.map (fun p => args[p.1]?) = K.map (fun p => some p.2)) (hs : Sat B I w.heap.size [] X w)
    (h : OK P (cBody fn) (bodyPostM Fence.wide 0 P fn R) ⟨n, []⟩ K B I w.heap.size [] X) : Calls P f args.toArray w R := by
  refine (callsIn_wide (n := 0)).1 (callsIn_of_wp_marks hf hb trivial (wpIn_wide.2 (h _ w ⟨?_, rfl, fun p hp => ?_⟩ hs)) rfl)
  · have := Nat.le_of_ble_eq_true hle
    simp only [Array.size_append, List.size_toArray, Array.size_replicate]
    omega
  · obtain ⟨i, hi, rfl⟩ := List.getElem_of_mem hp
    have h1 := congrArg (·[i]?) hK
    simp only [List.getElem?_map, List.getElem?_eq_getElem hi, Option.map_some, Option.some.injEq] at h1
    have hlt := (List.getElem?_eq_some_iff.1 h1).1
    simp only
    rw [Array.getElem?_append_left (by simpa using hlt), List.getElem?_toArray]
    exact h1
theorem QN.bodyM {fn : Func} {Rr : Ending → World → Prop} {A : Fr} {K : List (Nat × Value)} {B : Base} {I : Imm} {nx : Nat} {L : List Blk} {X : List Res} {D : Nat} (hA : A.D = [{ target := .collected D, args := #[] }]) (v : Value) (hk : resKnown K fn.results.toList = true)
    (h : (simQ P [] [] (resultsK fn K) .no []).map (·.1) = some v) (hD : ∀ w, Sat B I nx L X w → w.heap[D]? = some (.deferred (some [])))
    (k : ∀ w, Sat B I nx L X w → Rr (.returned v) (w.putObj D (.deferred none))) : QN (bodyPostM Fence.wide 0 P fn Rr) .ret A K B I nx L X := by
  intro a w ha hs
  show LeavesInM Fence.wide 0 P fn a.tmps Rr a.defers .returning w
  rw [ha.defers, hA]
  refine ⟨(fun h => by cases h), .inl ⟨D, _, rfl, run_takeDeferred (hD w hs), ?_⟩⟩
  refine ⟨v, ?_, k w hs⟩
  rw [results_eq hk ha]
  cases hsim : simQ P [] [] (resultsK fn K) .no [] with
  | none => rw [hsim] at h; cases h
  | some x =>
    obtain ⟨x1, es1⟩ := x
    rw [hsim] at h
    simp only [Option.map_some, Option.some.injEq] at h
    subst h
    exact simQ_any _ _ _ _ hsim _

/-- What others hold and may turn: told by a world that is the same there. -/
def jres (S : Nat → Prop) (W0 : World) (J : World → Prop) : Res where
  fp := S
  P := fun _ w => ∃ W', J W' ∧ Evo S W0 W' ∧ ∀ k, S k → w.heap[k]? = W'.heap[k]?
  stable := fun _ w w' h ⟨W', h1, h2, h3⟩ => ⟨W', h1, h2, fun k hk => (h k hk).trans (h3 k hk)⟩
  ext := fun _ _ _ _ h => h
theorem jres_at {S : Nat → Prop} {W0 : World} {I0 I : Imm} {J : World → Prop} {nx : Nat} {L : List Blk} {X : List Res} {w : World} (h : Sat ⟨W0, S, I0⟩ I nx L X w) (hm : jres S W0 J ∈ X) (hJ : ∀ A B, J A → LowEq W0.heap.size A B → J B) : J w := by
  obtain ⟨W', h1, h2, h3⟩ := h.res _ hm
  refine hJ W' w h1 ⟨h.evo.os.trans h2.os.symm, h.evo.tape.trans h2.tape.symm, h.evo.output.trans h2.output.symm, fun k hk => ?_⟩
  by_cases hs : S k
  · exact h3 k hs
  · exact (h.evo.blk k hk hs).trans (h2.blk k hk hs).symm
theorem Sat.yielded {S : Nat → Prop} {W0 : World} {I0 I : Imm} {J J' : World → Prop} {nx : Nat} {L : List Blk} {X : List Res} {w w' : World} (h : Sat ⟨W0, S, I0⟩ I nx L (jres S W0 J :: X) w) (hS : ∀ k, S k → k < W0.heap.size) (hev : Evo S w w') (hJ' : J' w') : Sat ⟨W0, S, I0⟩ I w'.heap.size L (jres S W0 J' :: X) w' := by
  have hm : jres S W0 J ∈ jres S W0 J :: X := List.mem_cons_self
  have hsz := hev.size
  have hnx := h.hnx
  have h00 : W0.heap.size ≤ w.heap.size := h.evo.size
  have hE := h.evo.trans (hev.mono (fun k _ hk => hk))
  have hp := List.pairwise_cons.1 h.rdis
  refine ⟨hE, rfl, ?_, h.own, h.ne, ?_, ?_, List.pairwise_cons.2 ⟨hp.1, hp.2⟩, ?_, ?_, h.imL, ?_, h.le, h.inew⟩
  · intro b hb
    rw [hev.blk b.g (by rw [hnx]; exact h.lt hb) (fun hs => h.rblk _ hm b hb hs)]
    exact h.blk b hb
  · intro r hr
    rcases List.mem_cons.1 hr with rfl | hr
    · exact ⟨w', hJ', hE, fun _ _ => rfl⟩
    · refine r.stable I w w' (fun k hk => hev.blk k (by rw [hnx]; exact (h.rown r (List.mem_cons_of_mem _ hr) k hk).1) (fun hs => hp.1 r hr k hs hk)) (h.res r (List.mem_cons_of_mem _ hr))
  · intro r hr k hk
    rcases List.mem_cons.1 hr with rfl | hr
    · have := hS k hk
      exact ⟨by omega, .inr hk⟩
    · have := h.rown r (List.mem_cons_of_mem _ hr) k hk
      exact ⟨by omega, this.2⟩
  · intro r hr b hb
    rcases List.mem_cons.1 hr with rfl | hr
    · exact h.rblk _ hm b hb
    · exact h.rblk r (List.mem_cons_of_mem _ hr) b hb
  · intro a v ha
    have hc := h.im a v ha
    rw [← hc]
    exact look_of_block (w := w) (hev.blk _ (look_lt hc) (fun hs => h.imX a v ha _ hm hs))
  · intro a v ha r hr
    rcases List.mem_cons.1 hr with rfl | hr
    · exact h.imX a v ha (jres S W0 J) hm
    · exact h.imX a v ha r (List.mem_cons_of_mem _ hr)
/-- The start, with what others hold. -/
theorem Sat.startJ {S : Nat → Prop} {W : World} {I : Imm} {J : World → Prop} (hI : I.at_ W) (hS : ∀ k, S k → k < W.heap.size) (hIS : ∀ a v, I a = some v → ¬ S a.block) (hJ : J W) : Sat ⟨W, S, I⟩ I W.heap.size [] [jres S W J] W := by
  have h := Sat.start W S I hI
  refine ⟨h.evo, h.hnx, h.blk, h.own, h.ne, ?_, ?_, List.pairwise_singleton _ _, ?_, h.im, h.imL, ?_, h.le, h.inew⟩
  · intro r hr
    rw [List.mem_singleton.1 hr]
    exact ⟨W, hJ, Evo.refl _ _, fun _ _ => rfl⟩
  · intro r hr k hk
    rw [List.mem_singleton.1 hr] at hk
    exact ⟨hS k hk, .inr hk⟩
  · intro r hr b hb
    cases hb
  · intro a v ha r hr
    rw [List.mem_singleton.1 hr]
    exact hIS a v ha
/-- Two pieces of memory at the start. -/
theorem Sat.start2 {S : Nat → Prop} {W : World} {I : Imm} (hI : I.at_ W) (L : List Blk) (hL : ∀ b ∈ L, W.heap[b.g]? = some (.cells b.cs.toArray b.ty (0, 0)) ∧ S b.g ∧ ∀ a v, I a = some v → b.g ≠ a.block) (hne : L.Pairwise (fun a b => a.g ≠ b.g))
    (r1 r2 : Res) (h1 : r1.P I W) (h2 : r2.P I W) (hf1 : ∀ k, r1.fp k → k < W.heap.size ∧ S k ∧ (∀ b ∈ L, b.g ≠ k) ∧ ∀ a v, I a = some v → a.block ≠ k) (hf2 : ∀ k, r2.fp k → k < W.heap.size ∧ S k ∧ (∀ b ∈ L, b.g ≠ k) ∧ ∀ a v, I a = some v → a.block ≠ k) (hd : ∀ k, r1.fp k → ¬ r2.fp k) :
    Sat ⟨W, S, I⟩ I W.heap.size L [r1, r2] W := by
  have h := Sat.start W S I hI
  have two : ∀ r ∈ [r1, r2], r = r1 ∨ r = r2 := fun r hr => by simpa using hr
  refine ⟨h.evo, h.hnx, fun b hb => (hL b hb).1, fun b hb => .inr (hL b hb).2.1, hne, ?_, ?_, ?_, ?_, h.im, fun a v ha b hb => (hL b hb).2.2 a v ha, ?_, h.le, h.inew⟩
  · intro r hr
    rcases two r hr with rfl | rfl <;> assumption
  · intro r hr k hk
    rcases two r hr with rfl | rfl
    · exact ⟨(hf1 k hk).1, .inr (hf1 k hk).2.1⟩
    · exact ⟨(hf2 k hk).1, .inr (hf2 k hk).2.1⟩
  · exact List.pairwise_cons.2 ⟨fun r hr k hk => by rw [List.mem_singleton.1 hr]; exact hd k hk, List.pairwise_singleton _ _⟩
  · intro r hr b hb hk
    rcases two r hr with rfl | rfl
    · exact (hf1 _ hk).2.2.1 b hb rfl
    · exact (hf2 _ hk).2.2.1 b hb rfl
  · intro a v ha r hr hk
    rcases two r hr with rfl | rfl
    · exact (hf1 _ hk).2.2.2 a v ha rfl
    · exact (hf2 _ hk).2.2.2 a v ha rfl
/-- The block of the rounds' deferred calls. -/
def dres (D : Nat) (o : Option (List Deferred)) : Res where
  fp := fun k => k = D
  P := fun _ w => w.heap[D]? = some (.deferred o)
  stable := fun _ w w' h hp => by rw [h D rfl]; exact hp
  ext := fun _ _ _ _ h => h
/-- Behind a loop whose rounds have turned two pieces of memory. -/
theorem Sat.turned {B : Base} {I : Imm} {nx : Nat} {r1 r2 r1' r2' : Res} {w w' : World} (h : Sat B I nx [] [r1, r2] w) {S : Nat → Prop} (hS : ∀ k, S k → r1.fp k ∨ r2.fp k) (hev : Evo S w w') (e1 : r1'.fp = r1.fp) (e2 : r2'.fp = r2.fp) (h1 : r1'.P I w') (h2 : r2'.P I w') {D : Nat} (hD : w'.heap[D]? = some (.deferred (some []))) (hDn : w.heap.size ≤ D) :
    Sat B I w'.heap.size [] [r1', r2', dres D (some [])] w' := by
  have m1 : r1 ∈ [r1, r2] := List.mem_cons_self
  have m2 : r2 ∈ [r1, r2] := List.mem_cons_of_mem _ List.mem_cons_self
  have hnx := h.hnx
  have hsz := hev.size
  have h0 := h.evo.size
  have hDl := (Array.getElem?_eq_some_iff.1 hD).1
  have hd12 : ∀ k, r1.fp k → ¬ r2.fp k := (List.pairwise_cons.1 h.rdis).1 r2 List.mem_cons_self
  have three : ∀ r ∈ [r1', r2', dres D (some [])], r = r1' ∨ r = r2' ∨ r = dres D (some []) := fun r hr => by simpa using hr
  have own1 : ∀ k, r1'.fp k → k < nx ∧ (B.w0.heap.size ≤ k ∨ B.S k) := fun k hk => h.rown r1 m1 k (by rw [← e1]; exact hk)
  have own2 : ∀ k, r2'.fp k → k < nx ∧ (B.w0.heap.size ≤ k ∨ B.S k) := fun k hk => h.rown r2 m2 k (by rw [← e2]; exact hk)
  refine ⟨⟨hev.os.trans h.evo.os, hev.tape.trans h.evo.tape, hev.output.trans h.evo.output, by omega, fun k hk hn => ?_⟩, rfl, (fun b hb => by cases hb), (fun b hb => by cases hb), List.Pairwise.nil, ?_, ?_, ?_, (fun r _ b hb => by cases hb), ?_, (fun a v _ b hb => by cases hb), ?_, h.le, h.inew⟩
  · refine (hev.blk k (by omega) (fun hs => ?_)).trans (h.evo.blk k hk hn)
    rcases hS k hs with h3 | h3
    · rcases (h.rown r1 m1 k h3).2 with h4 | h4
      · omega
      · exact hn h4
    · rcases (h.rown r2 m2 k h3).2 with h4 | h4
      · omega
      · exact hn h4
  · intro r hr
    rcases three r hr with rfl | rfl | rfl
    · exact h1
    · exact h2
    · exact hD
  · intro r hr k hk
    rcases three r hr with rfl | rfl | rfl
    · have := own1 k hk; exact ⟨by omega, this.2⟩
    · have := own2 k hk; exact ⟨by omega, this.2⟩
    · obtain rfl : k = D := hk
      exact ⟨hDl, .inl (by omega)⟩
  · refine List.pairwise_cons.2 ⟨fun r hr k hk => ?_, List.pairwise_cons.2 ⟨fun r hr k hk => ?_, List.pairwise_singleton _ _⟩⟩
    · rcases List.mem_cons.1 hr with rfl | hr
      · rw [e2]; exact hd12 k (by rw [← e1]; exact hk)
      · rw [List.mem_singleton.1 hr]
        intro hk2
        obtain rfl : k = D := hk2
        have := own1 k hk
        omega
    · rw [List.mem_singleton.1 hr]
      intro hk2
      obtain rfl : k = D := hk2
      have := own2 k hk
      omega
  · intro a v ha
    have hc := h.im a v ha
    rw [← hc]
    exact look_of_block (w := w) (hev.blk _ (look_lt hc) (fun hs => (hS _ hs).elim (h.imX a v ha _ m1) (h.imX a v ha _ m2)))
  · intro a v ha r hr
    rcases three r hr with rfl | rfl | rfl
    · rw [e1]; exact h.imX a v ha _ m1
    · rw [e2]; exact h.imX a v ha _ m2
    · intro hk
      have h3 : a.block = D := hk
      have := look_lt (h.im a v ha)
      omega
/-- A region that draws, over any state. -/
theorem drawnAnyS {A : Fr} {K : List (Nat × Value)} {Q : Exit → Act → World → Prop} {B : Base} {I : Imm} {nx : Nat} {L : List Blk} {X : List Res} (t : Nat) (os : List Oper) (an : List Nat) (vl : List (Nat × (Wt → Value))) (gl : List (Nat × ((Nat → Wt) → Value))) (R : List (Addr × Value)) (Lq : List Blk) (locs : List Loc)
    (han : ancs os [] = an) (hok : drawOk os an t = true) (hlt : (vl.all fun p => decide (p.1 < t)) = true) (vs : (Nat → Wt) → List Value) (K' : (Nat → Wt) → List (Nat × Value))
    (hv : ∀ u, (qSim P R Lq os A vl gl u locs 0 (os.take t) K).map (fun x => (x.1, x.2.1)) = some (vs u, K' u))
    (he : ∀ u, (qSim P R Lq os A vl gl u locs 0 (os.take t) K).map (fun x => x.2.2.map (·.1)) = (qSim P R Lq os A vl gl u locs 0 (os.take t) K).map (fun x => x.2.2.map (·.2)))
    (S : (Nat → Bool) → (Nat → Wt) → World → Prop) (hS : ∀ D u w, S D u w → (∀ b ∈ Lq, w.heap[b.g]? = some (.cells b.cs.toArray b.ty (0, 0))) ∧ ∀ r ∈ R, w.cell? r.1 = some r.2)
    (h0 : ∀ u w, Sat B I nx L X w → S (fun _ => false) u w)
    (Ks : List ((Nat → Wt) → List (Nat × Value))) (hf : framesOk A K os vs vl Ks) (hl : Louds P os an vl S vl Ks)
    (Kg : List ((Nat → Wt) → List (Nat × Value))) (hfg : framesOk A K os vs gl Kg) (hg : Givens P os an vl S gl Kg)
    (k : ∀ u a w, S (Dall vl) u w → Knows A (K' u) a → wpList P os.toArray Q (os.drop t) a w) : ∀ a w, Knows A K a → Sat B I nx L X w → wpAny P .any os.toArray Q os.toArray.size (Array.replicate os.toArray.size false) a { w with drawn := w.drawn + 1 } := by
  obtain ⟨e, h1, h2⟩ := vsOf_eq hv
  subst e
  exact Sat.drawnAny t os an vl gl R Lq locs han hok hlt h1 he S hS h0 Ks hf hl Kg hfg hg K' h2 k
/-- A map's own mark. -/
def mapImm (g : Nat) (v : Value) : Imm := fun a => if a = ⟨g, 0, some 0⟩ then some v else none
def Mp {α β : Type} (kE : α → Value) (vE : β → Value) (I : Imm) (g : Nat) (l : List (α × β)) : Prop := I ⟨g, 0, some 0⟩ = some (codeM (ents kE vE 0 l).toArray)
theorem codeM_inj {a b : Array MapEntry} (h : codeM a = codeM b) : a = b := by
  unfold codeM at h
  injection h with h
  have h1 := congrArg Array.toList h
  simp only [List.cons.injEq, Value.agg.injEq, and_true] at h1
  obtain ⟨h1, h2, h3⟩ := h1
  have hs : a.size = b.size := by have := congrArg Array.size h1; simpa using this
  apply Array.ext hs
  intro i hi hj
  have g1 := congrArg (·[i]?) h1
  have g2 := congrArg (·[i]?) h2
  have g3 := congrArg (·[i]?) h3
  simp only [Array.getElem?_map, Array.getElem?_eq_getElem hi, Array.getElem?_eq_getElem hj, Option.map_some, Option.some.injEq, Value.int.injEq, true_and, Int.ofNat_inj] at g1 g2 g3
  cases ha : a[i]
  cases hb : b[i]
  rw [ha, hb] at g1 g2 g3
  simp only at g1 g2 g3
  rw [g1, g2, g3]
section
variable {T Kt Et : TypeId} {α β : Type} [DecidableEq α] {kE : α → Value} {vE : β → Value} {z : β}
omit [DecidableEq α] in
theorem Mp.ext {I J : Imm} {g : Nat} {l : List (α × β)} (h : I.le J) (hm : Mp kE vE I g l) : Mp kE vE J g l := h _ _ hm
theorem run_lookF (hM : MT P T Kt Et kE vE z) {I : Imm} {g : Nat} {l : List (α × β)} (hm : Mp kE vE I g l) {w : World} (hI : I.at_ w) (a : α) (ok : Bool) :
    (Instr.lookup T (.map (some g)) (kE a) ok).run P w = .ok (if ok = true then .tuple #[vE ((mget l a).getD z), .bool (mget l a).isSome] else vE ((mget l a).getD z)) w := by
  have h := hI _ _ hm
  simp only [look] at h
  split at h
  · rename_i es c hg
    have he := codeM_inj (Option.some.inj h)
    subst he
    exact hM.lookup (q := 0) (by simp) hg a ok
  · cases h
variable {Q : Exit → Act → World → Prop} {A : Fr} {K : List (Nat × Value)} {B : Base} {I : Imm} {nx : Nat} {L : List Blk} {X : List Res} {os : List Oper} {p : Nat}
theorem RL.lookF (hM : MT P T Kt Et kE vE z) (a : α) {g : Nat} {l : List (α × β)} (d : Option Tmp) (hl : ready os p K d = true) (hm : Mp kE vE I g l)
    (hx : execOp (evalK K) (os.getD p default) = toNext (Instr.lookup T (.map (some g)) (kE a) true)) {K' : List (Nat × Value)}
    (hF : putK A K d (.tuple #[vE ((mget l a).getD z), .bool (mget l a).isSome]) = K') (k : RL P os Q (p + 1) A K' B I nx L X) : RL P os Q p A K B I nx L X :=
  RL.quiet d _ hl hF (fun w hs => by rw [hx]; exact run_toNext (run_lookF hM hm hs.im a true)) k
theorem giv_look (hM : MT P T Kt Et kE vE z) (a : α) {g : Nat} {l : List (α × β)} (hm : Mp kE vE I g l) {w : World} (hI : I.at_ w)
    (hx : execOp (evalK K) (os.getD p default) = toNext (Instr.lookup T (.map (some g)) (kE a) true)) : (execOp (evalK K) (os.getD p default)).run P w = .ok (.value (.tuple #[vE ((mget l a).getD z), .bool (mget l a).isSome])) w := by
  rw [hx]; exact run_toNext (run_lookF hM hm hI a true)
theorem Givens.consS {an : List Nat} {vl : List (Nat × (Wt → Value))} {S : (Nat → Bool) → (Nat → Wt) → World → Prop} {i : Nat} {f : (Nat → Wt) → Value} {r : List (Nat × ((Nat → Wt) → Value))} {Kl : (Nat → Wt) → List (Nat × Value)} {Ks : List ((Nat → Wt) → List (Nat × Value))}
    (h : ∀ D u w, (∀ j, behind an i j = true → (lk vl j).isSome = true → D j = true) → S D u w → (execOp (evalK (Kl u)) (os.getD i default)).run P w = .ok (.value (f u)) w)
    (h2 : ∀ u u', (∀ j, behind an i j = true → (lk vl j).isSome = true → u j = u' j) → f u = f u') (h3 : Givens P os an vl S r Ks) : Givens P os an vl S ((i, f) :: r) (Kl :: Ks) := ⟨h, h2, h3⟩
end
end Go.Proofs.Ytieakigoinebdaa.RW
