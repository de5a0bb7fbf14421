/- A walk's own words, ninth part: the same, as the generator asks. -/
import Derived.Test.YtieakigoinebdaaRWG
namespace Go.Proofs.Ytieakigoinebdaa.RW
open Go Go.RowKit

section
variable {P : Program} {c : Code} {Q : Exit → Act → World → Prop} {A : Fr} {K : List (Nat × Value)} {B : Base} {I : Imm} {nx : Nat} {L : List Blk} {X : List Res} {os : List Oper} {p : Nat}

theorem info_of {e : TypeId} {sz bytes : Nat} (h : (P.info? e).map (fun i => (i.size, i.bytes, i.zero.map (·.cells.size))) = some (sz, bytes, some sz)) : ∃ inf z, P.info? e = some inf ∧ inf.zero = some z ∧ inf.size = sz ∧ inf.bytes = bytes ∧ z.cells.size = sz := by
  obtain ⟨inf, h1, h2⟩ := Option.map_eq_some_iff.1 h
  injection h2 with h2 h3
  injection h3 with h3 h4
  obtain ⟨z, h5, h6⟩ := Option.map_eq_some_iff.1 h4
  exact ⟨inf, z, h1, h5, h2, h3, h6⟩

theorem slA_zero {S : Option Addr} {n sz : Nat} : slA S 0 n sz = if n = 0 then S else S.map (·.add (0 * sz)) := rfl
theorem rd_clip {α : Type} {d : Ty α} {l : List α} {S : Option Addr} {sz : Nat} (h : Rd d I S l) : Rd d I (slA S 0 l.length sz) l := by
  by_cases hn : l = []
  · subst hn; exact Rd.nil _ _ _
  · obtain ⟨g, o, rfl, hc⟩ := h.2 hn
    have : slA (some ⟨g, o, none⟩) 0 l.length sz = some ⟨g, o, none⟩ := by
      unfold slA
      rw [if_neg (fun e => hn (List.eq_nil_of_length_eq_zero e)), Nat.zero_mul]
      rfl
    rw [this]
    exact h
theorem RL.clip {α : Type} {T e : TypeId} (sz : Nat) {l : List α} {S : Option Addr} {cap : Nat} (kh km : IntKind) (d : Option Tmp) (hl : ready os p K d = true)
    (hx : execOp (evalK K) (os.getD p default) = toNext (Instr.sliceAt T (.slice S l.length cap) none (some (.int kh (l.length : Int))) (some (.int km (l.length : Int)))))
    (hu : P.underlying T = some (.slice e)) (hz : (P.info? e).map (·.size) = some sz) (hc : l.length ≤ cap) {K' : List (Nat × Value)} (hF : putK A K d (.slice (slA S 0 l.length sz) l.length l.length) = K')
    (kk : RL P os Q (p + 1) A K' B I nx L X) : RL P os Q p A K B I nx L X := by
  refine RL.quiet d _ hl hF (fun w _ => ?_) kk
  obtain ⟨inf, hi', hsz⟩ := Option.map_eq_some_iff.1 hz
  obtain ⟨hu1, he⟩ := elem_of hu
  rw [hx]
  refine run_toNext ?_
  rw [run_sliceAt_slice w T _ _ _ _ hu1, run_slice_hm w T S l.length cap hu1 kh km (l.length : Int) (l.length : Int) (by omega) (by omega) (by omega), he]
  simp only [sizeOf, typeInfo, hi', Sem.run_bind, Result.andThen]
  simp [hi', hsz, Result.andThen, sliced, slA]
/-- An append to a row whose capacity is its length: the row is copied. -/
theorem RL.appendClip {α : Type} {T e : TypeId} {S : Option Addr} (sz bytes : Nat) (ty : TypeId) (i c2 g bty : Nat) (news : List Value) (dt : Ty α) (l ys : List α) (d : Option Tmp)
    (hl : ready os p K d = true)
    (hx : execOp (evalK K) (os.getD p default) = toNext (Builtin.append_ #[T, T] ty #[.slice S l.length l.length, .slice (some ⟨g, 0, none⟩) ys.length c2]))
    (hu : P.underlying T = some (.slice e)) (hinf : (P.info? e).map (fun i => (i.size, i.bytes, i.zero.map (·.cells.size))) = some (sz, bytes, some sz)) (hd : dt.sz = sz) (hsz0 : 0 < sz)
    (hr : Rd dt I S l) (hL : L[i]? = some ⟨g, news, bty⟩) (hr2 : Reps dt I ys news) (hy0 : 0 < ys.length)
    (hbytes : (l.length + ys.length) * bytes ≤ 140737488355328) (hmax : l.length + ys.length ≤ 9223372036854775807)
    (kk : ∀ (S' : Option Addr) (c' nx' : Nat) (cs' : List Value), Reps dt I (l ++ ys) cs' → RL P os Q (p + 1) A (putK A K d (.slice S' (l ++ ys).length c')) B I nx' L (X ++ [orow e sz S' (l ++ ys).length c' cs'])) : RL P os Q p A K B I nx L X := by
  obtain ⟨inf, z, h1, h2, h3, h4, h5⟩ := info_of hinf
  refine RL.one d (fun v w' => ∃ (S' : Option Addr) (c' : Nat) (cs' : List Value), v = .slice S' (l ++ ys).length c' ∧ Reps dt I (l ++ ys) cs' ∧ Sat B I w'.heap.size L (X ++ [orow e sz S' (l ++ ys).length c' cs']) w') hl (fun w hs => ?_) (fun v w' hK a' ha' => ?_)
  · obtain ⟨a, ha, hnews⟩ := news_blk hs hL
    injection ha with ha
    subst ha
    have key : ∃ (olds : List Value) (v' : Value) (w' : World), Reps dt I l olds ∧ (Builtin.append_ #[T, T] ty #[.slice S l.length l.length, .slice (some ⟨g, 0, none⟩) ys.length c2]).run P w = .ok v' w' ∧ w'.ownsRow w.heap.size e sz v' (l.length + ys.length) (olds ++ news) ∧ w.grownBy w' none := by
      by_cases hne : l = []
      · subst hne
        cases S with
        | none =>
          obtain ⟨v', w', hr', ho, hg, _⟩ := run_append_own_at (P := P) w w.heap.size T ty e inf z sz bytes hu h1 h2 h3 h4 h5 hsz0 (.slice none 0 0) 0 [] (World.ownsRow_nil w _ e sz) ⟨g, 0, none⟩ ys.length c2 news (by rw [hr2.len, hd]) hnews (fun u hu => hr2.one u hu) (by simp only [maxLen]; simpa using hmax) (by simpa using hbytes) (Nat.le_refl _)
          exact ⟨[], v', w', rfl, hr', by simpa using ho, hg⟩
        | some b =>
          obtain ⟨v', w', hr', ho, hg⟩ := run_append_arg_grows (P := P) w T ty e inf z sz bytes hu h1 h2 h3 h4 h5 hsz0 b 0 0 [] (by simp) (fun j u hj => by cases hj) ⟨g, 0, none⟩ ys.length c2 news (by rw [hr2.len, hd]) hnews (by omega) (by simp only [maxLen]; simpa using hmax) (by simpa using hbytes)
          exact ⟨[], v', w', rfl, hr', by simpa using ho, hg⟩
      · obtain ⟨olds, hro, b, hb, hcells⟩ := news_rd hs hr hne
        subst hb
        obtain ⟨v', w', hr', ho, hg⟩ := run_append_arg_grows (P := P) w T ty e inf z sz bytes hu h1 h2 h3 h4 h5 hsz0 b l.length l.length olds (by rw [hro.len, hd]) hcells ⟨g, 0, none⟩ ys.length c2 news (by rw [hr2.len, hd]) hnews (by omega) (by simp only [maxLen]; exact hmax) hbytes
        exact ⟨olds, v', w', hro, hr', ho, hg⟩
    obtain ⟨olds, v', w', hro, hrun, ho, hg⟩ := key
    rcases ho.2 with ⟨_, h0⟩ | ⟨g', cap', cur, hv, hb, hgw, r⟩
    · omega
    · subst hv
      have hnx := hs.hnx
      have hgl : g' < w'.heap.size := (Array.getElem?_eq_some_iff.1 hgw).1
      refine ⟨_, w', by rw [hx]; exact run_toNext hrun, some ⟨g', 0, none⟩, cap', olds ++ news, by rw [List.length_append], hro.append hr2, ?_⟩
      refine hs.call (J := I) ⟨⟨hg.os, hg.tape, hg.output, hg.size, fun k hk _ => hg.block k hk (by simp)⟩, Imm.le_refl _, ?_, fun _ _ h => .inl h, ?_, ?_, List.pairwise_singleton _ _, ?_⟩
      · intro a v ha
        have hc := hs.im a v ha
        rw [← hc]
        exact look_of_block (w := w) (hg.block _ (look_lt hc) (by simp))
      · intro r' hr'
        rw [List.mem_singleton.1 hr']
        refine ⟨?_, .inr ⟨g', cap', cur, by rw [List.length_append], Nat.zero_le _, hgw, ?_⟩⟩
        · rw [show (l ++ ys).length = l.length + ys.length from List.length_append]; exact ho.1
        · rw [show (l ++ ys).length = l.length + ys.length from List.length_append]; exact r
      · intro r' hr' k hk
        rw [List.mem_singleton.1 hr'] at hk
        obtain ⟨a, ha, rfl⟩ := hk
        injection ha with ha
        rw [← ha]
        exact ⟨hb, hgl⟩
      · intro a v ha r' hr' hk
        rw [List.mem_singleton.1 hr'] at hk
        obtain ⟨b, hb', e1⟩ := hk
        injection hb' with hb'
        have := look_lt (hs.im a v ha)
        rw [← hb'] at e1
        simp only at e1
        omega
  · obtain ⟨S', c', cs', rfl, h6, h7⟩ := hK
    exact kk S' c' _ cs' h6 a' w' ha' h7

/-- A loop whose first round is another than the rest. -/
theorem OK.loopPeel (l : Code) (h : c = .loop l) (Inv : Nat → St) (k : Nat) (hz : ∀ K I nx L X, ¬ Inv 0 K I nx L X)
    (first : ∀ Q' : Exit → Act → World → Prop, (∀ K' I' nx' L' X', Inv k K' I' nx' L' X' → QN Q' .normal A K' B I' nx' L' X') → (∀ e a w, e ≠ .normal → Q e a w → Q' e a w) → OK P l Q' A K B I nx L X)
    (step : ∀ k K I nx L X, Inv (k + 1) K I nx L X → ∀ Q' : Exit → Act → World → Prop, (∀ K' I' nx' L' X', Inv k K' I' nx' L' X' → QN Q' .normal A K' B I' nx' L' X') → (∀ e a w, e ≠ .normal → Q e a w → Q' e a w) → OK P l Q' A K B I nx L X) :
    OK P c Q A K B I nx L X := by
  have key : ∀ k K I nx L X, Inv k K I nx L X → ∀ a w, Knows A K a → Sat B I nx L X w → Code.rounds P l Q k a w := by
    intro k
    induction k with
    | zero => intro K I nx L X hi; exact absurd hi (hz _ _ _ _ _)
    | succ k ih =>
      intro K I nx L X hi a w ha hs
      refine step k K I nx L X hi (Exit.then (Code.rounds P l Q k) Q) (fun K' I' nx' L' X' hi' a' w' ha' hs' => ih K' I' nx' L' X' hi' a' w' ha' hs') (fun e a w hne hq => ?_) a w ha hs
      cases e <;> first | exact absurd rfl hne | exact hq
  intro a w ha hs
  rw [h]
  refine wp_loop_rounds (k + 1) ?_
  refine first (Exit.then (Code.rounds P l Q k) Q) (fun K' I' nx' L' X' hi' a' w' ha' hs' => key k K' I' nx' L' X' hi' a' w' ha' hs') (fun e a w hne hq => ?_) a w ha hs
  cases e <;> first | exact absurd rfl hne | exact hq

/-- A run over known blocks; of the slots behind it, those that are still asked. -/
theorem RL.simP (R : List (Addr × Value)) (hR : RFacts B I X R) (n : Nat) (locs : List Loc) {K' : List (Nat × Value)} {nx' : Nat} {L' : List Blk}
    (h : (simOps P R os A ((os.drop p).take n) locs K nx L []).map (fun x => (K'.map (fun q => lookK x.1 q.1), x.2.1, x.2.2.1)) = some (K'.map (fun q => some q.2), nx', L'))
    (he : (simOps P R os A ((os.drop p).take n) locs K nx L []).map (fun x => x.2.2.2.map (·.1)) = (simOps P R os A ((os.drop p).take n) locs K nx L []).map (fun x => x.2.2.2.map (·.2)))
    (k : RL P os Q (p + n) A K' B I nx' L' X) : RL P os Q p A K B I nx L X := by
  cases hsim : simOps P R os A ((os.drop p).take n) locs K nx L [] with
  | none => rw [hsim] at h; cases h
  | some x =>
    have h1 := h
    rw [hsim] at h1
    simp only [Option.map_some, Option.some.injEq, Prod.mk.injEq] at h1
    obtain ⟨h2, h3, h4⟩ := h1
    refine RL.sim (K' := x.1) (nx' := nx') (L' := L') R hR n locs ?_ he ?_
    · rw [hsim]
      simp only [Option.map_some, h3, h4]
    · exact RL.sub h2 (.refl _) (.refl _) k

/-- What lies in known block i is appended to a row of the call's own. -/
theorem RL.appendB {α : Type} {T e : TypeId} {S : Option Addr} (sz bytes : Nat) (ty : TypeId) (cap i c2 g bty : Nat) (cs news : List Value) (dt : Ty α) (l ys : List α) (xi : Nat) (d : Option Tmp)
    (hl : ready os p K d = true)
    (hx : execOp (evalK K) (os.getD p default) = toNext (Builtin.append_ #[T, T] ty #[.slice S l.length cap, .slice (some ⟨g, 0, none⟩) ys.length c2]))
    (hu : P.underlying T = some (.slice e)) (hinf : (P.info? e).map (fun i => (i.size, i.bytes, i.zero.map (·.cells.size))) = some (sz, bytes, some sz)) (hd : dt.sz = sz) (hsz0 : 0 < sz)
    (hX : X[xi]? = some (orow e sz S l.length cap cs)) (hr : Reps dt I l cs) (hL : L[i]? = some ⟨g, news, bty⟩) (hr2 : Reps dt I ys news)
    (hbytes : (l.length + ys.length) * bytes ≤ 140737488355328) (hmax : l.length + ys.length ≤ 9223372036854775807)
    (kk : ∀ (S' : Option Addr) (c' nx' : Nat) (cs' : List Value), Reps dt I (l ++ ys) cs' → RL P os Q (p + 1) A (putK A K d (.slice S' (l ++ ys).length c')) B I nx' L (X.set xi (orow e sz S' (l ++ ys).length c' cs'))) : RL P os Q p A K B I nx L X := by
  obtain ⟨inf, z, h1, h2, h3, h4, h5⟩ := info_of hinf
  refine RL.append sz bytes ty l.length cap ys.length c2 cs news xi d hl hx hu inf h1 z h2 h3 h4 h5 hsz0 hX (by rw [hr2.len, hd]) (fun u hu => hr2.one u hu) (fun w hs => news_blk hs hL) hbytes hmax (fun S' c' nx' => ?_)
  have := kk S' c' nx' _ (hr.append hr2)
  rwa [List.length_append] at this
theorem RL.appendR {α : Type} {T e : TypeId} {S S2 : Option Addr} (sz bytes : Nat) (ty : TypeId) (cap c2 : Nat) (cs : List Value) (dt : Ty α) (l ys : List α) (xi : Nat) (d : Option Tmp)
    (hl : ready os p K d = true)
    (hx : execOp (evalK K) (os.getD p default) = toNext (Builtin.append_ #[T, T] ty #[.slice S l.length cap, .slice S2 ys.length c2]))
    (hu : P.underlying T = some (.slice e)) (hinf : (P.info? e).map (fun i => (i.size, i.bytes, i.zero.map (·.cells.size))) = some (sz, bytes, some sz)) (hd : dt.sz = sz) (hsz0 : 0 < sz)
    (hX : X[xi]? = some (orow e sz S l.length cap cs)) (hr : Reps dt I l cs) (hy : Rd dt I S2 ys)
    (hbytes : (l.length + ys.length) * bytes ≤ 140737488355328) (hmax : l.length + ys.length ≤ 9223372036854775807)
    (kk : ∀ (S' : Option Addr) (c' nx' : Nat) (cs' : List Value), Reps dt I (l ++ ys) cs' → RL P os Q (p + 1) A (putK A K d (.slice S' (l ++ ys).length c')) B I nx' L (X.set xi (orow e sz S' (l ++ ys).length c' cs'))) : RL P os Q p A K B I nx L X := by
  obtain ⟨inf, z, h1, h2, h3, h4, h5⟩ := info_of hinf
  refine RL.appendRd sz bytes ty l.length cap c2 cs dt ys xi d hl hx hu inf h1 z h2 h3 h4 h5 hsz0 hX hy hd hbytes hmax (fun S' c' nx' news hr2 => ?_)
  have := kk S' c' nx' _ (hr.append hr2)
  rwa [List.length_append] at this

/-- A new row of n zeros. -/
theorem RL.makeL {α : Type} {T e : TypeId} (x : Int) (kl kc : IntKind) (d : Option Tmp) (zc : Value) (z : α) (dt : Ty α) (bytes : Nat) (hl : ready os p K d = true)
    (hx : execOp (evalK K) (os.getD p default) = toNext (Instr.makeSlice T (.int kl x) (.int kc x)))
    (hu : P.underlying T = some (.slice e)) (hi : (P.info? e).map (fun i => (i.size, i.bytes, i.zero)) = some (1, bytes, some zc)) (hzc : zc.cells = #[zc]) (hz : dt.K I z [zc]) (h0 : 0 ≤ x) (hb : bytes * x.toNat ≤ 281474976710656) (hm : x.toNat ≤ 9223372036854775807)
    (kk : ∀ nx', Reps dt I (List.replicate x.toNat z) (List.replicate x.toNat zc) → RL P os Q (p + 1) A (putK A K d (.slice (some ⟨nx, 0, none⟩) (List.replicate x.toNat z).length (List.replicate x.toNat z).length)) B I nx' L (X ++ [orow e 1 (some ⟨nx, 0, none⟩) (List.replicate x.toNat z).length (List.replicate x.toNat z).length (List.replicate x.toNat zc)])) : RL P os Q p A K B I nx L X := by
  obtain ⟨inf, h1, h2⟩ := Option.map_eq_some_iff.1 hi
  injection h2 with h2 h3
  injection h3 with h3 h4
  refine RL.make x kl kc d zc bytes hl hx hu inf h1 h4 hzc h2 h3 h0 hb hm (fun nx' => ?_)
  have := kk nx' (Reps.zeros hz _)
  rwa [List.length_replicate] at this

/-- A store of a whole element. -/
theorem RL.storeL {α : Type} {T e : TypeId} (sz : Nat) (xi : Nat) {S : Option Addr} {g : Nat} (hS : S = some ⟨g, 0, none⟩) (cap : Nat) (i : Int) (cs news : List Value) (v : Value) (dt : Ty α) (l : List α) (x : α)
    (hl : ready os p K none = true)
    (hx : execOp (evalK K) (os.getD p default) = (Instr.storeAt T (.pointer (some ⟨g, 0 + i.toNat * sz, none⟩)) v).bind fun _ => .pure .skip)
    (hz : (P.info? T).map (·.size) = some sz) (hd : dt.sz = sz) (hv : v.cells = news.toArray) (hk : dt.K I x news) (hX : X[xi]? = some (orow e sz S l.length cap cs)) (hr : Reps dt I l cs) (h0 : 0 ≤ i) (hi : i < (l.length : Int))
    (kk : ∀ cs', Reps dt I (l.set i.toNat x) cs' → RL P os Q (p + 1) A K B I nx L (X.set xi (orow e sz S (l.set i.toNat x).length cap cs'))) : RL P os Q p A K B I nx L X := by
  subst hd
  refine RL.storeRow dt.sz xi hS l.length cap i.toNat cs news v hl hx hz hv (dt.len hk) (fun u hu => dt.one hk u hu) hX (by omega) ?_
  have := kk _ (hr.set i.toNat x news (by omega) hk)
  rwa [List.length_set] at this
theorem Reps.getE {α : Type} {d : Ty α} {l : List α} {cs : List Value} (h : Reps d I l cs) (z : α) (i : Int) (h0 : 0 ≤ i) (h1 : i < (l.length : Int)) : ∃ c, d.K I (l.getD i.toNat z) c ∧ ∀ j u, c[j]? = some u → cs[i.toNat * d.sz + j]? = some u := by
  have hl : i.toNat < l.length := by omega
  obtain ⟨c, hk, hc⟩ := h.get i.toNat _ (List.getElem?_eq_getElem hl)
  refine ⟨c, ?_, hc⟩
  rw [List.getD_eq_getElem?_getD, List.getElem?_eq_getElem hl]
  exact hk
end
section
variable {I : Imm} {cs : List Value}
theorem scalar_own {α : Type} (z : α) {enc : α → Value} {h1 : ∀ x, (enc x).oneCell' = true} {l : List α} (h : Reps (Ty.scalar enc h1) I l cs) (i : Int) (h0 : 0 ≤ i) (h2 : i < (l.length : Int)) :
    ∀ j u, [enc (l.getD i.toNat z)][j]? = some u → cs[i.toNat * 1 + j]? = some u := by
  obtain ⟨c, hk, hc⟩ := h.getE z i h0 h2
  have hk' : c = [enc (l.getD i.toNat z)] := hk
  subst hk'
  exact hc
end
theorem Ty.int_own {k : IntKind} {I : Imm} {cs : List Value} {l : List Int} (h : Reps (Ty.int k) I l cs) (i : Int) (h0 : 0 ≤ i) (h2 : i < (l.length : Int)) : ∀ j u, [Value.int k (l.getD i.toNat 0)][j]? = some u → cs[i.toNat * 1 + j]? = some u := scalar_own 0 h i h0 h2
theorem Ty.bool_own {I : Imm} {cs : List Value} {l : List Bool} (h : Reps Ty.bool I l cs) (i : Int) (h0 : 0 ≤ i) (h2 : i < (l.length : Int)) : ∀ j u, [Value.bool (l.getD i.toNat false)][j]? = some u → cs[i.toNat * 1 + j]? = some u := scalar_own false h i h0 h2
theorem Ty.string_own {I : Imm} {cs : List Value} {l : List ByteArray} (h : Reps Ty.string I l cs) (i : Int) (h0 : 0 ≤ i) (h2 : i < (l.length : Int)) : ∀ j u, [Value.string (l.getD i.toNat (⟨#[]⟩ : ByteArray))][j]? = some u → cs[i.toNat * 1 + j]? = some u := scalar_own _ h i h0 h2
theorem Ty.slice_own {α : Type} {d : Ty α} {I : Imm} {cs : List Value} {l : List (List α)} (h : Reps (Ty.slice d) I l cs) (i : Int) (h0 : 0 ≤ i) (h2 : i < (l.length : Int)) :
    ∃ (A1 : Option Addr) (c1 : Nat), (l.getD i.toNat []).length ≤ c1 ∧ Rd d I A1 (l.getD i.toNat []) ∧ ∀ j u, [Value.slice A1 (l.getD i.toNat []).length c1][j]? = some u → cs[i.toNat * 1 + j]? = some u := by
  obtain ⟨c, ⟨A1, c1, rfl, l1, r1⟩, hc⟩ := h.getE [] i h0 h2
  exact ⟨A1, c1, l1, r1, hc⟩

end Go.Proofs.Ytieakigoinebdaa.RW
