/- A walk's own words, fourth part: rows of the call's own by their cells; operations on rows. -/
import Derived.Test.YtieakigoinebdaaRWT
import Derived.IntWalk
namespace Go.Proofs.Ytieakigoinebdaa.RW
open Go Go.RowKit

/-- A row that the call owns: its value is '.slice A n c', its cells are cs. -/
def orow (e : TypeId) (sz : Nat) (A : Option Addr) (n c : Nat) (cs : List Value) : Res where
  fp := fun k => ∃ a : Addr, A = some a ∧ a.block = k
  P := fun _ w => w.ownsRow 0 e sz (.slice A n c) n cs
  stable := by
    rintro I w w' hk ho
    refine ⟨ho.1, ?_⟩
    rcases ho.2 with h | ⟨g, cap, cur, e1, hb, hg, r⟩
    · exact .inl h
    · refine .inr ⟨g, cap, cur, e1, hb, ?_, r⟩
      injection e1 with e1
      rw [hk g ⟨_, e1, rfl⟩]
      exact hg
  ext := fun _ _ _ _ h => h

section
variable {P : Program} {c : Code} {Q : Exit → Act → World → Prop} {A : Fr} {K : List (Nat × Value)} {B : Base} {I : Imm} {nx : Nat} {L : List Blk} {X : List Res} {os : List Oper} {p : Nat}

theorem Sat.own_P {w : World} (h : Sat B I nx L X w) {m : Nat} {e : TypeId} {sz : Nat} {A : Option Addr} {n c : Nat} {cs : List Value} (hm : X[m]? = some (orow e sz A n c cs)) : w.ownsRow 0 e sz (.slice A n c) n cs :=
  h.res _ (List.mem_of_getElem? hm)

/-- One piece of memory is written: it takes another's place. -/
theorem Sat.replace {w w' : World} (h : Sat B I nx L X w) {m : Nat} {r : Res} (hm : X[m]? = some r) (r' : Res)
    (h1 : w'.os = w.os) (h2 : w'.tape = w.tape) (h3 : w'.output = w.output) (h4 : w.heap.size ≤ w'.heap.size) (h5 : ∀ k, k < nx → ¬ r.fp k → w'.heap[k]? = w.heap[k]?)
    (hP : r'.P I w') (hfp : ∀ k, r'.fp k → r.fp k ∨ nx ≤ k) (hlt : ∀ k, r'.fp k → k < w'.heap.size) : Sat B I w'.heap.size L (X.set m r') w' := by
  have hrm := List.mem_of_getElem? hm
  obtain ⟨hml, hme⟩ := List.getElem?_eq_some_iff.1 hm
  have hnx := h.hnx
  have hmem : ∀ q ∈ X.set m r', q = r' ∨ ∃ (j : Nat) (hj : j < X.length), j ≠ m ∧ X[j] = q := by
    intro q hq
    obtain ⟨j, hj, hjq⟩ := List.getElem_of_mem hq
    rw [List.length_set] at hj
    rw [List.getElem_set] at hjq
    split at hjq
    · exact .inl hjq.symm
    · rename_i hne
      exact .inr ⟨j, hj, fun e => hne e.symm, hjq⟩
  have hdis : ∀ (j : Nat) (hj : j < X.length), j ≠ m → ∀ k, X[j].fp k → ¬ r.fp k := by
    intro j hj hne k hk hk'
    have hp := List.pairwise_iff_getElem.1 h.rdis
    rcases Nat.lt_or_gt_of_ne hne with hlt | hlt
    · exact hp j m hj hml hlt k hk (by rw [hme]; exact hk')
    · exact hp m j hml hj hlt k (by rw [hme]; exact hk') hk
  have hoB : ∀ k, r.fp k → B.w0.heap.size ≤ k ∨ B.S k := fun k hk => (h.rown r hrm k hk).2
  refine ⟨⟨h1.trans h.evo.os, h2.trans h.evo.tape, h3.trans h.evo.output, Nat.le_trans h.evo.size h4, fun k hk hs => ?_⟩, rfl, ?_, h.own, h.ne, ?_, ?_, ?_, ?_, ?_, h.imL, ?_, h.le, h.inew⟩
  · have hnr : ¬ r.fp k := fun e => by
      rcases hoB k e with h6 | h6
      · omega
      · exact hs h6
    rw [h5 k (by rw [← hnx]; exact Nat.lt_of_lt_of_le hk h.evo.size) hnr]
    exact h.evo.blk k hk hs
  · intro b hb
    rw [h5 b.g (h.lt hb) (h.rblk r hrm b hb)]
    exact h.blk b hb
  · intro q hq
    rcases hmem q hq with rfl | ⟨j, hj, hne, rfl⟩
    · exact hP
    · exact X[j].stable I w w' (fun k hk => h5 k (h.rown _ (List.getElem_mem hj) k hk).1 (hdis j hj hne k hk)) (h.res _ (List.getElem_mem hj))
  · intro q hq k hk
    rcases hmem q hq with rfl | ⟨j, hj, hne, rfl⟩
    · refine ⟨hlt k hk, ?_⟩
      rcases hfp k hk with h6 | h6
      · exact hoB k h6
      · left
        have := h.evo.size
        omega
    · have := h.rown _ (List.getElem_mem hj) k hk
      exact ⟨by omega, this.2⟩
  · rw [List.pairwise_iff_getElem]
    intro x y hx hy hxy
    rw [List.length_set] at hx hy
    have hp := List.pairwise_iff_getElem.1 h.rdis x y hx hy hxy
    rw [List.getElem_set, List.getElem_set]
    by_cases e1 : m = x
    · subst e1
      rw [if_pos rfl, if_neg (by omega)]
      intro k hk hk'
      rcases hfp k hk with h6 | h6
      · exact hdis y hy (by omega) k hk' h6
      · have := (h.rown _ (List.getElem_mem hy) k hk').1
        omega
    · rw [if_neg e1]
      by_cases e2 : m = y
      · subst e2
        rw [if_pos rfl]
        intro k hk hk'
        rcases hfp k hk' with h6 | h6
        · exact hdis x hx (by omega) k hk h6
        · have := (h.rown _ (List.getElem_mem hx) k hk).1
          omega
      · rw [if_neg e2]
        exact hp
  · intro q hq b hb hk
    rcases hmem q hq with rfl | ⟨j, hj, hne, rfl⟩
    · rcases hfp _ hk with h6 | h6
      · exact h.rblk r hrm b hb h6
      · have := h.lt hb
        omega
    · exact h.rblk _ (List.getElem_mem hj) b hb hk
  · intro a v ha
    have hc := h.im a v ha
    rw [← hc]
    exact look_of_block (w := w) (h5 _ (by rw [← hnx]; exact look_lt hc) (h.imX a v ha r hrm))
  · intro a v ha q hq hk
    rcases hmem q hq with rfl | ⟨j, hj, hne, rfl⟩
    · rcases hfp _ hk with h6 | h6
      · exact h.imX a v ha r hrm h6
      · have := look_lt (h.im a v ha)
        omega
    · exact h.imX a v ha _ (List.getElem_mem hj) hk

/-- A cell of a row of the call's own. -/
theorem RFacts.row {R : List (Addr × Value)} (xi : Nat) {e : TypeId} {sz : Nat} {g n cap : Nat} {cs : List Value} (hX : X[xi]? = some (orow e sz (some ⟨g, 0, none⟩) n cap cs)) (j : Nat) {v : Value} (hv : cs[j]? = some v) (hR : RFacts B I X R) : RFacts B I X ((⟨g, j, none⟩, v) :: R) := by
  intro nx L w hs r hr
  rcases List.mem_cons.1 hr with rfl | hr
  · have ho := hs.own_P hX
    have hj : j < n * sz := by rw [← ho.1]; exact (List.getElem?_eq_some_iff.1 hv).1
    rw [ho.cellAt j hj]
    exact hv
  · exact hR nx L w hs r hr

/-! ### addresses of elements -/
theorem run_indexAt_slice {T e : TypeId} {sz : Nat} (hu : P.underlying T = some (.slice e)) (hz : (P.info? e).map (·.size) = some sz) (k : IntKind) (i : Int) (g o n c : Nat) (h0 : 0 ≤ i) (h1 : i < (n : Int)) (w : World) :
    (Instr.indexAt T (.slice (some ⟨g, o, none⟩) n c) (.int k i)).run P w = .ok (.pointer (some ⟨g, o + i.toNat * sz, none⟩)) w := by
  obtain ⟨inf, hi, hsz⟩ := Option.map_eq_some_iff.1 hz
  have hadd : (⟨g, o, none⟩ : Addr).add (i.toNat * sz) = ⟨g, o + i.toNat * sz, none⟩ := by
    unfold Addr.add
    split
    · rename_i h; rw [h]; rfl
    · rfl
  simp [Instr.indexAt, asIntOf, run_underlying hu, sizeOf, typeInfo, hi, h0, h1, hsz, hadd]
theorem run_indexAt_array {T e : TypeId} {sz n : Nat} (hu : P.underlying T = some (.array n e)) (hz : (P.info? e).map (·.size) = some sz) (k : IntKind) (i : Int) (g o : Nat) (h0 : 0 ≤ i) (h1 : i < (n : Int)) (w : World) :
    (Instr.indexAt T (.pointer (some ⟨g, o, none⟩)) (.int k i)).run P w = .ok (.pointer (some ⟨g, o + i.toNat * sz, none⟩)) w := by
  obtain ⟨inf, hi, hsz⟩ := Option.map_eq_some_iff.1 hz
  have hadd : (⟨g, o, none⟩ : Addr).add (i.toNat * sz) = ⟨g, o + i.toNat * sz, none⟩ := by
    unfold Addr.add
    split
    · rename_i h; rw [h]; rfl
    · rfl
  simp [Instr.indexAt, Instr.sureAddr, asIntOf, run_underlying hu, sizeOf, typeInfo, hi, h0, h1, hsz, hadd]

def toNext (s : Sem Value) : Sem Next := s.bind fun v => .pure (.value v)
theorem run_toNext {s : Sem Value} {w w' : World} {v : Value} (h : s.run P w = .ok v w') : (toNext s).run P w = .ok (.value v) w' := by
  unfold toNext
  rw [Sem.run_bind', h]
  rfl

theorem RL.idx {K' : List (Nat × Value)} {T e : TypeId} (sz : Nat) (k : IntKind) (i : Int) {S : Option Addr} {g o : Nat} (hA : S = some ⟨g, o, none⟩) (n cap : Nat) (d : Option Tmp)
    (hl : ready os p K d = true)
    (hx : execOp (evalK K) (os.getD p default) = toNext (Instr.indexAt T (.slice S n cap) (.int k i)))
    (hu : P.underlying T = some (.slice e)) (hz : (P.info? e).map (·.size) = some sz) (h0 : 0 ≤ i) (h1 : i < (n : Int)) (hF : putK A K d (.pointer (some ⟨g, o + i.toNat * sz, none⟩)) = K')
    (kk : RL P os Q (p + 1) A K' B I nx L X) : RL P os Q p A K B I nx L X :=
  RL.quiet d _ hl hF (fun w _ => by rw [hx, hA]; exact run_toNext (run_indexAt_slice hu hz k i g o n cap h0 h1 w)) kk
theorem RL.idxArr {K' : List (Nat × Value)} {T e : TypeId} (sz : Nat) (k : IntKind) (i : Int) (g o n : Nat) (d : Option Tmp)
    (hl : ready os p K d = true)
    (hx : execOp (evalK K) (os.getD p default) = toNext (Instr.indexAt T (.pointer (some ⟨g, o, none⟩)) (.int k i)))
    (hu : P.underlying T = some (.array n e)) (hz : (P.info? e).map (·.size) = some sz) (h0 : 0 ≤ i) (h1 : i < (n : Int)) (hF : putK A K d (.pointer (some ⟨g, o + i.toNat * sz, none⟩)) = K')
    (kk : RL P os Q (p + 1) A K' B I nx L X) : RL P os Q p A K B I nx L X :=
  RL.quiet d _ hl hF (fun w _ => by rw [hx]; exact run_toNext (run_indexAt_array hu hz k i g o h0 h1 w)) kk

/-! ### numbers -/
theorem RL.quo {K' : List (Nat × Value)} (k : IntKind) (x y : Int) (d : Option Tmp)
    (hl : ready os p K d = true)
    (hx : execOp (evalK K) (os.getD p default) = toNext (Op.intDiv .quo k x y)) (hy : y ≠ 0) (hF : putK A K d (.int k (k.wrap (x.tdiv y))) = K')
    (kk : RL P os Q (p + 1) A K' B I nx L X) : RL P os Q p A K B I nx L X :=
  RL.quiet d _ hl hF (fun w _ => by rw [hx]; refine run_toNext ?_; unfold Op.intDiv; rw [if_neg hy]; rfl) kk
theorem RL.rem {K' : List (Nat × Value)} (k : IntKind) (x y : Int) (d : Option Tmp)
    (hl : ready os p K d = true)
    (hx : execOp (evalK K) (os.getD p default) = toNext (Op.intDiv .rem k x y)) (hy : y ≠ 0) (hF : putK A K d (.int k (x.tmod y)) = K')
    (kk : RL P os Q (p + 1) A K' B I nx L X) : RL P os Q p A K B I nx L X :=
  RL.quiet d _ hl hF (fun w _ => by rw [hx]; refine run_toNext ?_; unfold Op.intDiv; rw [if_neg hy]; rfl) kk
theorem RL.shl {K' : List (Nat × Value)} (k yk : IntKind) (x y : Int) (d : Option Tmp)
    (hl : ready os p K d = true)
    (hx : execOp (evalK K) (os.getD p default) = toNext (Op.shift .shl k x yk y)) (hy : 0 ≤ y) (hF : putK A K d (.int k (k.wrap (x * 2 ^ (min y.toNat k.bits)))) = K')
    (kk : RL P os Q (p + 1) A K' B I nx L X) : RL P os Q p A K B I nx L X :=
  RL.quiet d _ hl hF (fun w _ => by rw [hx]; refine run_toNext ?_; unfold Op.shift; rw [if_neg (by omega)]; rfl) kk
theorem RL.shr {K' : List (Nat × Value)} (k yk : IntKind) (x y : Int) (d : Option Tmp)
    (hl : ready os p K d = true)
    (hx : execOp (evalK K) (os.getD p default) = toNext (Op.shift .shr k x yk y)) (hy : 0 ≤ y) (hF : putK A K d (.int k (x.fdiv (2 ^ (min y.toNat k.bits)))) = K')
    (kk : RL P os Q (p + 1) A K' B I nx L X) : RL P os Q p A K B I nx L X :=
  RL.quiet d _ hl hF (fun w _ => by rw [hx]; refine run_toNext ?_; unfold Op.shift; rw [if_neg (by omega)]; rfl) kk

/-- The byte of a string at i. -/
def sb (s : ByteArray) (i : Int) : Int := match s[i.toNat]? with | some b => b.toNat | none => 0
theorem RL.strIdx {K' : List (Nat × Value)} {T : TypeId} (k : IntKind) (s : ByteArray) (i : Int) (d : Option Tmp)
    (hl : ready os p K d = true)
    (hx : execOp (evalK K) (os.getD p default) = toNext (Instr.index T (.string s) (.int k i))) (hu : P.underlying T = some .string)
    (h0 : 0 ≤ i) (h1 : i < (s.size : Int)) (hF : putK A K d (.int .u8 (sb s i)) = K')
    (kk : RL P os Q (p + 1) A K' B I nx L X) : RL P os Q p A K B I nx L X :=
  RL.quiet d _ hl hF (fun w _ => by
    rw [hx]
    refine run_toNext ?_
    have h2 : i.toNat < s.size := by omega
    have h3 : s[i.toNat]? = some s[i.toNat] := getElem?_pos s i.toNat h2
    simp [Instr.index, asIntOf, run_underlying hu, h0, h3, sb]) kk

/-! ### an append to a row of the call's own -/
theorem RL.append {T e : TypeId} {S S2 : Option Addr} (sz bytes : Nat) (ty : TypeId) (n cap m c2 : Nat) (cs news : List Value) (xi : Nat) (d : Option Tmp)
    (hl : ready os p K d = true)
    (hx : execOp (evalK K) (os.getD p default) = toNext (Builtin.append_ #[T, T] ty #[.slice S n cap, .slice S2 m c2]))
    (hu : P.underlying T = some (.slice e)) (inf : TypeInfo) (hi : P.info? e = some inf) (z : Value) (hz : inf.zero = some z) (hsz : inf.size = sz) (hby : inf.bytes = bytes) (hzs : z.cells.size = sz) (hsz0 : 0 < sz)
    (hX : X[xi]? = some (orow e sz S n cap cs))
    (hlen : news.length = m * sz) (hone : ∀ u ∈ news, u.oneCell' = true)
    (hn : ∀ w, Sat B I nx L X w → ∃ a : Addr, S2 = some a ∧ ∀ j u, news[j]? = some u → w.cell? (a.add j) = some u)
    (hbytes : (n + m) * bytes ≤ 140737488355328) (hmax : n + m ≤ 9223372036854775807)
    (kk : ∀ (S' : Option Addr) (c' nx' : Nat), RL P os Q (p + 1) A (putK A K d (.slice S' (n + m) c')) B I nx' L (X.set xi (orow e sz S' (n + m) c' (cs ++ news)))) : RL P os Q p A K B I nx L X := by
  refine RL.one d (fun v w' => ∃ (S' : Option Addr) (c' : Nat), v = .slice S' (n + m) c' ∧ Sat B I w'.heap.size L (X.set xi (orow e sz S' (n + m) c' (cs ++ news))) w') hl (fun w hs => ?_) (fun v w' hK a' ha' => ?_)
  · obtain ⟨a, rfl, hcells⟩ := hn w hs
    obtain ⟨v', w', hr, ho, hg, _, hb⟩ := run_append_own_at (P := P) w 0 T ty e inf z sz bytes hu hi hz hsz hby hzs hsz0 (.slice S n cap) n cs (hs.own_P hX) a m c2 news hlen hcells hone (by simp only [maxLen]; omega) hbytes (Nat.zero_le _)
    have hv : ∃ S' c', v' = .slice S' (n + m) c' := by
      rcases ho.2 with ⟨h1, h2⟩ | ⟨g, cap', cur, h1, _⟩
      · exact ⟨none, 0, by rw [h1, h2]⟩
      · exact ⟨_, _, h1⟩
    obtain ⟨S', c', rfl⟩ := hv
    refine ⟨_, w', by rw [hx]; exact run_toNext hr, S', c', rfl, ?_⟩
    have hfp : ∀ k, (orow e sz S' (n + m) c' (cs ++ news)).fp k → (Value.slice S' (n + m) c').ownBlock = some k := by
      rintro k ⟨a', rfl, rfl⟩
      rfl
    refine hs.replace hX (orow e sz S' (n + m) c' (cs ++ news)) hg.os hg.tape hg.output hg.size (fun k hk hf => hg.block k (by rw [hs.hnx]; exact hk) ?_) ho (fun k hk => ?_) (fun k hk => (ho.lt k (hfp k hk)).2)
    · intro e1
      apply hf
      cases S with
      | none => simp [Value.ownBlock] at e1
      | some a' =>
        simp only [Value.ownBlock, Option.some.injEq] at e1
        exact ⟨a', rfl, e1.symm⟩
    · have h1 := hfp k hk
      rcases hb with h2 | h2
      · left
        rw [h1] at h2
        cases S with
        | none => simp [Value.ownBlock] at h2
        | some a' =>
          simp only [Value.ownBlock, Option.some.injEq] at h2
          exact ⟨a', rfl, h2.symm⟩
      · right
        rw [h1] at h2
        injection h2 with h2
        rw [h2, hs.hnx]
        exact Nat.le_refl _
  · obtain ⟨S', c', rfl, hs⟩ := hK
    exact kk S' c' _ a' w' ha' hs

/-- What is appended lies in a known block. -/
theorem news_blk {w : World} (hs : Sat B I nx L X w) {i g : Nat} {cs : List Value} {ty : TypeId} (h : L[i]? = some ⟨g, cs, ty⟩) : ∃ a : Addr, (some (⟨g, 0, none⟩ : Addr)) = some a ∧ ∀ j u, cs[j]? = some u → w.cell? (a.add j) = some u := by
  refine ⟨_, rfl, fun j u hu => ?_⟩
  have hadd : (⟨g, 0, none⟩ : Addr).add j = ⟨g, j, none⟩ := by
    unfold Addr.add
    split
    · rename_i h; rw [h]
    · simp
  rw [hadd, hs.cell h rfl rfl]
  exact hu
/-- What is appended never turns. -/
theorem news_rd {α : Type} {d : Ty α} {w : World} (hs : Sat B I nx L X w) {A : Option Addr} {xs : List α} (h : Rd d I A xs) (hne : xs ≠ []) : ∃ cs, Reps d I xs cs ∧ ∃ a : Addr, A = some a ∧ ∀ j u, cs[j]? = some u → w.cell? (a.add j) = some u := by
  obtain ⟨g, o, rfl, hc⟩ := h.2 hne
  have key : ∀ (ys : List α) (n0 : Nat), (∀ j x, ys[j]? = some x → ∃ c, d.K I x c ∧ ∀ i u, c[i]? = some u → I ⟨g, o + (n0 + j) * d.sz + i, none⟩ = some u) → ∃ cs, Reps d I ys cs ∧ ∀ j u, cs[j]? = some u → I ⟨g, o + n0 * d.sz + j, none⟩ = some u := by
    intro ys
    induction ys with
    | nil => intro n0 _; exact ⟨[], rfl, fun j u hu => by simp at hu⟩
    | cons y ys ih =>
      intro n0 hy
      obtain ⟨c0, hk0, hc0⟩ := hy 0 y rfl
      obtain ⟨c1, hk1, hc1⟩ := ih (n0 + 1) (fun j x hj => by
        have := hy (j + 1) x hj
        rwa [show n0 + (j + 1) = n0 + 1 + j from by omega] at this)
      refine ⟨c0 ++ c1, ⟨c0, c1, rfl, hk0, hk1⟩, fun j u hu => ?_⟩
      rcases Nat.lt_or_ge j c0.length with hlt | hge
      · rw [List.getElem?_append_left hlt] at hu
        exact hc0 j u hu
      · rw [List.getElem?_append_right hge] at hu
        have := hc1 _ u hu
        have hl := d.len hk0
        rwa [show o + (n0 + 1) * d.sz + (j - c0.length) = o + n0 * d.sz + j from by rw [Nat.succ_mul]; omega] at this
  obtain ⟨cs, hr, hcells⟩ := key xs 0 (fun j x hj => by
    have := hc j x hj
    rwa [show 0 + j = j from by omega])
  refine ⟨cs, hr, _, rfl, fun j u hu => (look_cell (by unfold Addr.add; split <;> rfl)).symm.trans (hs.im _ _ ?_)⟩
  have hadd : (⟨g, o, none⟩ : Addr).add j = ⟨g, o + j, none⟩ := by
    unfold Addr.add
    split
    · rename_i h; rw [h]; rfl
    · rfl
  rw [hadd]
  have := hcells j u hu
  rwa [Nat.zero_mul, Nat.add_zero] at this
end

theorem gotNil1 {w w' : World} {I J : Imm} {e : TypeId} {sz : Nat} (h : Got w w' I J []) : Got w w' I J [orow e sz none 0 0 []] :=
  ⟨h.evo, h.le, h.im, h.inew, (fun r hr => by rw [List.mem_singleton.1 hr]; exact World.ownsRow_nil w' 0 e sz), (fun r hr k hk => by rw [List.mem_singleton.1 hr] at hk; obtain ⟨a, ha, _⟩ := hk; cases ha), List.pairwise_singleton _ _,
    (fun a v _ r hr hk => by rw [List.mem_singleton.1 hr] at hk; obtain ⟨a, ha, _⟩ := hk; cases ha)⟩

/-! ### elements -/
section
variable {I : Imm} {A : Option Addr}
theorem scalar_at {α : Type} (z : α) {enc : α → Value} {h1 : ∀ x, (enc x).oneCell' = true} {xs : List α} (h : Rd (Ty.scalar enc h1) I A xs) (i : Int) (h0 : 0 ≤ i) (h2 : i < (xs.length : Int)) :
    ∃ g o, A = some ⟨g, o, none⟩ ∧ ∀ j u, [enc (xs.getD i.toNat z)][j]? = some u → I ⟨g, o + i.toNat * 1 + j, none⟩ = some u := by
  obtain ⟨g, o, c, e, hk, hc⟩ := h.get z i h0 h2
  have hk' : c = [enc (xs.getD i.toNat z)] := hk
  subst hk'
  exact ⟨g, o, e, hc⟩
theorem scalar_at' {α : Type} (z : α) {enc : α → Value} {h1 : ∀ x, (enc x).oneCell' = true} {g o : Nat} {xs : List α} (h : Rd (Ty.scalar enc h1) I (some ⟨g, o, none⟩) xs) (i : Int) (h0 : 0 ≤ i) (h2 : i < (xs.length : Int)) :
    ∀ j u, [enc (xs.getD i.toNat z)][j]? = some u → I ⟨g, o + i.toNat * 1 + j, none⟩ = some u := by
  obtain ⟨g', o', e, r⟩ := scalar_at z h i h0 h2
  injection e with e
  injection e with e1 e2
  subst e1; subst e2
  exact r
end
theorem Ty.int_at {k : IntKind} {I : Imm} {A : Option Addr} {xs : List Int} (h : Rd (Ty.int k) I A xs) (i : Int) (h0 : 0 ≤ i) (h2 : i < (xs.length : Int)) : ∃ g o, A = some ⟨g, o, none⟩ ∧ ∀ j u, [Value.int k (xs.getD i.toNat 0)][j]? = some u → I ⟨g, o + i.toNat * 1 + j, none⟩ = some u := scalar_at 0 h i h0 h2
theorem Ty.int_at' {k : IntKind} {I : Imm} {g o : Nat} {xs : List Int} (h : Rd (Ty.int k) I (some ⟨g, o, none⟩) xs) (i : Int) (h0 : 0 ≤ i) (h2 : i < (xs.length : Int)) : ∀ j u, [Value.int k (xs.getD i.toNat 0)][j]? = some u → I ⟨g, o + i.toNat * 1 + j, none⟩ = some u := scalar_at' 0 h i h0 h2
theorem Ty.bool_at {I : Imm} {A : Option Addr} {xs : List Bool} (h : Rd Ty.bool I A xs) (i : Int) (h0 : 0 ≤ i) (h2 : i < (xs.length : Int)) : ∃ g o, A = some ⟨g, o, none⟩ ∧ ∀ j u, [Value.bool (xs.getD i.toNat false)][j]? = some u → I ⟨g, o + i.toNat * 1 + j, none⟩ = some u := scalar_at false h i h0 h2
theorem Ty.bool_at' {I : Imm} {g o : Nat} {xs : List Bool} (h : Rd Ty.bool I (some ⟨g, o, none⟩) xs) (i : Int) (h0 : 0 ≤ i) (h2 : i < (xs.length : Int)) : ∀ j u, [Value.bool (xs.getD i.toNat false)][j]? = some u → I ⟨g, o + i.toNat * 1 + j, none⟩ = some u := scalar_at' false h i h0 h2
theorem Ty.string_at {I : Imm} {A : Option Addr} {xs : List ByteArray} (h : Rd Ty.string I A xs) (i : Int) (h0 : 0 ≤ i) (h2 : i < (xs.length : Int)) : ∃ g o, A = some ⟨g, o, none⟩ ∧ ∀ j u, [Value.string (xs.getD i.toNat (⟨#[]⟩ : ByteArray))][j]? = some u → I ⟨g, o + i.toNat * 1 + j, none⟩ = some u := scalar_at _ h i h0 h2
theorem Ty.string_at' {I : Imm} {g o : Nat} {xs : List ByteArray} (h : Rd Ty.string I (some ⟨g, o, none⟩) xs) (i : Int) (h0 : 0 ≤ i) (h2 : i < (xs.length : Int)) : ∀ j u, [Value.string (xs.getD i.toNat (⟨#[]⟩ : ByteArray))][j]? = some u → I ⟨g, o + i.toNat * 1 + j, none⟩ = some u := scalar_at' _ h i h0 h2
theorem Ty.slice_at {α : Type} {d : Ty α} {I : Imm} {A : Option Addr} {xs : List (List α)} (h : Rd (Ty.slice d) I A xs) (i : Int) (h0 : 0 ≤ i) (h2 : i < (xs.length : Int)) :
    ∃ g o, A = some ⟨g, o, none⟩ ∧ ∃ (A1 : Option Addr) (c1 : Nat), (xs.getD i.toNat []).length ≤ c1 ∧ Rd d I A1 (xs.getD i.toNat []) ∧ ∀ j u, [Value.slice A1 (xs.getD i.toNat []).length c1][j]? = some u → I ⟨g, o + i.toNat * 1 + j, none⟩ = some u := by
  obtain ⟨g, o, c, e, ⟨A1, c1, rfl, l1, r1⟩, hc⟩ := h.get [] i h0 h2
  exact ⟨g, o, e, A1, c1, l1, r1, hc⟩
theorem Ty.slice_at' {α : Type} {d : Ty α} {I : Imm} {g o : Nat} {xs : List (List α)} (h : Rd (Ty.slice d) I (some ⟨g, o, none⟩) xs) (i : Int) (h0 : 0 ≤ i) (h2 : i < (xs.length : Int)) :
    ∃ (A1 : Option Addr) (c1 : Nat), (xs.getD i.toNat []).length ≤ c1 ∧ Rd d I A1 (xs.getD i.toNat []) ∧ ∀ j u, [Value.slice A1 (xs.getD i.toNat []).length c1][j]? = some u → I ⟨g, o + i.toNat * 1 + j, none⟩ = some u := by
  obtain ⟨g', o', e, r⟩ := Ty.slice_at h i h0 h2
  injection e with e
  injection e with e1 e2
  subst e1; subst e2
  exact r

/-! ### numbers, as the plain functions name them -/
def W (k : IntKind) (x : Int) : Int := k.wrap x
def bAnd (k : IntKind) (x y : Int) : Int := k.wrap ((BitVec.ofInt k.bits x &&& BitVec.ofInt k.bits y).toNat : Int)
def bOr (k : IntKind) (x y : Int) : Int := k.wrap ((BitVec.ofInt k.bits x ||| BitVec.ofInt k.bits y).toNat : Int)
def bXor (k : IntKind) (x y : Int) : Int := k.wrap ((BitVec.ofInt k.bits x ^^^ BitVec.ofInt k.bits y).toNat : Int)
def bClr (k : IntKind) (x y : Int) : Int := k.wrap ((BitVec.ofInt k.bits x &&& ~~~ BitVec.ofInt k.bits y).toNat : Int)
def iMax (x y : Int) : Int := if y > x then y else x
def iMin (x y : Int) : Int := if y < x then y else x

end Go.Proofs.Ytieakigoinebdaa.RW
