/- A walk's own words, eighth part: appends of rows that never turn, parts of rows, conversions between strings and bytes. -/
import Derived.Test.YtieakigoinebdaaRWE
import Derived.Deep.Upon
import Derived.Laws.Slices
namespace Go.Proofs.Ytieakigoinebdaa.RW
open Go Go.RowKit

section
variable {P : Program} {c : Code} {Q : Exit → Act → World → Prop} {A : Fr} {K : List (Nat × Value)} {B : Base} {I : Imm} {nx : Nat} {L : List Blk} {X : List Res} {os : List Oper} {p : Nat}

theorem Sat.nilRow {w : World} (h : Sat B I nx L X w) (e : TypeId) (sz : Nat) : Sat B I nx L (X ++ [orow e sz none 0 0 []]) w := by
  have hfp : ∀ k, ¬ (orow e sz none 0 0 []).fp k := fun k hk => by obtain ⟨a, ha, _⟩ := hk; cases ha
  refine ⟨h.evo, h.hnx, h.blk, h.own, h.ne, ?_, ?_, ?_, ?_, h.im, h.imL, ?_, h.le, h.inew⟩
  · intro r hr
    rcases List.mem_append.1 hr with hr | hr
    · exact h.res r hr
    · rw [List.mem_singleton.1 hr]; exact World.ownsRow_nil w 0 e sz
  · intro r hr k hk
    rcases List.mem_append.1 hr with hr | hr
    · exact h.rown r hr k hk
    · rw [List.mem_singleton.1 hr] at hk; exact absurd hk (hfp k)
  · rw [List.pairwise_append]
    refine ⟨h.rdis, List.pairwise_singleton _ _, fun a _ b hb k _ hk => ?_⟩
    rw [List.mem_singleton.1 hb] at hk
    exact hfp k hk
  · intro r hr b hb hk
    rcases List.mem_append.1 hr with hr | hr
    · exact h.rblk r hr b hb hk
    · rw [List.mem_singleton.1 hr] at hk; exact hfp _ hk
  · intro a v ha r hr hk
    rcases List.mem_append.1 hr with hr | hr
    · exact h.imX a v ha r hr hk
    · rw [List.mem_singleton.1 hr] at hk; exact hfp _ hk
theorem RL.nilRow (e : TypeId) (sz : Nat) (k : RL P os Q p A K B I nx L (X ++ [orow e sz none 0 0 []])) : RL P os Q p A K B I nx L X := fun a w ha hs => k a w ha (hs.nilRow e sz)
theorem OK.nilRow (e : TypeId) (sz : Nat) (k : OK P c Q A K B I nx L (X ++ [orow e sz none 0 0 []])) : OK P c Q A K B I nx L X := fun a w ha hs => k a w ha (hs.nilRow e sz)

theorem QN.nilRow {e0 : Exit} (e : TypeId) (sz : Nat) (k : QN Q e0 A K B I nx L (X ++ [orow e sz none 0 0 []])) : QN Q e0 A K B I nx L X := fun a w ha hs => k a w ha (hs.nilRow e sz)
theorem QN.toRow {e0 : Exit} {b : Blk} (i n sz : Nat) (hi : L[i]? = some b) (hn : b.cs.length = n * sz) (hl : n ≤ 9223372036854775807)
    (k : QN Q e0 A K B I nx (L.eraseIdx i) (X ++ [orow b.ty sz (some ⟨b.g, 0, none⟩) n n b.cs])) : QN Q e0 A K B I nx L X := fun a w ha hs => k a w ha (hs.toRow hi hn hl)
theorem QN.norm {e0 : Exit} {K' : List (Nat × Value)} {nx' : Nat} {L' : List Blk} {X' : List Res} (hK : K = K') (hn : nx = nx') (hL : L = L') (hX : X = X') (k : QN Q e0 A K' B I nx' L' X') : QN Q e0 A K B I nx L X := by
  subst hK; subst hn; subst hL; subst hX
  exact k
theorem QN.freeze {e0 : Exit} {α : Type} {d : Ty α} {l : List α} {e : TypeId} {sz : Nat} {S : Option Addr} {n cap : Nat} {cs : List Value} (m : Nat) (hm : X[m]? = some (orow e sz S n cap cs)) (hr : Reps d I l cs) (hn : l.length = n) (hS : ∀ k, B.S k → ∃ b ∈ L, b.g = k)
    (k : ∀ J, I.le J → n ≤ cap → Rd d J S l → QN Q e0 A K B J nx L (X.eraseIdx m)) : QN Q e0 A K B I nx L X := by
  intro a w ha hs
  obtain ⟨J, h1, h2, h3, h4⟩ := hs.freeze hm hr hn hS
  exact k J h1 h2 h3 a w ha h4
theorem QN.freezeL {e0 : Exit} {α : Type} {d : Ty α} {l : List α} {b : Blk} (i : Nat) (hi : L[i]? = some b) (hr : Reps d I l b.cs) (hl : l.length ≤ 9223372036854775807) (hB : ∀ w, Sat B I nx L X w → B.w0.heap.size ≤ b.g)
    (k : ∀ J, I.le J → Rd d J (some ⟨b.g, 0, none⟩) l → QN Q e0 A K B J nx (L.eraseIdx i) X) : QN Q e0 A K B I nx L X := by
  intro a w ha hs
  obtain ⟨J, h1, h2, h3⟩ := hs.freezeL hi hr hl (hB w hs)
  exact k J h1 h2 a w ha h3
theorem src_none {size : Nat} {tx e' : TypeId} (hk : P.underlying tx = some (.slice e')) (S : Option Addr) (cc : Nat) (w : World) : Src P size tx (.slice S 0 cc) 0 [] w := by
  refine ⟨.inl ⟨e', hk⟩, fun w' => by simp [Builtin.lenOf], ?_, ?_, by simp, fun u hu => by cases hu⟩
  · cases S <;> simp [Builtin.firstCells, loadCells, loadCellsFrom]
  · cases S <;> simp [Builtin.firstCells, loadCells, loadCellsFrom]

/-- An append of a row that never turns. -/
theorem RL.appendRd {α : Type} {T e : TypeId} {S S2 : Option Addr} (sz bytes : Nat) (ty : TypeId) (n cap c2 : Nat) (cs : List Value) (dt : Ty α) (ys : List α) (xi : Nat) (d : Option Tmp)
    (hl : ready os p K d = true)
    (hx : execOp (evalK K) (os.getD p default) = toNext (Builtin.append_ #[T, T] ty #[.slice S n cap, .slice S2 ys.length c2]))
    (hu : P.underlying T = some (.slice e)) (inf : TypeInfo) (hi : P.info? e = some inf) (z : Value) (hz : inf.zero = some z) (hsz : inf.size = sz) (hby : inf.bytes = bytes) (hzs : z.cells.size = sz) (hsz0 : 0 < sz)
    (hX : X[xi]? = some (orow e sz S n cap cs)) (hy : Rd dt I S2 ys) (hd : dt.sz = sz)
    (hbytes : (n + ys.length) * bytes ≤ 140737488355328) (hmax : n + ys.length ≤ 9223372036854775807)
    (kk : ∀ (S' : Option Addr) (c' nx' : Nat) (news : List Value), Reps dt I ys news → RL P os Q (p + 1) A (putK A K d (.slice S' (n + ys.length) c')) B I nx' L (X.set xi (orow e sz S' (n + ys.length) c' (cs ++ news)))) : RL P os Q p A K B I nx L X := by
  by_cases hne : ys = []
  · subst hne
    refine RL.quiet d (.slice S n cap) hl rfl (fun w hs => ?_) ?_
    · rw [hx]
      refine run_toNext ?_
      have hcap : n ≤ cap := by
        have ho := hs.own_P hX
        rcases ho.2 with ⟨e1, h0⟩ | ⟨g', cap', cur, e1, _, hg, hc, _⟩
        · omega
        · injection e1 with _ _ e3; omega
      exact run_append_nothing w T T ty e inf hu hi S n cap hcap _ (src_none hu S2 c2 w)
    · have this : RL P os Q (p + 1) A (putK A K d (.slice S n cap)) B I nx L (X.set xi (orow e sz S n cap cs)) := by
        have := kk S cap nx [] rfl
        rwa [List.append_nil] at this
      have hset : X.set xi (orow e sz S n cap cs) = X := by
        obtain ⟨h1, h2⟩ := List.getElem?_eq_some_iff.1 hX
        rw [← h2]
        exact List.set_getElem_self h1
      rwa [hset] at this
  · intro a w ha hs
    obtain ⟨news, hr, hn⟩ := news_rd hs hy hne
    refine RL.append sz bytes ty n cap ys.length c2 cs news xi d hl hx hu inf hi z hz hsz hby hzs hsz0 hX (by rw [hr.len, hd]) (fun u hu => hr.one u hu) (fun w' hs' => ?_) hbytes hmax (fun S' c' nx' => kk S' c' nx' news hr) a w ha hs
    obtain ⟨news', hr', hn'⟩ := news_rd hs' hy hne
    obtain ⟨q, hq, hc⟩ := hn
    obtain ⟨g, o, rfl, hI⟩ := hy.2 hne
    refine ⟨q, hq, fun j u hj => ?_⟩
    injection hq with hq
    subst hq
    -- the same cells, whatever the world
    have hadd : ∀ j, (⟨g, o, none⟩ : Addr).add j = ⟨g, o + j, none⟩ := fun j => by
      unfold Addr.add
      split
      · rename_i h; rw [h]; rfl
      · rfl
    have h1 := hc j u hj
    have hjl : j < ys.length * dt.sz := by rw [← hr.len]; exact (List.getElem?_eq_some_iff.1 hj).1
    have hsz' : 0 < dt.sz := by omega
    have hq1 : j / dt.sz < ys.length := (Nat.div_lt_iff_lt_mul hsz').2 hjl
    obtain ⟨c0, hk0, hc0⟩ := hI (j / dt.sz) _ (List.getElem?_eq_getElem hq1)
    have hm : j % dt.sz < c0.length := by rw [dt.len hk0]; exact Nat.mod_lt _ hsz'
    have h2 := hc0 _ _ (List.getElem?_eq_getElem hm)
    have he : o + j / dt.sz * dt.sz + j % dt.sz = o + j := by rw [Nat.add_assoc, Nat.div_add_mod']
    rw [he] at h2
    have h3 : w.cell? ⟨g, o + j, none⟩ = _ := hs.im _ _ h2
    rw [hadd] at h1 ⊢
    rw [h1] at h3
    injection h3 with h3
    rw [h3]
    exact hs'.im _ _ h2

/-! ### parts of rows -/
def rpart {α : Type} (l : List α) (lo hi : Int) : List α := (l.drop lo.toNat).take (hi.toNat - lo.toNat)
theorem part_length {α : Type} {l : List α} {lo hi : Int} (h0 : 0 ≤ lo) (h1 : lo ≤ hi) (h2 : hi ≤ (l.length : Int)) : (rpart l lo hi).length = hi.toNat - lo.toNat := by
  unfold rpart
  rw [List.length_take, List.length_drop]
  omega
def slA (S : Option Addr) (l m s : Nat) : Option Addr := if m = l then S else S.map (·.add (l * s))
theorem rd_sub {α : Type} {d : Ty α} {l : List α} {S : Option Addr} {cap : Nat} {lo hi : Int} (h : Rd d I S l) (hc : l.length ≤ cap) (h0 : 0 ≤ lo) (h1 : lo ≤ hi) (h2 : hi ≤ (l.length : Int)) : Rd d I (slA S lo.toNat cap d.sz) (rpart l lo hi) := by
  by_cases hn : rpart l lo hi = []
  · rw [hn]; exact Rd.nil _ _ _
  · have hl := part_length h0 h1 h2
    have hlt : lo.toNat < l.length := by
      have : 0 < (rpart l lo hi).length := List.length_pos_iff.2 hn
      omega
    obtain ⟨g, o, rfl, hcell⟩ := h.2 (by rintro rfl; simp at hlt)
    have hadd : (⟨g, o, none⟩ : Addr).add (lo.toNat * d.sz) = ⟨g, o + lo.toNat * d.sz, none⟩ := by
      unfold Addr.add
      split
      · rename_i h; rw [h]; rfl
      · rfl
    have hA : slA (some ⟨g, o, none⟩) lo.toNat cap d.sz = some ⟨g, o + lo.toNat * d.sz, none⟩ := by
      unfold slA
      rw [if_neg (by omega), Option.map_some, hadd]
    rw [hA]
    exact (Rd.drop h lo.toNat).take _
theorem part_le {α : Type} {l : List α} {cap : Nat} {lo hi : Int} (hc : l.length ≤ cap) (h0 : 0 ≤ lo) (h1 : lo ≤ hi) (h2 : hi ≤ (l.length : Int)) : (rpart l lo hi).length ≤ cap - lo.toNat := by
  rw [part_length h0 h1 h2]; omega
theorem elem_of {T e : TypeId} (hu : P.underlying T = some (.slice e)) : P.underlying T = some (.slice (P.elem T)) ∧ P.elem T = e := by
  have : P.elem T = e := by simp [Program.elem, hu]
  exact ⟨by rw [this]; exact hu, this⟩
theorem run_sub {α : Type} {T e : TypeId} {sz : Nat} (hu : P.underlying T = some (.slice e)) (hz : (P.info? e).map (·.size) = some sz) {l : List α} {S : Option Addr} {cap : Nat} {lo hi : Int} (hc : l.length ≤ cap) (h0 : 0 ≤ lo) (h1 : lo ≤ hi) (h2 : hi ≤ (l.length : Int)) (w : World) (kl kh : IntKind) :
    (Instr.sliceAt T (.slice S l.length cap) (some (.int kl lo)) (some (.int kh hi)) none).run P w = .ok (.slice (slA S lo.toNat cap sz) (rpart l lo hi).length (cap - lo.toNat)) w := by
  obtain ⟨inf, hi', hsz⟩ := Option.map_eq_some_iff.1 hz
  obtain ⟨hu1, he⟩ := elem_of hu
  rw [run_sliceAt_slice w T _ _ _ _ hu1, run_slice_lh w T S l.length cap hu1 kl kh lo hi h0 h1 (by omega), he]
  simp only [sizeOf, typeInfo, hi', Sem.run_bind, Result.andThen, part_length h0 h1 h2]
  simp [hi', hsz, Result.andThen, sliced, slA]
theorem run_subH {α : Type} {T e : TypeId} {sz : Nat} (hu : P.underlying T = some (.slice e)) (hz : (P.info? e).map (·.size) = some sz) {l : List α} {S : Option Addr} {cap : Nat} {hi : Int} (hc : l.length ≤ cap) (h1 : 0 ≤ hi) (h2 : hi ≤ (l.length : Int)) (w : World) (kh : IntKind) :
    (Instr.sliceAt T (.slice S l.length cap) none (some (.int kh hi)) none).run P w = .ok (.slice (slA S (0 : Int).toNat cap sz) (rpart l 0 hi).length (cap - (0 : Int).toNat)) w := by
  obtain ⟨inf, hi', hsz⟩ := Option.map_eq_some_iff.1 hz
  obtain ⟨hu1, he⟩ := elem_of hu
  rw [run_sliceAt_slice w T _ _ _ _ hu1, run_slice_h w T S l.length cap hu1 kh hi h1 (by omega), he]
  simp only [sizeOf, typeInfo, hi', Sem.run_bind, Result.andThen, part_length (Int.le_refl 0) h1 h2]
  simp [hi', hsz, Result.andThen, sliced, slA]
theorem run_subL {α : Type} {T e : TypeId} {sz : Nat} (hu : P.underlying T = some (.slice e)) (hz : (P.info? e).map (·.size) = some sz) {l : List α} {S : Option Addr} {cap : Nat} {lo : Int} (h0 : 0 ≤ lo) (h1 : lo ≤ (l.length : Int)) (w : World) (kl : IntKind) :
    (Instr.sliceAt T (.slice S l.length cap) (some (.int kl lo)) none none).run P w = .ok (.slice (slA S lo.toNat cap sz) (rpart l lo (l.length : Int)).length (cap - lo.toNat)) w := by
  obtain ⟨inf, hi', hsz⟩ := Option.map_eq_some_iff.1 hz
  obtain ⟨hu1, he⟩ := elem_of hu
  rw [run_sliceAt_slice w T _ _ _ _ hu1, run_slice_l w T S l.length cap hu1 kl lo h0 h1, he]
  simp only [sizeOf, typeInfo, hi', Sem.run_bind, Result.andThen, part_length h0 h1 (Int.le_refl _)]
  simp [hi', hsz, Result.andThen, sliced, slA]
theorem RL.sub1 {α : Type} {T e : TypeId} (sz : Nat) {l : List α} {S : Option Addr} {cap : Nat} {lo hi : Int} (kl kh : IntKind) (d : Option Tmp) (hl : ready os p K d = true)
    (hx : execOp (evalK K) (os.getD p default) = toNext (Instr.sliceAt T (.slice S l.length cap) (some (.int kl lo)) (some (.int kh hi)) none))
    (hu : P.underlying T = some (.slice e)) (hz : (P.info? e).map (·.size) = some sz) (hc : l.length ≤ cap) (h0 : 0 ≤ lo) (h1 : lo ≤ hi) (h2 : hi ≤ (l.length : Int)) {K' : List (Nat × Value)} (hF : putK A K d (.slice (slA S lo.toNat cap sz) (rpart l lo hi).length (cap - lo.toNat)) = K')
    (kk : RL P os Q (p + 1) A K' B I nx L X) : RL P os Q p A K B I nx L X :=
  RL.quiet d _ hl hF (fun w _ => by rw [hx]; exact run_toNext (run_sub hu hz hc h0 h1 h2 w kl kh)) kk
theorem RL.subH {α : Type} {T e : TypeId} (sz : Nat) {l : List α} {S : Option Addr} {cap : Nat} {hi : Int} (kh : IntKind) (d : Option Tmp) (hl : ready os p K d = true)
    (hx : execOp (evalK K) (os.getD p default) = toNext (Instr.sliceAt T (.slice S l.length cap) none (some (.int kh hi)) none))
    (hu : P.underlying T = some (.slice e)) (hz : (P.info? e).map (·.size) = some sz) (hc : l.length ≤ cap) (h1 : 0 ≤ hi) (h2 : hi ≤ (l.length : Int)) {K' : List (Nat × Value)} (hF : putK A K d (.slice (slA S (0 : Int).toNat cap sz) (rpart l 0 hi).length (cap - (0 : Int).toNat)) = K')
    (kk : RL P os Q (p + 1) A K' B I nx L X) : RL P os Q p A K B I nx L X :=
  RL.quiet d _ hl hF (fun w _ => by rw [hx]; exact run_toNext (run_subH hu hz hc h1 h2 w kh)) kk
theorem RL.subL {α : Type} {T e : TypeId} (sz : Nat) {l : List α} {S : Option Addr} {cap : Nat} {lo : Int} (kl : IntKind) (d : Option Tmp) (hl : ready os p K d = true)
    (hx : execOp (evalK K) (os.getD p default) = toNext (Instr.sliceAt T (.slice S l.length cap) (some (.int kl lo)) none none))
    (hu : P.underlying T = some (.slice e)) (hz : (P.info? e).map (·.size) = some sz) (h0 : 0 ≤ lo) (h1 : lo ≤ (l.length : Int)) {K' : List (Nat × Value)} (hF : putK A K d (.slice (slA S lo.toNat cap sz) (rpart l lo (l.length : Int)).length (cap - lo.toNat)) = K')
    (kk : RL P os Q (p + 1) A K' B I nx L X) : RL P os Q p A K B I nx L X :=
  RL.quiet d _ hl hF (fun w _ => by rw [hx]; exact run_toNext (run_subL hu hz h0 h1 w kl)) kk
theorem giv_sub {α : Type} {T e : TypeId} (sz : Nat) {l : List α} {S : Option Addr} {cap : Nat} {lo hi : Int} (kl kh : IntKind)
    (hx : execOp (evalK K) (os.getD p default) = toNext (Instr.sliceAt T (.slice S l.length cap) (some (.int kl lo)) (some (.int kh hi)) none))
    (hu : P.underlying T = some (.slice e)) (hz : (P.info? e).map (·.size) = some sz) (hc : l.length ≤ cap) (h0 : 0 ≤ lo) (h1 : lo ≤ hi) (h2 : hi ≤ (l.length : Int)) (w : World) :
    (execOp (evalK K) (os.getD p default)).run P w = .ok (.value (.slice (slA S lo.toNat cap sz) (rpart l lo hi).length (cap - lo.toNat))) w := by rw [hx]; exact run_toNext (run_sub hu hz hc h0 h1 h2 w kl kh)
theorem giv_subH {α : Type} {T e : TypeId} (sz : Nat) {l : List α} {S : Option Addr} {cap : Nat} {hi : Int} (kh : IntKind)
    (hx : execOp (evalK K) (os.getD p default) = toNext (Instr.sliceAt T (.slice S l.length cap) none (some (.int kh hi)) none))
    (hu : P.underlying T = some (.slice e)) (hz : (P.info? e).map (·.size) = some sz) (hc : l.length ≤ cap) (h1 : 0 ≤ hi) (h2 : hi ≤ (l.length : Int)) (w : World) :
    (execOp (evalK K) (os.getD p default)).run P w = .ok (.value (.slice (slA S (0 : Int).toNat cap sz) (rpart l 0 hi).length (cap - (0 : Int).toNat))) w := by rw [hx]; exact run_toNext (run_subH hu hz hc h1 h2 w kh)
theorem giv_subL {α : Type} {T e : TypeId} (sz : Nat) {l : List α} {S : Option Addr} {cap : Nat} {lo : Int} (kl : IntKind)
    (hx : execOp (evalK K) (os.getD p default) = toNext (Instr.sliceAt T (.slice S l.length cap) (some (.int kl lo)) none none))
    (hu : P.underlying T = some (.slice e)) (hz : (P.info? e).map (·.size) = some sz) (h0 : 0 ≤ lo) (h1 : lo ≤ (l.length : Int)) (w : World) :
    (execOp (evalK K) (os.getD p default)).run P w = .ok (.value (.slice (slA S lo.toNat cap sz) (rpart l lo (l.length : Int)).length (cap - lo.toNat))) w := by rw [hx]; exact run_toNext (run_subL hu hz h0 h1 w kl)

/-! ### strings and bytes -/
def bytesOf (s : ByteArray) : List Int := s.data.toList.map fun b => (b.toNat : Int)
theorem bytesOf_length (s : ByteArray) : (bytesOf s).length = s.size := by
  unfold bytesOf
  rw [List.length_map, Array.length_toList]
  rfl
theorem got_bytes {w : World} (hI : I.at_ w) (e : TypeId) (s : ByteArray) (hs : s.size ≤ 9223372036854775807) : ∃ J, Got w (Lib.bytesWorld w e s) I J [] ∧ Rd (Ty.int .u8) J (some ⟨w.heap.size, 0, none⟩) (bytesOf s) := by
  have hold : ∀ a v, I a = some v → look (Lib.bytesWorld w e s) a = some v := fun a v ha => by
    have hc := hI a v ha
    rw [look_of_block (w := w) (Lib.bytesWorld_at_old w e s _ (look_lt hc))]
    exact hc
  refine ⟨I.or (rowImm w.heap.size ((bytesOf s).map (Value.int .u8))), ⟨⟨?_, ?_, ?_, ?_, fun k hk _ => Lib.bytesWorld_at_old w e s k hk⟩, Imm.le_or _ _, ?_, ?_, (fun r hr => by cases hr), (fun r hr => by cases hr), List.Pairwise.nil, (fun a v _ r hr => by cases hr)⟩, ?_⟩
  · rfl
  · rfl
  · rfl
  · rw [Lib.bytesWorld_size]; omega
  · intro a v ha
    rcases Imm.or_new ha with h | ⟨_, h⟩
    · exact hold a v h
    · obtain ⟨e1, e2⟩ := rowImm_some h
      rw [e1]
      have hlt : a.off < s.size := by
        have := (List.getElem?_eq_some_iff.1 e2).1
        rw [List.length_map, bytesOf_length] at this
        exact this
      show (Lib.bytesWorld w e s).cell? _ = _; rw [Lib.bytesWorld_cell w e s _ hlt, ← e2]
      have hl : a.off < s.data.toList.length := by
        rw [Array.length_toList]
        exact hlt
      simp only [bytesOf, List.map_map, List.getElem?_map, List.getElem?_eq_getElem hl, Option.map_some, List.getD_eq_getElem?_getD, Option.getD_some, Function.comp]
  · intro a v ha
    rcases Imm.or_new ha with h | ⟨_, h⟩
    · exact .inl h
    · obtain ⟨e1, _⟩ := rowImm_some h
      rw [e1]
      exact .inr (Nat.le_refl _)
  · refine ⟨by rw [bytesOf_length]; exact hs, fun _ => ⟨_, 0, rfl, fun j x hj => ⟨[.int .u8 x], rfl, fun i u hu => ?_⟩⟩⟩
    cases i with
    | succ i => simp at hu
    | zero =>
      injection hu with hu
      subst hu
      refine Imm.or_get ?_ ?_
      · cases hI' : I ⟨w.heap.size, 0 + j * (Ty.int .u8).sz + 0, none⟩ with
        | none => rfl
        | some v => exact absurd (look_lt (hI _ _ hI')) (Nat.lt_irrefl _)
      · rw [rowImm_get]
        have : 0 + j * (Ty.int .u8).sz + 0 = j := by show 0 + j * 1 + 0 = j; omega
        rw [this, List.getElem?_map, hj]
        rfl
theorem RL.toBytes {src dst e : TypeId} (s : ByteArray) (u : TypeDesc) (d : Option Tmp) (hl : ready os p K d = true)
    (hx : execOp (evalK K) (os.getD p default) = toNext (convert src dst (.string s)))
    (hs : P.underlying src = some u) (hd : P.underlying dst = some (.slice e)) (he : P.underlying e = some (.int .u8)) (hb : s.size ≤ 9223372036854775807)
    (kk : ∀ (J : Imm) (cap nx' : Nat), I.le J → (bytesOf s).length ≤ cap → Rd (Ty.int .u8) J (some ⟨nx, 0, none⟩) (bytesOf s) → RL P os Q (p + 1) A (putK A K d (.slice (some ⟨nx, 0, none⟩) (bytesOf s).length cap)) B J nx' L X) : RL P os Q p A K B I nx L X := by
  refine RL.one d (fun v w' => ∃ J cap, v = .slice (some ⟨nx, 0, none⟩) (bytesOf s).length cap ∧ (bytesOf s).length ≤ cap ∧ I.le J ∧ Rd (Ty.int .u8) J (some ⟨nx, 0, none⟩) (bytesOf s) ∧ Sat B J w'.heap.size L X w') hl (fun w hsat => ?_) (fun v w' hK a' ha' => ?_)
  · obtain ⟨J, hg, hr⟩ := got_bytes hsat.im e s hb
    have hc := hsat.call hg
    rw [List.append_nil] at hc
    refine ⟨_, _, by rw [hx]; exact run_toNext (Lib.run_convert_string_bytes w src dst e s hs hd he), J, grownCap w s.size 0 e, ?_, ?_, hg.le, ?_, hc⟩
    · rw [bytesOf_length, hsat.hnx]
    · rw [bytesOf_length]; exact grownCap_ge w s.size 0 e
    · rw [hsat.hnx] at hr; exact hr
  · obtain ⟨J, cap, rfl, h1, h2, h3, h4⟩ := hK
    exact kk J cap _ h2 h1 h3 a' w' ha' h4
theorem run_ofBytes {src dst e : TypeId} {w : World} (him : I.at_ w) {S : Option Addr} {l : List Int} {cap : Nat} (h : Rd (Ty.int .u8) I S l) (hs : P.underlying src = some (.slice e)) (he : P.underlying e = some (.int .u8)) (hd : P.underlying dst = some .string) :
    (convert src dst (.slice S l.length cap)).run P w = .ok (.string (strOfNums l)) w := by
  by_cases hne : l = []
  · subst hne
    rw [run_convert_bytes_string w src dst e _ _ cap hs he hd]
    cases S <;> simp [Conv.bytesToString, loadCells, loadCellsFrom] <;> rfl
  · obtain ⟨g, o, rfl, hc⟩ := h.2 hne
    refine run_convert_bytes_arg w src e hs he g o _ cap l rfl (fun i hi => ?_) dst hd
    obtain ⟨c, hk, hcell⟩ := hc i _ (List.getElem?_eq_getElem hi)
    have hk' : c = [.int .u8 l[i]] := hk
    subst hk'
    have h1 := him _ _ (hcell 0 _ rfl)
    have : o + i * (Ty.int .u8).sz + 0 = o + i := by show o + i * 1 + 0 = o + i; omega
    rw [this] at h1
    rw [show w.cell? ⟨g, o + i, none⟩ = _ from h1, List.getD_eq_getElem?_getD, List.getElem?_eq_getElem hi]
    rfl
theorem RL.ofBytes {src dst e : TypeId} {S : Option Addr} {l : List Int} {cap : Nat} (d : Option Tmp) (hl : ready os p K d = true)
    (hx : execOp (evalK K) (os.getD p default) = toNext (convert src dst (.slice S l.length cap))) (h : Rd (Ty.int .u8) I S l)
    (hs : P.underlying src = some (.slice e)) (he : P.underlying e = some (.int .u8)) (hd : P.underlying dst = some .string) {K' : List (Nat × Value)} (hF : putK A K d (.string (strOfNums l)) = K')
    (kk : RL P os Q (p + 1) A K' B I nx L X) : RL P os Q p A K B I nx L X :=
  RL.quiet d _ hl hF (fun w hsat => by rw [hx]; exact run_toNext (run_ofBytes hsat.im h hs he hd)) kk
theorem Does.toBytes {src dst e : TypeId} {s : ByteArray} {u : TypeDesc} {w : World} (hI : I.at_ w) (hs : P.underlying src = some u) (hd : P.underlying dst = some (.slice e)) (he : P.underlying e = some (.int .u8)) (hb : s.size ≤ 9223372036854775807) {sm : Sem Next} (hx : sm = toNext (convert src dst (.string s))) :
    Does P sm w (fun v w' => ∃ J cap, v = .slice (some ⟨w.heap.size, 0, none⟩) (bytesOf s).length cap ∧ Got w w' I J [] ∧ (bytesOf s).length ≤ cap ∧ Rd (Ty.int .u8) J (some ⟨w.heap.size, 0, none⟩) (bytesOf s)) := by
  obtain ⟨J, hg, hr⟩ := got_bytes hI e s hb
  refine .inl ⟨_, _, by rw [hx]; exact run_toNext (Lib.run_convert_string_bytes w src dst e s hs hd he), J, grownCap w s.size 0 e, ?_, hg, ?_, hr⟩
  · rw [bytesOf_length]
  · rw [bytesOf_length]; exact grownCap_ge w s.size 0 e
/-- A cell of a row of the call's own, its place told in other words. -/
theorem RFacts.ownQ {R : List (Addr × Value)} (xi : Nat) {e : TypeId} {sz : Nat} {S : Option Addr} {n cap : Nat} {cs : List Value} (hX : X[xi]? = some (orow e sz S n cap cs)) {g : Nat} (hS : S = some ⟨g, 0, none⟩) (q j : Nat) (hq : q = j) {v : Value} (hv : cs[j]? = some v) (hR : RFacts B I X R) : RFacts B I X ((⟨g, q, none⟩, v) :: R) := by
  subst hS; subst hq
  exact RFacts.row xi hX q hv hR
end

end Go.Proofs.Ytieakigoinebdaa.RW
