/- A walk's own words, seventh part: a region that draws, where what acts only makes memory. -/
import Derived.Test.YtieakigoinebdaaRWD
import Derived.Test.YtieakigoinebdaaRWF
namespace Go.Proofs.Ytieakigoinebdaa.RW
open Go Go.RowKit

theorem Sat.perm {B : Base} {I : Imm} {nx : Nat} {L : List Blk} {X X' : List Res} {w : World} (h : Sat B I nx L X w) (hp : X.Perm X') : Sat B I nx L X' w :=
  ⟨h.evo, h.hnx, h.blk, h.own, h.ne, fun r hr => h.res r (hp.mem_iff.2 hr), fun r hr => h.rown r (hp.mem_iff.2 hr),
    (hp.pairwise_iff (fun {a b} (h1 : ∀ k, a.fp k → ¬ b.fp k) k hb ha => h1 k ha hb)).1 h.rdis, fun r hr => h.rblk r (hp.mem_iff.2 hr), h.im, h.imL, fun a v ha r hr => h.imX a v ha r (hp.mem_iff.2 hr), h.le, h.inew⟩

/-- Some of the rows, in any order. -/
def sel (X : List Res) : List Nat → List Res
  | [] => []
  | i :: r => match X[i]? with | some x => x :: sel X r | none => sel X r
def noN : List Nat → Bool
  | [] => true
  | i :: r => r.all (fun j => !Nat.beq j i) && noN r
theorem sel_mem {X : List Res} {x : Res} : ∀ {l : List Nat}, x ∈ sel X l → ∃ i ∈ l, X[i]? = some x
  | [], h => by cases h
  | i :: r, h => by
    simp only [sel] at h
    split at h
    · rename_i y hy
      rcases List.mem_cons.1 h with rfl | h
      · exact ⟨i, List.mem_cons_self, hy⟩
      · obtain ⟨j, h1, h2⟩ := sel_mem h
        exact ⟨j, List.mem_cons_of_mem _ h1, h2⟩
    · obtain ⟨j, h1, h2⟩ := sel_mem h
      exact ⟨j, List.mem_cons_of_mem _ h1, h2⟩
theorem Sat.sel {B : Base} {I : Imm} {nx : Nat} {L : List Blk} {X : List Res} {w : World} (h : Sat B I nx L X w) (l : List Nat) (hn : noN l = true) : Sat B I nx L (RW.sel X l) w := by
  have hm : ∀ r ∈ RW.sel X l, r ∈ X := fun r hr => by obtain ⟨i, _, hi⟩ := sel_mem hr; exact List.mem_of_getElem? hi
  refine ⟨h.evo, h.hnx, h.blk, h.own, h.ne, fun r hr => h.res r (hm r hr), fun r hr => h.rown r (hm r hr), ?_, fun r hr => h.rblk r (hm r hr), h.im, h.imL, fun a v ha r hr => h.imX a v ha r (hm r hr), h.le, h.inew⟩
  induction l with
  | nil => exact List.Pairwise.nil
  | cons i r ih =>
    simp only [noN, Bool.and_eq_true, List.all_eq_true, Bool.not_eq_true'] at hn
    simp only [RW.sel] at hm ⊢
    split
    · rename_i x hx
      rw [hx] at hm
      refine List.pairwise_cons.2 ⟨fun y hy k hk1 hk2 => ?_, ih hn.2 (fun q hq => hm q (List.mem_cons_of_mem _ hq))⟩
      obtain ⟨j, hj, hjy⟩ := sel_mem hy
      have hne : j ≠ i := fun e => by
        have := hn.1 j hj
        rw [e, Nat.beq_refl] at this
        cases this
      obtain ⟨hi1, hi2⟩ := List.getElem?_eq_some_iff.1 hx
      obtain ⟨hj1, hj2⟩ := List.getElem?_eq_some_iff.1 hjy
      have hp := List.pairwise_iff_getElem.1 h.rdis
      rcases Nat.lt_or_gt_of_ne hne with hlt | hlt
      · exact hp j i hj1 hi1 hlt k (by rw [hj2]; exact hk2) (by rw [hi2]; exact hk1)
      · exact hp i j hi1 hj1 hlt k (by rw [hi2]; exact hk1) (by rw [hj2]; exact hk2)
    · rename_i hx
      rw [hx] at hm
      exact ih hn.2 hm
section
variable {P : Program} {A : Fr} {K : List (Nat × Value)} {Q : Exit → Act → World → Prop} {c : Code} {B : Base} {I : Imm} {nx : Nat} {L : List Blk} {X : List Res} {os : List Oper} {p : Nat}
theorem knows_sub {K' : List (Nat × Value)} {a : Act} (ha : Knows A K a) (hv : K'.map (fun p => lookK K p.1) = K'.map (fun p => some p.2)) : Knows A K' a :=
  ha.sub fun p hp => by
    obtain ⟨i, hi, rfl⟩ := List.getElem_of_mem hp
    have h1 := congrArg (·[i]?) hv
    simp only [List.getElem?_map, List.getElem?_eq_getElem hi, Option.map_some, Option.some.injEq] at h1
    exact h1
theorem OK.sel {K' : List (Nat × Value)} {L' : List Blk} (l : List Nat) (hn : noN l = true) (hv : K'.map (fun p => lookK K p.1) = K'.map (fun p => some p.2)) (hL : L'.Sublist L) (k : OK P c Q A K' B I nx L' (RW.sel X l)) : OK P c Q A K B I nx L X := fun a w ha hs => k a w (knows_sub ha hv) ((hs.sel l hn).less hL (List.Sublist.refl _))
theorem RL.sel {K' : List (Nat × Value)} {L' : List Blk} (l : List Nat) (hn : noN l = true) (hv : K'.map (fun p => lookK K p.1) = K'.map (fun p => some p.2)) (hL : L'.Sublist L) (k : RL P os Q p A K' B I nx L' (RW.sel X l)) : RL P os Q p A K B I nx L X := fun a w ha hs => k a w (knows_sub ha hv) ((hs.sel l hn).less hL (List.Sublist.refl _))
theorem QN.sel {e : Exit} {K' : List (Nat × Value)} {L' : List Blk} (l : List Nat) (hn : noN l = true) (hv : K'.map (fun p => lookK K p.1) = K'.map (fun p => some p.2)) (hL : L'.Sublist L) (k : QN Q e A K' B I nx L' (RW.sel X l)) : QN Q e A K B I nx L X := fun a w ha hs => k a w (knows_sub ha hv) ((hs.sel l hn).less hL (List.Sublist.refl _))
end

/-- What an operation leaves that only makes memory: its value, rows of the call's own, what holds from then on. -/
structure Ld where
  i : Nat
  val : Wt → Value
  Y : Wt → List Res
  F : Wt → Imm → Prop
  mono : ∀ (x : Wt) (J J' : Imm), J.le J' → F x J → F x J'

def Ld.vl (ld : List Ld) : List (Nat × (Wt → Value)) := ld.map fun l => (l.i, l.val)
def xs : List Ld → (Nat → Bool) → (Nat → Wt) → List Res
  | [], _, _ => []
  | l :: r, D, u => (bif D l.i then l.Y (u l.i) else []) ++ xs r D u
def fs : List Ld → (Nat → Bool) → (Nat → Wt) → Imm → Prop
  | [], _, _, _ => True
  | l :: r, D, u, J => (D l.i = true → l.F (u l.i) J) ∧ fs r D u J
theorem fs.ext {J J' : Imm} (h : J.le J') {D : Nat → Bool} {u : Nat → Wt} : ∀ {ld : List Ld}, fs ld D u J → fs ld D u J'
  | [], _ => trivial
  | l :: _, f => ⟨fun hd => l.mono _ _ _ h (f.1 hd), fs.ext h f.2⟩
def nodupN : List Nat → Bool
  | [] => true
  | i :: r => r.all (fun j => !Nat.beq j i) && nodupN r

theorem xs_other {D : Nat → Bool} {u : Nat → Wt} {i : Nat} {x : Wt} : ∀ {ld : List Ld}, (∀ l ∈ ld, l.i ≠ i) → xs ld (dset D i) (upd u i x) = xs ld D u
  | [], _ => rfl
  | l :: r, h => by
    have h1 := h l List.mem_cons_self
    simp only [xs, dset_ne _ h1, upd_ne _ _ h1]
    rw [xs_other (fun l' hl' => h l' (List.mem_cons_of_mem _ hl'))]
theorem xs_set {D : Nat → Bool} {u : Nat → Wt} {x : Wt} {l : Ld} : ∀ {ld : List Ld}, nodupN (ld.map (·.i)) = true → l ∈ ld → D l.i = false → (xs ld D u ++ l.Y x).Perm (xs ld (dset D l.i) (upd u l.i x))
  | [], _, h, _ => by cases h
  | a :: r, hn, h, hD => by
    simp only [List.map_cons, nodupN, Bool.and_eq_true, List.all_eq_true, Bool.not_eq_true'] at hn
    rcases List.mem_cons.1 h with rfl | h
    · have hr : ∀ l' ∈ r, l'.i ≠ l.i := fun l' hl' e => by
        have := hn.1 l'.i (List.mem_map.2 ⟨l', hl', rfl⟩)
        rw [e, beq_self] at this
        cases this
      simp only [xs, hD, dset_self, upd_self, xs_other hr, cond_true, cond_false, List.nil_append]
      exact List.perm_append_comm
    · have hne : a.i ≠ l.i := fun e => by
        have := hn.1 l.i (List.mem_map.2 ⟨l, h, rfl⟩)
        rw [e, beq_self] at this
        cases this
      simp only [xs, dset_ne _ hne, upd_ne _ _ hne, List.append_assoc]
      exact List.Perm.append_left _ (xs_set hn.2 h hD)
theorem fs_set {D : Nat → Bool} {u : Nat → Wt} {x : Wt} {l : Ld} {J : Imm} : ∀ {ld : List Ld}, nodupN (ld.map (·.i)) = true → l ∈ ld → fs ld D u J → l.F x J → fs ld (dset D l.i) (upd u l.i x) J
  | [], _, h, _, _ => by cases h
  | a :: r, hn, h, hf, hx => by
    simp only [List.map_cons, nodupN, Bool.and_eq_true, List.all_eq_true, Bool.not_eq_true'] at hn
    have other : ∀ {r : List Ld}, (∀ l' ∈ r, l'.i ≠ l.i) → fs r D u J → fs r (dset D l.i) (upd u l.i x) J := by
      intro r
      induction r with
      | nil => intro _ _; trivial
      | cons b r ih =>
        intro hr hf
        have h1 := hr b List.mem_cons_self
        refine ⟨?_, ih (fun l' hl' => hr l' (List.mem_cons_of_mem _ hl')) hf.2⟩
        rw [dset_ne _ h1, upd_ne _ _ h1]
        exact hf.1
    rcases List.mem_cons.1 h with rfl | h
    · have hr : ∀ l' ∈ r, l'.i ≠ l.i := fun l' hl' e => by
        have := hn.1 l'.i (List.mem_map.2 ⟨l', hl', rfl⟩)
        rw [e, beq_self] at this
        cases this
      refine ⟨fun _ => ?_, other hr hf.2⟩
      rw [upd_self]
      exact hx
    · have hne : a.i ≠ l.i := fun e => by
        have := hn.1 l.i (List.mem_map.2 ⟨l, h, rfl⟩)
        rw [e, beq_self] at this
        cases this
      refine ⟨?_, fs_set hn.2 h hf.2 hx⟩
      rw [dset_ne _ hne, upd_ne _ _ hne]
      exact hf.1

/-- What holds in between. -/
def SG (B : Base) (I : Imm) (L : List Blk) (X0 : (Nat → Bool) → (Nat → Wt) → List Res) (ld : List Ld) (D : Nat → Bool) (u : Nat → Wt) (w : World) : Prop :=
  ∃ J, I.le J ∧ Sat B J w.heap.size L (X0 D u ++ xs ld D u) w ∧ fs ld D u J

/-- An operation that only makes memory, at any world in between. -/
def GotOp (P : Program) (os : List Oper) (an : List Nat) (B : Base) (I : Imm) (L : List Blk) (X0 : (Nat → Bool) → (Nat → Wt) → List Res) (ld : List Ld) (l : Ld) (Kl : (Nat → Wt) → List (Nat × Value)) : Prop :=
  ∀ D u J w, (∀ j, behind an l.i j = true → (lk (Ld.vl ld) j).isSome = true → D j = true) → I.le J → Sat B J w.heap.size L (X0 D u ++ xs ld D u) w → fs ld D u J →
    Does P (execOp (evalK (Kl u)) (os.getD l.i default)) w (fun v w' => ∃ x J', v = l.val x ∧ Got w w' J J' (l.Y x) ∧ l.F x J')
theorem Does.mono {P : Program} {s : Sem Next} {w : World} {N M : Value → World → Prop} (h : ∀ v w', N v w' → M v w') (d : Does P s w N) : Does P s w M := by
  rcases d with ⟨v, w', hr, hN⟩ | ⟨f, xs, hr, hc⟩
  · exact .inl ⟨v, w', hr, h _ _ hN⟩
  · exact .inr ⟨f, xs, hr, hc.mono fun e w' ⟨v, hv, hN⟩ => ⟨v, hv, h _ _ hN⟩⟩
theorem GotOp.loud {P : Program} {os : List Oper} {an : List Nat} {B : Base} {I : Imm} {L : List Blk} {X0 : (Nat → Bool) → (Nat → Wt) → List Res} {ld : List Ld} {l : Ld} {Kl : (Nat → Wt) → List (Nat × Value)} (hn : nodupN (ld.map (·.i)) = true) (hm : l ∈ ld) (hX : ∀ D u x, D l.i = false → X0 (dset D l.i) (upd u l.i x) = X0 D u)
    (h : GotOp P os an B I L X0 ld l Kl) : ∀ D u w, D l.i = false → (∀ j, behind an l.i j = true → (lk (Ld.vl ld) j).isSome = true → D j = true) → SG B I L X0 ld D u w →
      Does P (execOp (evalK (Kl u)) (os.getD l.i default)) w (fun v w' => ∃ x, v = l.val x ∧ SG B I L X0 ld (dset D l.i) (upd u l.i x) w') := by
  rintro D u w hD hp ⟨J, hJ, hs, hf⟩
  refine (h D u J w hp hJ hs hf).mono ?_
  rintro v w' ⟨x, J', rfl, hg, hx⟩
  refine ⟨x, rfl, J', Imm.le_trans hJ hg.le, ?_, fs_set hn hm (hf.ext hg.le) hx⟩
  have := hs.call hg
  rw [hX D u x hD]
  rw [List.append_assoc] at this
  exact this.perm (List.Perm.append_left _ (xs_set hn hm hD))

/-- Cells that are known in between: those that never turn, and those of the call's own rows. -/
def RI (B : Base) (I : Imm) (X : List Res) (R : List (Addr × Value)) : Prop := ∀ (J : Imm) (Y : List Res), I.le J → RFacts B J (X ++ Y) R
theorem RI.nil {B : Base} (I : Imm) {X : List Res} : RI B I X [] := fun _ _ _ => RFacts.nil _ _ _
theorem RI.cons {B : Base} {I : Imm} {X : List Res} {R : List (Addr × Value)} {a : Addr} {v : Value} (h : I a = some v) (hR : RI B I X R) (hsp : a.spot = none := by rfl) : RI B I X ((a, v) :: R) := fun J Y hJ => RFacts.imm (hJ _ _ h) (hR J Y hJ) hsp
theorem RI.own {B : Base} {I : Imm} {X : List Res} {R : List (Addr × Value)} (xi : Nat) {e : TypeId} {sz : Nat} {S : Option Addr} {n cap : Nat} {cs : List Value} (hX : X[xi]? = some (orow e sz S n cap cs)) {g : Nat} (hS : S = some ⟨g, 0, none⟩) (q j : Nat) (hq : q = j) {v : Value} (hv : cs[j]? = some v) (hR : RI B I X R) : RI B I X ((⟨g, q, none⟩, v) :: R) := fun J Y hJ => by
  subst hS; subst hq
  exact RFacts.row xi (by rw [List.getElem?_append_left (List.getElem?_eq_some_iff.1 hX).1]; exact hX) q hv (hR J Y hJ)
theorem OK.ownAddr {P : Program} {c : Code} {Q : Exit → Act → World → Prop} {A : Fr} {K : List (Nat × Value)} {B : Base} {I : Imm} {nx : Nat} {L : List Blk} {X : List Res} (xi : Nat) {e : TypeId} {sz : Nat} {S : Option Addr} {n cap : Nat} {cs : List Value} (hX : X[xi]? = some (orow e sz S n cap cs)) (hn : 0 < n) (k : ∀ g, S = some ⟨g, 0, none⟩ → OK P c Q A K B I nx L X) : OK P c Q A K B I nx L X := by
  intro a w ha hs
  obtain ⟨g, hg, _⟩ := own_addr hs hX hn
  exact k g hg a w ha hs

theorem OK.drawnG {P : Program} {A : Fr} {K : List (Nat × Value)} {Q : Exit → Act → World → Prop} {c : Code} {B : Base} {I : Imm} {nx : Nat} {L : List Blk} {X : List Res} (id t : Nat) (os : List Oper) (an : List Nat) (h : c = .region id os.toArray true) (hm : P.follows .mixedOrders = true) (ld : List Ld) (gl : List (Nat × ((Nat → Wt) → Value))) (X0 : (Nat → Bool) → (Nat → Wt) → List Res) (R : List (Addr × Value)) (hR : ∀ D u, RI B I (X0 D u) R) (locs : List Loc)
    (han : ancs os [] = an) (hok : drawOk os an t = true) (hlt : ((Ld.vl ld).all fun p => decide (p.1 < t)) = true)
    (hq : ∀ u, (qSim P R L os A (Ld.vl ld) gl u locs 0 (os.take t) K).isSome = true)
    (he : ∀ u, (qSim P R L os A (Ld.vl ld) gl u locs 0 (os.take t) K).map (fun x => x.2.2.map (·.1)) = (qSim P R L os A (Ld.vl ld) gl u locs 0 (os.take t) K).map (fun x => x.2.2.map (·.2)))
    (hX0 : ∀ u, X0 (fun _ => false) u = X)
    (Ks : List ((Nat → Wt) → List (Nat × Value))) (hf : framesOk A K os (vsOf P R L os A (Ld.vl ld) gl locs t K) (Ld.vl ld) Ks) (hl : Louds P os an (Ld.vl ld) (SG B I L X0 ld) (Ld.vl ld) Ks)
    (Kg : List ((Nat → Wt) → List (Nat × Value))) (hfg : framesOk A K os (vsOf P R L os A (Ld.vl ld) gl locs t K) gl Kg) (hg : Givens P os an (Ld.vl ld) (SG B I L X0 ld) gl Kg)
    (K' : (Nat → Wt) → List (Nat × Value)) (hK : ∀ u, foldPut A K (os.take t) (vsOf P R L os A (Ld.vl ld) gl locs t K u) = K' u)
    (k : ∀ (u : Nat → Wt) (J : Imm) (nx' : Nat), I.le J → fs ld (Dall (Ld.vl ld)) u J → RL P os Q t A (K' u) B J nx' L (X0 (Dall (Ld.vl ld)) u ++ xs ld (Dall (Ld.vl ld)) u)) : OK P c Q A K B I nx L X := by
  refine OK.drawn id t os an h hm (Ld.vl ld) gl R L locs han hok hlt hq he (SG B I L X0 ld) ?_ ?_ Ks hf hl Kg hfg hg K' hK ?_
  · rintro D u w ⟨J, hJ, hs, _⟩
    exact ⟨hs.blk, fun r hr => hR D u J _ hJ _ _ _ hs r hr⟩
  · intro u w hs
    refine ⟨I, Imm.le_refl _, ?_, ?_⟩
    · have hx : ∀ (l : List Ld), xs l (fun _ => false) u = [] := by
        intro l
        induction l with
        | nil => rfl
        | cons a r ih => simp only [xs, cond_false, List.nil_append]; exact ih
      rw [hX0, hx, List.append_nil, hs.hnx]
      exact hs
    · have hx : ∀ (l : List Ld), fs l (fun _ => false) u I := by
        intro l
        induction l with
        | nil => trivial
        | cons a r ih => exact ⟨(fun e => Bool.noConfusion e), ih⟩
      exact hx ld
  · rintro u a w ⟨J, hJ, hs, hf⟩ ha
    exact (k u J _ hJ hf).go ha hs

/-! ### what makes memory -/
theorem Got.sat {w w' : World} {I J : Imm} {Y : List Res} (h : Got w w' I J Y) : Sat ⟨w, fun _ => False, I⟩ J w'.heap.size [] Y w' :=
  ⟨h.evo, rfl, fun b hb => (by cases hb), fun b hb => (by cases hb), List.Pairwise.nil, h.res, fun r hr k hk => ⟨(h.rown r hr k hk).2, .inl (h.rown r hr k hk).1⟩, h.rdis, fun r hr b hb => (by cases hb), h.im, fun a v ha b hb => (by cases hb), h.imX, h.le, h.inew⟩
theorem Got.freeze {α : Type} {d : Ty α} {l : List α} {w w' : World} {I J : Imm} {Y : List Res} (h : Got w w' I J Y) (m : Nat) {e : TypeId} {sz : Nat} {S : Option Addr} {n cap : Nat} {cs : List Value} (hm : Y[m]? = some (orow e sz S n cap cs)) (hr : Reps d J l cs) (hn : l.length = n) :
    ∃ J', J.le J' ∧ Got w w' I J' (Y.eraseIdx m) ∧ n ≤ cap ∧ Rd d J' S l := by
  obtain ⟨J', h1, h2, h3, h4⟩ := h.sat.freeze hm hr hn (fun k hk => hk.elim)
  exact ⟨J', h1, h4.got _ (List.Sublist.refl _), h2, h3⟩
/-- One operation runs over known blocks of its own. -/
theorem Does.run {P : Program} {s : Sem Next} {w : World} {N : Value → World → Prop} {v : Value} {w' : World} (h : s.run P w = .ok (.value v) w') (k : N v w') : Does P s w N := .inl ⟨v, w', h, k⟩

/-- A block as a piece of memory. -/
def kblk (g : Nat) (ty : TypeId) (cs : List Value) : Res where
  fp := fun k => k = g
  P := fun _ w => w.heap[g]? = some (.cells cs.toArray ty (0, 0))
  stable := fun _ w w' h hp => by rw [h g rfl]; exact hp
  ext := fun _ _ _ _ h => h
theorem Sat.kblk {B : Base} {I : Imm} {nx : Nat} {L : List Blk} {X : List Res} {w : World} {g : Nat} {ty : TypeId} {cs : List Value} (h : Sat B I nx L (RW.kblk g ty cs :: X) w) : Sat B I nx (L ++ [⟨g, cs, ty⟩]) X w := by
  have h0 := h.less (List.Sublist.refl L) (List.sublist_cons_self _ X)
  have hm : RW.kblk g ty cs ∈ RW.kblk g ty cs :: X := List.mem_cons_self
  refine ⟨h0.evo, h0.hnx, ?_, ?_, ?_, h0.res, h0.rown, h0.rdis, ?_, h0.im, ?_, h0.imX, h0.le, h0.inew⟩
  · intro b hb
    rcases List.mem_append.1 hb with hb | hb
    · exact h0.blk b hb
    · rw [List.mem_singleton.1 hb]
      exact h.res _ hm
  · intro b hb
    rcases List.mem_append.1 hb with hb | hb
    · exact h0.own b hb
    · rw [List.mem_singleton.1 hb]
      exact (h.rown _ hm g rfl).2
  · rw [List.pairwise_append]
    refine ⟨h0.ne, List.pairwise_singleton _ _, fun a ha b hb => ?_⟩
    rw [List.mem_singleton.1 hb]
    exact fun e => h.rblk _ hm a ha e
  · intro r hr b hb hf
    rcases List.mem_append.1 hb with hb | hb
    · exact h0.rblk r hr b hb hf
    · rw [List.mem_singleton.1 hb] at hf
      exact (List.pairwise_cons.1 h.rdis).1 r hr g rfl hf
  · intro a v ha b hb
    rcases List.mem_append.1 hb with hb | hb
    · exact h0.imL a v ha b hb
    · rw [List.mem_singleton.1 hb]
      exact fun e => h.imX a v ha _ hm e.symm
theorem perm_erase {α : Type} : ∀ (X : List α) (m : Nat) (h : m < X.length), X.Perm (X[m] :: X.eraseIdx m)
  | [], _, h => by cases h
  | x :: r, 0, _ => List.Perm.refl _
  | x :: r, m + 1, h => (List.Perm.cons x (perm_erase r m (Nat.lt_of_succ_lt_succ h))).trans (List.Perm.swap _ _ _)
theorem RL.kblk {P : Program} {os : List Oper} {Q : Exit → Act → World → Prop} {p : Nat} {A : Fr} {K : List (Nat × Value)} {B : Base} {I : Imm} {nx : Nat} {L : List Blk} {X : List Res} (m : Nat) {g : Nat} {ty : TypeId} {cs : List Value} (hm : X[m]? = some (RW.kblk g ty cs))
    (k : RL P os Q p A K B I nx (L ++ [⟨g, cs, ty⟩]) (X.eraseIdx m)) : RL P os Q p A K B I nx L X := by
  intro a w ha hs
  obtain ⟨hml, hme⟩ := List.getElem?_eq_some_iff.1 hm
  refine k a w ha (Sat.kblk (hs.perm ?_))
  rw [← hme]
  exact perm_erase X m hml
/-- A new block. -/
theorem Got.new {w : World} {I : Imm} (hI : I.at_ w) (cs : List Value) (ty : TypeId) : Got w { w with heap := w.heap.push (.cells cs.toArray ty (0, 0)) } I I [RW.kblk w.heap.size ty cs] := by
  have hold : ∀ k, k < w.heap.size → (w.heap.push (.cells cs.toArray ty (0, 0)))[k]? = w.heap[k]? := fun k hk => by
    rw [Array.getElem?_push, if_neg (by omega)]
  refine ⟨⟨rfl, rfl, rfl, by simp, fun k hk _ => hold k hk⟩, Imm.le_refl _, ?_, fun _ _ h => .inl h, ?_, ?_, List.pairwise_singleton _ _, ?_⟩
  · intro a v ha
    have hc := hI a v ha
    rw [← hc]
    exact look_of_block (w := w) (hold _ (look_lt hc))
  · intro r hr
    rw [List.mem_singleton.1 hr]
    show (w.heap.push _)[w.heap.size]? = _
    simp
  · intro r hr k hk
    rw [List.mem_singleton.1 hr] at hk
    obtain rfl : k = w.heap.size := hk
    simp
  · intro a v ha r hr hk
    rw [List.mem_singleton.1 hr] at hk
    have h1 : a.block = w.heap.size := hk
    have := look_lt (hI a v ha)
    omega

section
variable {P : Program} {c : Code} {Q : Exit → Act → World → Prop} {A : Fr} {K : List (Nat × Value)} {B : Base} {I : Imm} {nx : Nat} {L : List Blk} {X : List Res}
theorem OK.freeze {α : Type} {d : Ty α} {l : List α} {e : TypeId} {sz : Nat} {S : Option Addr} {n cap : Nat} {cs : List Value} (m : Nat) (hm : X[m]? = some (orow e sz S n cap cs)) (hr : Reps d I l cs) (hn : l.length = n) (hS : ∀ k, B.S k → ∃ b ∈ L, b.g = k)
    (k : ∀ J, I.le J → n ≤ cap → Rd d J S l → OK P c Q A K B J nx L (X.eraseIdx m)) : OK P c Q A K B I nx L X := by
  intro a w ha hs
  obtain ⟨J, h1, h2, h3, h4⟩ := hs.freeze hm hr hn hS
  exact k J h1 h2 h3 a w ha h4
theorem OK.freezeL {α : Type} {d : Ty α} {l : List α} (i : Nat) {b : Blk} (hi : L[i]? = some b) (hr : Reps d I l b.cs) (hl : l.length ≤ 9223372036854775807) (hB : ∀ w, Sat B I nx L X w → B.w0.heap.size ≤ b.g)
    (k : ∀ J, I.le J → Rd d J (some ⟨b.g, 0, none⟩) l → OK P c Q A K B J nx (L.eraseIdx i) X) : OK P c Q A K B I nx L X := by
  intro a w ha hs
  obtain ⟨J, h1, h2, h3⟩ := hs.freezeL hi hr hl (hB w hs)
  exact k J h1 h2 a w ha h3
theorem OK.toRow (i n sz : Nat) {b : Blk} (hi : L[i]? = some b) (hn : b.cs.length = n * sz) (hl : n ≤ 9223372036854775807)
    (k : OK P c Q A K B I nx (L.eraseIdx i) (X ++ [orow b.ty sz (some ⟨b.g, 0, none⟩) n n b.cs])) : OK P c Q A K B I nx L X := fun a w ha hs => k a w ha (hs.toRow hi hn hl)
theorem OK.cases (b : Bool) (k1 : b = true → OK P c Q A K B I nx L X) (k2 : b = false → OK P c Q A K B I nx L X) : OK P c Q A K B I nx L X := by
  cases b with
  | true => exact k1 rfl
  | false => exact k2 rfl
theorem OK.norm {K' : List (Nat × Value)} {nx' : Nat} {L' : List Blk} {X' : List Res} (hK : K = K') (hn : nx = nx') (hL : L = L') (hX : X = X') (k : OK P c Q A K' B I nx' L' X') : OK P c Q A K B I nx L X := by
  subst hK; subst hn; subst hL; subst hX
  exact k
end

/-! ### as the generator asks -/
section
variable {P : Program} {A : Fr} {K : List (Nat × Value)} {Q : Exit → Act → World → Prop} {c : Code} {B : Base} {I : Imm} {nx : Nat} {L : List Blk} {X : List Res} {os : List Oper}
theorem vsOf_eq {R : List (Addr × Value)} {vl : List (Nat × (Wt → Value))} {gl : List (Nat × ((Nat → Wt) → Value))} {locs : List Loc} {t : Nat} {vs : (Nat → Wt) → List Value} {K' : (Nat → Wt) → List (Nat × Value)} (hv : ∀ u, (qSim P R L os A vl gl u locs 0 (os.take t) K).map (fun x => (x.1, x.2.1)) = some (vs u, K' u)) :
    vsOf P R L os A vl gl locs t K = vs ∧ (∀ u, (qSim P R L os A vl gl u locs 0 (os.take t) K).isSome = true) ∧ ∀ u, foldPut A K (os.take t) (vs u) = K' u := by
  refine ⟨?_, fun u => ?_, fun u => ?_⟩
  · funext u
    have := hv u
    unfold vsOf
    cases hx : qSim P R L os A vl gl u locs 0 (os.take t) K with
    | none => rw [hx] at this; cases this
    | some x => rw [hx] at this; simp only [Option.map_some, Option.some.injEq, Prod.mk.injEq] at this; simp [this.1]
  · have := hv u
    cases hx : qSim P R L os A vl gl u locs 0 (os.take t) K with
    | none => rw [hx] at this; cases this
    | some x => rfl
  · have := hv u
    cases hx : qSim P R L os A vl gl u locs 0 (os.take t) K with
    | none => rw [hx] at this; cases this
    | some x =>
      obtain ⟨vs1, K1, es⟩ := x
      rw [hx] at this
      simp only [Option.map_some, Option.some.injEq, Prod.mk.injEq] at this
      rw [← this.1, ← this.2]
      exact (qSim_spec _ _ _ _ _ _ _ hx).2.1.symm
theorem OK.drawnV (id t : Nat) (os : List Oper) (an : List Nat) (h : c = .region id os.toArray true) (hm : P.follows .mixedOrders = true) (ld : List Ld) (gl : List (Nat × ((Nat → Wt) → Value))) (X0 : (Nat → Bool) → (Nat → Wt) → List Res) (R : List (Addr × Value)) (hR : ∀ D u, RI B I (X0 D u) R) (locs : List Loc)
    (han : ancs os [] = an) (hok : drawOk os an t = true) (hlt : ((Ld.vl ld).all fun p => decide (p.1 < t)) = true) (vs : (Nat → Wt) → List Value) (K' : (Nat → Wt) → List (Nat × Value))
    (hv : ∀ u, (qSim P R L os A (Ld.vl ld) gl u locs 0 (os.take t) K).map (fun x => (x.1, x.2.1)) = some (vs u, K' u))
    (he : ∀ u, (qSim P R L os A (Ld.vl ld) gl u locs 0 (os.take t) K).map (fun x => x.2.2.map (·.1)) = (qSim P R L os A (Ld.vl ld) gl u locs 0 (os.take t) K).map (fun x => x.2.2.map (·.2)))
    (hX0 : ∀ u, X0 (fun _ => false) u = X)
    (Ks : List ((Nat → Wt) → List (Nat × Value))) (hf : framesOk A K os vs (Ld.vl ld) Ks) (hl : Louds P os an (Ld.vl ld) (SG B I L X0 ld) (Ld.vl ld) Ks)
    (Kg : List ((Nat → Wt) → List (Nat × Value))) (hfg : framesOk A K os vs gl Kg) (hg : Givens P os an (Ld.vl ld) (SG B I L X0 ld) gl Kg)
    (k : ∀ (u : Nat → Wt) (J : Imm) (nx' : Nat), I.le J → fs ld (Dall (Ld.vl ld)) u J → RL P os Q t A (K' u) B J nx' L (X0 (Dall (Ld.vl ld)) u ++ xs ld (Dall (Ld.vl ld)) u)) : OK P c Q A K B I nx L X := by
  obtain ⟨e, h1, h2⟩ := vsOf_eq hv
  subst e
  exact OK.drawnG id t os an h hm ld gl X0 R hR locs han hok hlt h1 he hX0 Ks hf hl Kg hfg hg K' h2 k

/-- What makes blocks, in the run over known ones. -/
theorem Does.make {s : Sem Next} {w : World} {J : Imm} (hJ : J.at_ w) (v : Nat → Value) {cs : List Value} {ty : TypeId} (h : ∀ n, (simS P [] s .no n [] []).map (fun x => (x.1, x.2.2.1, x.2.2.2)) = some (.value (v n), [⟨n, cs, ty⟩], [])) : Does P s w (fun v' w' => v' = v w.heap.size ∧ Got w w' J J [RW.kblk w.heap.size ty cs]) := by
  have h1 := h w.heap.size
  cases hx : simS P [] s .no w.heap.size [] [] with
  | none => rw [hx] at h1; cases h1
  | some x =>
    obtain ⟨x1, nx', L', es'⟩ := x
    rw [hx] at h1
    simp only [Option.map_some, Option.some.injEq, Prod.mk.injEq] at h1
    obtain ⟨rfl, rfl, rfl⟩ := h1
    obtain ⟨_, w', hr, hs⟩ := simS_sound (B := ⟨w, fun _ => False, J⟩) (I := J) (X := []) (R := []) (fun _ _ _ _ r hr => by cases hr) s _ _ _ _ w _ _ _ _ hx (fun p hp => by cases hp) (Sat.start w _ J hJ)
    refine .inl ⟨_, w', hr, rfl, hs.evo, Imm.le_refl _, hs.im, hs.inew, ?_, ?_, List.pairwise_singleton _ _, ?_⟩
    · intro r hr
      rw [List.mem_singleton.1 hr]
      exact hs.blk _ (List.mem_singleton.2 rfl)
    · intro r hr k hk
      rw [List.mem_singleton.1 hr] at hk
      obtain rfl : k = w.heap.size := hk
      have := hs.lt (List.mem_singleton.2 rfl)
      rw [← hs.hnx] at this
      exact ⟨Nat.le_refl _, this⟩
    · intro a v ha r hr hk
      rw [List.mem_singleton.1 hr] at hk
      have h2 : a.block = w.heap.size := hk
      exact hs.imL a v ha _ (List.mem_singleton.2 rfl) h2.symm
theorem giv_run {s : Sem Next} {v v' : Value} (h : (simQ P [] [] s .no []).map (·.1) = some (.value v)) (hv : v = v') (w : World) : s.run P w = .ok (.value v') w := by
  cases hsim : simQ P [] [] s .no [] with
  | none => rw [hsim] at h; cases h
  | some x =>
    obtain ⟨x1, es1⟩ := x
    rw [hsim] at h
    simp only [Option.map_some, Option.some.injEq] at h
    subst h; subst hv
    exact simQ_any _ _ _ _ hsim w
theorem giv_idx {p : Nat} {T e : TypeId} (sz : Nat) (k : IntKind) (i : Int) {S : Option Addr} {g o : Nat} (hA : S = some ⟨g, o, none⟩) (n cap : Nat) (hx : execOp (evalK K) (os.getD p default) = toNext (Instr.indexAt T (.slice S n cap) (.int k i)))
    (hu : P.underlying T = some (.slice e)) (hz : (P.info? e).map (·.size) = some sz) (h0 : 0 ≤ i) (h1 : i < (n : Int)) (w : World) : (execOp (evalK K) (os.getD p default)).run P w = .ok (.value (.pointer (some ⟨g, o + i.toNat * sz, none⟩))) w := by
  rw [hx, hA]
  exact run_toNext (run_indexAt_slice hu hz k i g o n cap h0 h1 w)
theorem giv_quo {p : Nat} (k : IntKind) (x y : Int) (hx : execOp (evalK K) (os.getD p default) = toNext (Op.intDiv .quo k x y)) (hy : y ≠ 0) (w : World) : (execOp (evalK K) (os.getD p default)).run P w = .ok (.value (.int k (k.wrap (x.tdiv y)))) w := by
  rw [hx]; refine run_toNext ?_; unfold Op.intDiv; rw [if_neg hy]; rfl
theorem giv_rem {p : Nat} (k : IntKind) (x y : Int) (hx : execOp (evalK K) (os.getD p default) = toNext (Op.intDiv .rem k x y)) (hy : y ≠ 0) (w : World) : (execOp (evalK K) (os.getD p default)).run P w = .ok (.value (.int k (x.tmod y))) w := by
  rw [hx]; refine run_toNext ?_; unfold Op.intDiv; rw [if_neg hy]; rfl
theorem giv_shl {p : Nat} (k yk : IntKind) (x y : Int) (hx : execOp (evalK K) (os.getD p default) = toNext (Op.shift .shl k x yk y)) (hy : 0 ≤ y) (w : World) : (execOp (evalK K) (os.getD p default)).run P w = .ok (.value (.int k (k.wrap (x * 2 ^ (min y.toNat k.bits))))) w := by
  rw [hx]; refine run_toNext ?_; unfold Op.shift; rw [if_neg (by omega)]; rfl
theorem giv_shr {p : Nat} (k yk : IntKind) (x y : Int) (hx : execOp (evalK K) (os.getD p default) = toNext (Op.shift .shr k x yk y)) (hy : 0 ≤ y) (w : World) : (execOp (evalK K) (os.getD p default)).run P w = .ok (.value (.int k (x.fdiv (2 ^ (min y.toNat k.bits))))) w := by
  rw [hx]; refine run_toNext ?_; unfold Op.shift; rw [if_neg (by omega)]; rfl
theorem giv_strIdx {p : Nat} {T : TypeId} (k : IntKind) (s : ByteArray) (i : Int) (hx : execOp (evalK K) (os.getD p default) = toNext (Instr.index T (.string s) (.int k i))) (hu : P.underlying T = some .string) (h0 : 0 ≤ i) (h1 : i < (s.size : Int)) (w : World) :
    (execOp (evalK K) (os.getD p default)).run P w = .ok (.value (.int .u8 (sb s i))) w := by
  rw [hx]
  refine run_toNext ?_
  have h2 : i.toNat < s.size := by omega
  have h3 : s[i.toNat]? = some s[i.toNat] := getElem?_pos s i.toNat h2
  simp [Instr.index, asIntOf, run_underlying hu, h0, h3, sb]
end

section
variable {P : Program} {A : Fr} {K : List (Nat × Value)} {Q : Exit → Act → World → Prop} {c : Code} {B : Base} {I : Imm} {nx : Nat} {L : List Blk} {X : List Res}
def LoudsG (P : Program) (os : List Oper) (an : List Nat) (B : Base) (I : Imm) (L : List Blk) (X0 : (Nat → Bool) → (Nat → Wt) → List Res) (ld : List Ld) : List Ld → List ((Nat → Wt) → List (Nat × Value)) → Prop
  | [], _ => True
  | _ :: _, [] => False
  | l :: r, Kl :: Ks => GotOp P os an B I L X0 ld l Kl ∧ LoudsG P os an B I L X0 ld r Ks
theorem LoudsG.nil {os : List Oper} {an : List Nat} {X0 : (Nat → Bool) → (Nat → Wt) → List Res} {ld : List Ld} : LoudsG P os an B I L X0 ld [] [] := trivial
theorem LoudsG.cons {os : List Oper} {an : List Nat} {X0 : (Nat → Bool) → (Nat → Wt) → List Res} {ld r : List Ld} {l : Ld} {Kl : (Nat → Wt) → List (Nat × Value)} {Ks : List ((Nat → Wt) → List (Nat × Value))} (h : GotOp P os an B I L X0 ld l Kl) (k : LoudsG P os an B I L X0 ld r Ks) : LoudsG P os an B I L X0 ld (l :: r) (Kl :: Ks) := ⟨h, k⟩
theorem LoudsG.louds {os : List Oper} {an : List Nat} {X0 : (Nat → Bool) → (Nat → Wt) → List Res} {ld : List Ld} (hn : nodupN (ld.map (·.i)) = true) (hX : ∀ D u i x, X0 (dset D i) (upd u i x) = X0 D u) : ∀ (r : List Ld) (Ks : List ((Nat → Wt) → List (Nat × Value))), (∀ l ∈ r, l ∈ ld) → LoudsG P os an B I L X0 ld r Ks → Louds P os an (Ld.vl ld) (SG B I L X0 ld) (Ld.vl r) Ks
  | [], _, _, _ => trivial
  | _ :: _, [], _, h => h.elim
  | l :: r, Kl :: Ks, hm, h => ⟨h.1.loud hn (hm l List.mem_cons_self) (fun D u x _ => hX D u l.i x), LoudsG.louds hn hX r Ks (fun l' hl' => hm l' (List.mem_cons_of_mem _ hl')) h.2⟩
theorem OK.drawnC (id t : Nat) (os : List Oper) (an : List Nat) (h : c = .region id os.toArray true) (hm : P.follows .mixedOrders = true) (ld : List Ld) (gl : List (Nat × ((Nat → Wt) → Value))) (R : List (Addr × Value)) (hR : RI B I X R) (locs : List Loc)
    (han : ancs os [] = an) (hok : drawOk os an t = true) (hlt : ((Ld.vl ld).all fun p => decide (p.1 < t)) = true) (hn : nodupN (ld.map (·.i)) = true) (vs : (Nat → Wt) → List Value) (K' : (Nat → Wt) → List (Nat × Value))
    (hv : ∀ u, (qSim P R L os A (Ld.vl ld) gl u locs 0 (os.take t) K).map (fun x => (x.1, x.2.1)) = some (vs u, K' u))
    (he : ∀ u, (qSim P R L os A (Ld.vl ld) gl u locs 0 (os.take t) K).map (fun x => x.2.2.map (·.1)) = (qSim P R L os A (Ld.vl ld) gl u locs 0 (os.take t) K).map (fun x => x.2.2.map (·.2)))
    (Ks : List ((Nat → Wt) → List (Nat × Value))) (hf : framesOk A K os vs (Ld.vl ld) Ks) (hl : LoudsG P os an B I L (fun _ _ => X) ld ld Ks)
    (Kg : List ((Nat → Wt) → List (Nat × Value))) (hfg : framesOk A K os vs gl Kg) (hg : Givens P os an (Ld.vl ld) (SG B I L (fun _ _ => X) ld) gl Kg)
    (k : ∀ (u : Nat → Wt) (J : Imm) (nx' : Nat), I.le J → fs ld (Dall (Ld.vl ld)) u J → RL P os Q t A (K' u) B J nx' L (X ++ xs ld (Dall (Ld.vl ld)) u)) : OK P c Q A K B I nx L X :=
  OK.drawnV id t os an h hm ld gl (fun _ _ => X) R (fun _ _ => hR) locs han hok hlt vs K' hv he (fun _ => rfl) Ks hf (LoudsG.louds hn (fun _ _ _ _ => rfl) ld Ks (fun _ h => h) hl) Kg hfg hg k
theorem Givens.nil {os : List Oper} {an : List Nat} {vl : List (Nat × (Wt → Value))} {S : (Nat → Bool) → (Nat → Wt) → World → Prop} : Givens P os an vl S [] [] := trivial
theorem Givens.cons {os : List Oper} {an : List Nat} {vl : List (Nat × (Wt → Value))} {S : (Nat → Bool) → (Nat → Wt) → World → Prop} {i : Nat} {f : (Nat → Wt) → Value} {r : List (Nat × ((Nat → Wt) → Value))} {Kl : (Nat → Wt) → List (Nat × Value)} {Ks : List ((Nat → Wt) → List (Nat × Value))}
    (h : ∀ u w, (execOp (evalK (Kl u)) (os.getD i default)).run P w = .ok (.value (f u)) w) (h2 : ∀ u u', (∀ j, behind an i j = true → (lk vl j).isSome = true → u j = u' j) → f u = f u') (k : Givens P os an vl S r Ks) : Givens P os an vl S ((i, f) :: r) (Kl :: Ks) := ⟨fun _ u w _ _ => h u w, h2, k⟩
theorem framesOk.nil {α : Type} {os : List Oper} {vs : (Nat → Wt) → List Value} : framesOk A K os vs ([] : List (Nat × α)) [] := trivial
theorem framesOk.cons {α : Type} {os : List Oper} {vs : (Nat → Wt) → List Value} {i : Nat} {a : α} {r : List (Nat × α)} {Kl : (Nat → Wt) → List (Nat × Value)} {Ks : List ((Nat → Wt) → List (Nat × Value))} (h : ∀ u, foldPut A K (os.take i) ((vs u).take i) = Kl u) (k : framesOk A K os vs r Ks) : framesOk A K os vs ((i, a) :: r) (Kl :: Ks) := ⟨h, k⟩
end
theorem Got.freezeK {α : Type} {d : Ty α} {l : List α} {w w' : World} {I J : Imm} {g : Nat} {ty : TypeId} {cs : List Value} (h : Got w w' I J [RW.kblk g ty cs]) (hr : Reps d J l cs) (hl : l.length ≤ 9223372036854775807) :
    ∃ J', J.le J' ∧ Got w w' I J' [] ∧ Rd d J' (some ⟨g, 0, none⟩) l := by
  have h1 := (h.sat).kblk
  obtain ⟨J', h2, h3, h4⟩ := h1.freezeL (i := 0) rfl hr hl ((h.rown _ (List.mem_singleton.2 rfl) g rfl).1)
  exact ⟨J', h2, h4.got _ (List.Sublist.refl _), h3⟩

end Go.Proofs.Ytieakigoinebdaa.RW
