/- Words of the walk, the functions' walks and plain laws, joined; no conditions beyond those that the theorems name. -/
import Derived.Test.YtfecniimkgkmfaaGreatY3
import Derived.WideShapes
import Derived.Test.YtfecniimkgkmfaaGreatProg
import Derived.Test.YtfecniimkgkmfaaGreatY2
import Derived.Shelf.SortM.Plain
import Derived.Shelf.SortM.SortNone
import Derived.Shelf.Slices.CompactI
import Derived.Ground.SlgmProg
import Derived.Ground.Names2Prog
import Derived.Sort.OwnSortedInts
import Derived.Scope
import Derived.Lib.AppendZeros
namespace Go.Proofs.YtfecniimkgkmfaaGreat.AM
open Go Go.RowKit Go.Proofs.YtfecniimkgkmfaaGreat.RW Go.ChangeShapes Go.WideShapes

/-- What a datum keeps to. -/
def TC.wf : (c : TC) → c.I → Prop
 | .int k, n => (Lit.int k n).wf = true
 | .bool, _ => True
 | .str, s => s.size ≤ maxLen
 | .unit, _ => True
 | .row c, l => l.length ≤ 9223372036854775807 ∧ ∀ x ∈ l, c.wf x
 | .pair a b, x => a.wf x.1 ∧ b.wf x.2
section
variable (P : Program)
mutual
def chkT : Nat → TypeId → TC → Bool
 | 0, _, _ => false
 | n + 1, t, c =>
  match P.underlying t with
  | some (.int k) => (match c with | .int k' => k == k' | _ => false)
  | some .bool => (match c with | .bool => true | _ => false)
  | some .string => (match c with | .str => true | _ => false)
  | some (.slice e) => (match c with | .row c => chkT n e c && (Nat.beq (P.cellsOf e) c.sz && Nat.blt 0 c.sz) | _ => false)
  | some (.struct fs) => chkF n 0 fs.toList c && Nat.beq (P.cellsOf t) c.sz
  | _ => false
def chkF : Nat → Nat → List Field → TC → Bool
 | 0, _, _, _ => false
 | n + 1, off, [f], c => Nat.beq f.offset off && (Nat.beq (P.cellsOf f.type) c.sz && chkT n f.type c)
 | n + 1, off, f :: r, .pair a b => Nat.beq f.offset off && (Nat.beq (P.cellsOf f.type) a.sz && (chkT n f.type a && chkF n (off + a.sz) r b))
 | _, _, _, _ => false
end
end
section
variable {P : Program}
theorem opens_tc : ∀ n, (∀ t c, chkT P n t c = true → Opens P c.ty t c.wf) ∧ (∀ off fs c, chkF P n off fs c = true → ∃ fl, OpensF P c.ty fl c.wf ∧ fs.map (fun f => (f.type, f.offset, P.cellsOf f.type)) = offs off fl ∧ total fl = c.sz)
 | 0 => ⟨fun t c h => by simp [chkT] at h, fun off fs c h => by simp [chkF] at h⟩
 | n + 1 => by
  obtain ⟨ihT, ihF⟩ := opens_tc n
  refine ⟨fun t c h => ?_, fun off fs c h => ?_⟩
  ·unfold chkT at h
   split at h
   ·rename_i k hu
    split at h
    ·rename_i k'
     have : k = k' := by simpa using h
     subst this
     intro H enc W base sp held fuel cs x hx
     exact (opens_int (P := P) hu) W base sp held fuel cs x hx
    ·cases h
   ·rename_i hu
    split at h
    ·intro H enc W base sp held fuel cs x hx
     exact (opens_bool (P := P) hu) W base sp held fuel cs x hx
    ·cases h
   ·rename_i hu
    split at h
    ·intro H enc W base sp held fuel cs x hx
     exact (opens_string (P := P) hu) W base sp held fuel cs x hx
    ·cases h
   ·rename_i e hu
    split at h
    ·rename_i c
     simp only [Bool.and_eq_true] at h
     obtain ⟨h1, h2, h3⟩ := h
     have h2 := Nat.eq_of_beq_eq_true h2
     have h3 : 0 < c.sz := Nat.le_of_ble_eq_true h3
     intro H enc W base sp held fuel cs x hx
     obtain ⟨a, hk, hp⟩ := (opens_slice (P := P) (ihT e c h1) hu (by rw [c.ty_sz]; exact h2) (by rw [c.ty_sz]; exact h3)) W base sp held fuel cs x hx
     have hk0 := hk
     obtain ⟨A, cp, _, _, hr⟩ := hk0
     exact ⟨a, hk, hr.1, hp⟩
    ·cases h
   ·rename_i fs hu
    simp only [Bool.and_eq_true] at h
    obtain ⟨h1, h2⟩ := h
    have h2 := Nat.eq_of_beq_eq_true h2
    obtain ⟨fl, k1, k2, k3⟩ := ihF 0 fs.toList c h1
    have hfo : P.fieldsOf t = fs := by simp [Program.fieldsOf, hu]
    intro H enc W base sp held fuel cs x hx
    exact (opens_struct (P := P) (t := t) k1 (by rw [hfo]; exact hu) (by rw [hfo]; exact k2) (by rw [h2, k3]) (f := id) (g := id) (fun _ => rfl)) W base sp held fuel cs x hx
   ·cases h
  ·cases fs with
   | nil => simp [chkF] at h
   | cons f r =>
    cases r with
    | nil =>
     simp only [chkF, Bool.and_eq_true] at h
     obtain ⟨h1, h2, h3⟩ := h
     have h1 := Nat.eq_of_beq_eq_true h1
     have h2 := Nat.eq_of_beq_eq_true h2
     refine ⟨[(f.type, c.sz)], opensF_one (ihT _ _ h3) _, ?_, rfl⟩
     simp [offs, h1, h2]
    | cons g r =>
     cases c with
     | pair a b =>
      simp only [chkF, Bool.and_eq_true] at h
      obtain ⟨h1, h2, h3, h4⟩ := h
      have h1 := Nat.eq_of_beq_eq_true h1
      have h2 := Nat.eq_of_beq_eq_true h2
      obtain ⟨fl, k1, k2, k3⟩ := ihF _ _ _ h4
      refine ⟨(f.type, a.sz) :: fl, opensF_cons a.sz (ihT _ _ h3) k1, ?_, by simp [total, TC.sz, k3]⟩
      rw [List.map_cons, k2]
      simp only [offs, h1, h2]
     | _ => simp [chkF] at h

def argP (P : Program) (t : TypeId) (c : TC) : PW := match P.underlying t with | some (.struct _) => .st c | _ => .c (.h c)
theorem arg_rel {W : World} {base : Nat} {t : TypeId} {c : TC} {v : Value} (π : Pi) (hc : chkT P 40 t c = true) (hval : Value.okWide P W .any base t v) {H : Type} {enc : TypeId × Value → H} {b : Nat} {sp : Nat → Bool} {held : Bool} {d : DataW H} {ps : List MemPlace} (h : DataW.Trod enc P W b sp held t v d ps) :
  ∃ a : c.I, c.wf a ∧ (argP P t c = .st c → relV π (wImm W) (.w (.agg (c.cells a))) v) ∧ (argP P t c = .c (.h c) → relV π (wImm W) (ac (c.one a)) v) := by
 obtain ⟨fuel, hf⟩ := h
 obtain ⟨a, hk, hwf⟩ := (opens_tc 40).1 t c hc W b sp held fuel _ _ hf
 refine ⟨a, hwf, fun hp => ?_, fun hp => ?_⟩
 ·unfold argP at hp
  split at hp
  ·rename_i fs hu
   obtain ⟨cs, rfl, _⟩ : ∃ cs, v = .agg cs ∧ _ := by
    simp only [Value.okWide, hu] at hval
    exact hval
   exact ⟨cs.toList, by simp, TC.cells_rel c a cs.toList hk⟩
  ·cases hp
 ·unfold argP at hp
  split at hp
  ·cases hp
  ·rename_i hns
   have one : v.oneCell' = true → c.ty.K (wImm W) a [v] → c.cells a = [c.one a] → relV π (wImm W) (ac (c.one a)) v := fun _ hk1 hce => by
    have := TC.cells_rel (π := π) c a [v] hk1
    rw [hce] at this
    exact this.1
   unfold chkT at hc
   split at hc
   ·rename_i k hu
    split at hc
    ·obtain ⟨n, rfl⟩ := okWide_int hu hval
     exact one rfl hk rfl
    ·cases hc
   ·rename_i hu
    split at hc
    ·obtain ⟨n, rfl⟩ := okWide_bool hu hval
     exact one rfl hk rfl
    ·cases hc
   ·rename_i hu
    split at hc
    ·obtain ⟨n, rfl⟩ := okWide_string hu hval
     exact one rfl hk rfl
    ·cases hc
   ·rename_i e hu
    split at hc
    ·obtain ⟨b1, len1, cap1, rfl⟩ := okWide_slice hu hval
     exact one rfl hk rfl
    ·cases hc
   ·rename_i fs hu
    exact absurd hu (hns fs)
   ·cases hc

/-- Arguments, told by slots. -/
def AR (W : World) : Nat → (sl : List (Nat × PV)) → SlI sl → List Value → Prop
 | _, [], _, [] => True
 | i, p :: r, x, v :: vs => p.1 = i ∧ relV (fun _ => none) (wImm W) (p.2.inst id x.1) v ∧ AR W (i + 1) r x.2 vs
 | _, _, _, _ => False
theorem AR.len {W : World} : ∀ {i : Nat} {sl : List (Nat × PV)} {x : SlI sl} {vs : List Value}, AR W i sl x vs → vs.length = sl.length
 | _, [], _, [], _ => rfl
 | _, _ :: _, _, _ :: _, h => by rw [List.length_cons, List.length_cons, h.2.2.len]
 | _, [], _, _ :: _, h => h.elim
 | _, _ :: _, _, [], h => h.elim
theorem AR.get {W : World} : ∀ {i : Nat} {sl : List (Nat × PV)} {x : SlI sl} {vs : List Value}, AR W i sl x vs → ∀ t av, lk (instSl id sl x) t = some av → i ≤ t ∧ ∃ v, vs[t - i]? = some v ∧ relV (fun _ => none) (wImm W) av v
 | _, [], _, [], _, _, _, h => by cases h
 | i, p :: r, x, v :: vs, hA, t, av, h => by
  obtain ⟨h1, h2, h3⟩ := hA
  simp only [instSl] at h
  rw [lk_cons] at h
  split at h
  ·rename_i e
   injection h with h
   subst h
   refine ⟨by omega, v, ?_, h2⟩
   rw [show t - i = 0 by omega]
   rfl
  ·obtain ⟨k1, u, k2, k3⟩ := h3.get t av h
   refine ⟨by omega, u, ?_, k3⟩
   rw [show t - i = (t - (i + 1)) + 1 by omega]
   simpa using k2
 | _, [], _, _ :: _, hA, _, _, _ => hA.elim
 | _, _ :: _, _, [], hA, _, _, _ => hA.elim
def oBool : OutD := ⟨1, ⟨[(0, .w (.c (.h .bool)))], []⟩, Bool, fun x => x.1.1, fun r => ((r, ()), ()), fun _ => rfl⟩
theorem law_calls {f : FuncId} {fn : Func} (hf : P.funcs[f]? = some fn) {sl : List (Nat × PV)} {g : SlI sl × Unit → Option Bool} (hF : FunOK P f ⟨⟨sl, []⟩, [oBool], g⟩) (x : SlI sl) (hg : g (x, ()) = some true) {W : World} {vs : List Value} (hlen : vs.length ≤ fn.ntmps) (hA : AR W 0 sl x vs) :
  Calls P f vs.toArray W fun e W' => e = .returned (.bool true) ∧ Below W.heap.size W W' := by
 have hs : SA ⟨W, fpS (fun _ => none) (lk ([] : AMem)), wImm W⟩ (wImm W) (fun _ => none) (lk ([] : AMem)) W :=
  ⟨Evo.refl _ _, fun _ _ => rfl, fun _ => trivial, fun _ _ h => h.elim, fun _ _ _ _ h => h.elim, wImm_at W, fun _ _ _ _ h => h.elim, Imm.le_refl _, fun _ _ h => .inl h⟩
 refine (hF (x, ()) true oBool true hg rfl (wImm W) (fun _ => none) W vs (fun fn' h' => by rw [hf] at h'; injection h' with h'; rw [← h']; exact hlen) hA.len (fun t av ht => ?_) hs).mono ?_
 ·obtain ⟨_, v, h1, h2⟩ := hA.get t av ht
  exact ⟨v, h1, h2⟩
 ·rintro e W' ⟨v, rfl, π', J, _, _, h3, h4⟩
  have hv : relV π' J (ac (.v (.bool true))) v := h4 _ rfl
  obtain ⟨hv, _⟩ := hv
  subst hv
  exact ⟨rfl, h3.evo.os, h3.evo.tape, h3.evo.output, h3.evo.size, fun k hk => h3.evo.blk k hk (fun ⟨i, hi⟩ => hi)⟩
end
end Go.Proofs.YtfecniimkgkmfaaGreat.AM
namespace Go.Proofs.YtfecniimkgkmfaaGreat.AM
open Go Go.RowKit Go.Proofs.YtfecniimkgkmfaaGreat.RW

abbrev pi : PV := .w (.c (.h (.int .i64)))
abbrev pb : PV := .w (.c (.h .bool))
abbrev ph (c : TC) : PV := .w (.c (.h c))
abbrev po (o : Nat) : PV := .w (.c (.sl o))
abbrev pp (o : Nat) : PV := .w (.c (.ptr o 0))
abbrev pst (c : TC) : PV := .w (.st c)
@[reducible] def ck {α : Type} (c : Bool) (x : Option α) : Option α := bif c then x else none
@[reducible] def sm {α β γ : Type} (z : α ⊕ β) (f : α → γ) (g : β → γ) : γ := match z with | .inl y => f y | .inr y => g y

def AllF (P : Program) : List (Nat × FragD) → Prop
 | [] => True
 | p :: r => FunOK P p.1 p.2 ∧ AllF P r
theorem AllF.all {P : Program} : ∀ {l : List (Nat × FragD)}, AllF P l → ∀ g d, (g, d) ∈ l → FunOK P g d
 | [], _, _, _, h => by cases h
 | p :: r, h, g, d, hm => by
  rcases List.mem_cons.1 hm with e | hm
  ·rw [← e] at h; exact h.1
  ·exact AllF.all h.2 g d hm
def AllFr (P : Program) (n : Nat) (K : Code) : List (Nat × FragD) → Prop
 | [] => True
 | p :: r => FragOK P n (atN K 400 p.1) p.2 ∧ AllFr P n K r
def AllL (k : Nat) (P : Program) (n : Nat) (K : Code) : List (Nat × FragD) → Prop
 | [] => True
 | p :: r => FragOKL k P n (atN K 400 (2 * p.1)) p.2 ∧ AllL k P n K r
theorem noL {P : Program} {n : Nat} {K : Code} : AllL 0 P n K [] := trivial
def okP (frs : List (Nat × FragD)) : Bool := frs.all fun p => Nat.blt (2 * p.1) (2 ^ 400)
theorem AllFr.ok {E : Env} {K : Code} {k : Nat} (h : AllFr E.P E.n K E.frs) (hL : AllL k E.P E.n K E.lps) (hp : (okP E.frs && okP E.lps) = true) : FrsOK E K := by
 rw [Bool.and_eq_true] at hp
 refine ⟨fun q d hq c hc => ?_, k, fun q d hq b hc => ?_⟩
 ·have hp := hp.1
  unfold okP at hp
  generalize E.frs = l at h hp hq
  induction l with
  | nil => cases hq
  | cons p l ih =>
   obtain ⟨j, a⟩ := p
   rw [List.all_cons, Bool.and_eq_true] at hp
   rw [lk_cons] at hq
   split at hq
   ·rename_i e
    subst e
    injection hq with hq
    subst hq
    have hlt : 2 * j < 2 ^ 400 := Nat.le_of_ble_eq_true hp.1
    rw [hc.uniq (by omega)]
    exact h.1
   ·exact ih h.2 hp.2 hq
 ·have hp := hp.2
  unfold okP at hp
  generalize E.lps = l at hL hp hq
  induction l with
  | nil => cases hq
  | cons p l ih =>
   obtain ⟨j, a⟩ := p
   rw [List.all_cons, Bool.and_eq_true] at hp
   rw [lk_cons] at hq
   split at hq
   ·rename_i e
    subst e
    injection hq with hq
    subst hq
    have hlt : 2 * j < 2 ^ 400 := Nat.le_of_ble_eq_true hp.1
    have hb : b = atN K 400 (2 * j) := by
     have := hc.left.uniq hlt
     exact this
    rw [hb]
    exact hL.1
   ·exact ih hL.2 hp.2 hq
theorem fragK (E : Env) {K : Code} {L : Option (List Nat)} {k : Nat} (hF : AllF E.P E.fns) (hR : AllFr E.P E.n K E.frs) (hL : AllL k E.P E.n K E.lps) (p : Nat) {d : FragD} (hp : (((okP E.frs && okP E.lps) && (Nat.ble 1 p && Nat.blt p (2 ^ 400))) && d.pin.ob.all PO.real) = true) (h : ∀ x, frRun E L (atN K 400 p) p d x = d.g x) : FragOKK L E.P E.n (atN K 400 p) d := by
 rw [Bool.and_eq_true, Bool.and_eq_true (okP E.frs && okP E.lps), Bool.and_eq_true (Nat.ble 1 p)] at hp
 exact frag_of_run E hF.all (hR.ok hL hp.1.1) (At.mk (Nat.le_of_ble_eq_true hp.1.2.1) (Nat.le_of_ble_eq_true hp.1.2.2)) hp.2 h
theorem fragR (E : Env) {K : Code} {k : Nat} (hF : AllF E.P E.fns) (hR : AllFr E.P E.n K E.frs) (hL : AllL k E.P E.n K E.lps) (p : Nat) {d : FragD} (hp : (((okP E.frs && okP E.lps) && (Nat.ble 1 p && Nat.blt p (2 ^ 400))) && d.pin.ob.all PO.real) = true) (h : ∀ x, frRun E none (atN K 400 p) p d x = d.g x) : FragOK E.P E.n (atN K 400 p) d :=
 (fragK E hF hR hL p hp h).ok
theorem funR (E : Env) (fn : Func) {f : FuncId} {k : Nat} (hf : E.P.funcs[f]? = some fn) (hb : fn.body = some (cBody fn)) (hn : fn.ntmps = E.n) (hF : AllF E.P E.fns) (hR : AllFr E.P E.n (cBody fn) E.frs) (hL : AllL k E.P E.n (cBody fn) E.lps) {d : FragD} (hp : ((okP E.frs && okP E.lps) && d.pin.ob.all PO.real) = true) (h : ∀ x, fnRun E fn d x = d.g x) : FunOK E.P f d := by
 rw [Bool.and_eq_true] at hp
 exact fun_of_run E hf hb hn hF.all (hR.ok hL hp.1) hp.2 h
theorem loopL {P : Program} {n : Nat} {K : Code} (L : LoopD) (p : Nat) (hc : (L.cs.all (fun q => q.2.flat && !(wr (atN K 400 (2 * p))).any (Nat.beq q.1)) && L.outsOk) = true) (hB : FragOKK (some L.K) P n (atN K 400 (2 * p)) L.bodyD)
  (G : Nat → (SlI (L.vs ++ L.cs) × ObI L.ob) → Option (OutI (L.q :: L.r))) (h0 : ∀ x, G 0 x = none) (hs : ∀ k x, G (k + 1) x = (L.step x).bind fun z => match z with | .inl r => G k (L.next x r) | .inr y => some y) (k : Nat) : FragOKL k P n (atN K 400 (2 * p)) (L.loopD (G k)) := by
 rw [Bool.and_eq_true] at hc
 exact loop_ok L hc.1 hc.2 hB G h0 hs k
theorem loopR {P : Program} {n : Nat} {K : Code} (L : LoopD) (p : Nat) (hl : atN K 400 p = .loop (atN K 400 (2 * p))) (hc : (L.cs.all (fun q => q.2.flat && !(wr (atN K 400 (2 * p))).any (Nat.beq q.1)) && L.outsOk) = true) (hB : FragOKK (some L.K) P n (atN K 400 (2 * p)) L.bodyD)
  (G : Nat → (SlI (L.vs ++ L.cs) × ObI L.ob) → Option (OutI (L.q :: L.r))) (h0 : ∀ x, G 0 x = none) (hs : ∀ k x, G (k + 1) x = (L.step x).bind fun z => match z with | .inl r => G k (L.next x r) | .inr y => some y) (k : Nat) : FragOK P n (atN K 400 p) (L.loopD (G k)) := by
 have h := loopL L p hc hB G h0 hs k
 rw [hl]
 exact fun x y q z hg ho I π a w k1 k2 k3 Q k4 => wp_loop_rounds k (h x y q z hg ho I π a w k1 k2 k3 Q k4)
end Go.Proofs.YtfecniimkgkmfaaGreat.AM
namespace Go.Proofs.YtfecniimkgkmfaaGreat
open Go Go.RowKit Go.Proofs.YtfecniimkgkmfaaGreat.RW
open Go.Proofs.YtfecniimkgkmfaaGreat.AM hiding lk
set_option linter.unusedVariables false
set_option maxRecDepth 100000

/-- From some fuel on, the answer is r. -/
def Ev {α : Type} (f : Nat → Option α) (r : α) : Prop := ∃ K, ∀ n, K ≤ n → f n = some r
theorem Ev.of {α : Type} {f : Nat → Option α} {r : α} (h : ∀ n, f n = some r) : Ev f r := ⟨0, fun n _ => h n⟩
theorem Ev.ret {α : Type} (r : α) : Ev (fun _ => some r) r := ⟨0, fun _ _ => rfl⟩
theorem Ev.bind {α β : Type} {f : Nat → Option α} {g : Nat → α → Option β} {a : α} {b : β} (h : Ev f a) (k : Ev (fun n => g n a) b) : Ev (fun n => (f n).bind (g n)) b := by
 obtain ⟨K, hK⟩ := h
 obtain ⟨L, hL⟩ := k
 refine ⟨max K L, fun n hn => ?_⟩
 show (f n).bind (g n) = some b
 rw [hK n (by omega)]
 exact hL n (by omega)
theorem Ev.ck {α : Type} {c : Bool} {f : Nat → Option α} {r : α} (hc : c = true) (h : Ev f r) : Ev (fun n => AM.ck c (f n)) r := by subst hc; exact h
theorem Ev.T {α : Type} {c : Bool} {f g : Nat → Option α} {r : α} (hc : c = true) (h : Ev f r) : Ev (fun n => bif c then f n else g n) r := by subst hc; exact h
theorem Ev.F {α : Type} {c : Bool} {f g : Nat → Option α} {r : α} (hc : c = false) (h : Ev g r) : Ev (fun n => bif c then f n else g n) r := by subst hc; exact h
theorem Ev.if {α : Type} {c : Bool} {f g : Nat → Option α} {r : α} (h : c = true → Ev f r) (k : c = false → Ev g r) : Ev (fun n => bif c then f n else g n) r := by
 cases c with
 | true => exact h rfl
 | false => exact k rfl
theorem Ev.congr {α : Type} {f g : Nat → Option α} {r : α} (h : ∀ n, f n = g n) (k : Ev g r) : Ev f r := by
 have : f = g := funext h
 rw [this]; exact k
theorem Ev.cast {α : Type} {f : Nat → Option α} {r s : α} (h : Ev f r) (e : r = s) : Ev f s := e ▸ h
theorem Ev.get {α : Type} {f : Nat → Option α} {r : α} (h : Ev f r) : ∃ n, f n = some r := by
 obtain ⟨K, hK⟩ := h
 exact ⟨K, hK K (Nat.le_refl _)⟩
/-! ### loops -/
def EvL {ρ : Type} (f : Nat → Nat → Option ρ) (r : ρ) : Prop := ∃ K, ∀ n k, K ≤ n → K ≤ k → f n k = some r
theorem EvL.diag {ρ : Type} {f : Nat → Nat → Option ρ} {r : ρ} (h : EvL f r) : Ev (fun n => f n n) r := by
 obtain ⟨K, hK⟩ := h
 exact ⟨K, fun n hn => hK n n hn hn⟩
section
variable {σ ρ : Type} {L : Nat → Nat → σ → Option ρ} {S : Nat → σ → Option (σ ⊕ ρ)}
theorem EvL.done (hL : ∀ n k s, L n (k + 1) s = (S n s).bind fun z => sm z (fun z => L n k z) some) {s : σ} {r : ρ} (h : Ev (fun n => S n s) (.inr r)) : EvL (fun n k => L n k s) r := by
 obtain ⟨K, hK⟩ := h
 refine ⟨K + 1, fun n k hn hk => ?_⟩
 obtain ⟨k, rfl⟩ : ∃ j, k = j + 1 := ⟨k - 1, by omega⟩
 show L n (k + 1) s = some r
 rw [hL, show S n s = _ from hK n (by omega)]
 rfl
theorem EvL.step (hL : ∀ n k s, L n (k + 1) s = (S n s).bind fun z => sm z (fun z => L n k z) some) {s s' : σ} {r : ρ} (h : Ev (fun n => S n s) (.inl s')) (k : EvL (fun n k => L n k s') r) : EvL (fun n k => L n k s) r := by
 obtain ⟨K, hK⟩ := h
 obtain ⟨M, hM⟩ := k
 refine ⟨max K M + 1, fun n k hn hk => ?_⟩
 obtain ⟨k, rfl⟩ : ∃ j, k = j + 1 := ⟨k - 1, by omega⟩
 show L n (k + 1) s = some r
 rw [hL, show S n s = _ from hK n (by omega)]
 exact hM n k (by omega) (by omega)
/-- A loop, told by the states of its rounds. -/
theorem loop_run (hL : ∀ n k s, L n (k + 1) s = (S n s).bind fun z => sm z (fun z => L n k z) some) (st : Nat → σ) (m : Nat) (r : ρ)
  (h : ∀ i, i < m → Ev (fun n => S n (st i)) (.inl (st (i + 1)))) (he : Ev (fun n => S n (st m)) (.inr r)) : Ev (fun n => L n n (st 0)) r := by
 have key : ∀ j i, i + j = m → EvL (fun n k => L n k (st i)) r := by
  intro j
  induction j with
  | zero =>
   intro i hi
   obtain rfl : i = m := by omega
   exact EvL.done hL he
  | succ j ih =>
   intro i hi
   exact EvL.step hL (h i (by omega)) (ih (i + 1) (by omega))
 exact (key m 0 (by omega)).diag
end
/-! ### words -/
theorem wr64 {n : Int} (h0 : -9223372036854775808 ≤ n) (h1 : n < 9223372036854775808) : W .i64 n = n := by
 unfold W IntKind.wrap
 have h2 : (2 : Int) ^ 64 = 18446744073709551616 := by decide
 have h3 : (2 : Int) ^ (64 - 1) = 9223372036854775808 := by decide
 simp only [IntKind.bits, IntKind.signed, Bool.true_and, h2, h3]
 split <;> simp only [decide_eq_true_eq, ge_iff_le] at * <;> omega
theorem wr64s (i : Nat) (h : i < 4611686018427387904) : W .i64 ((i : Int) + 1) = ((i + 1 : Nat) : Int) := by
 rw [wr64 (by omega) (by omega)]; omega
theorem inbT {i : Int} {n : Nat} (h0 : 0 ≤ i) (h1 : i < (n : Int)) : inb i n = true := decide_eq_true ⟨h0, h1⟩
theorem inbN {i n : Nat} (h : i < n) : inb (i : Int) n = true := decide_eq_true ⟨by omega, by omega⟩
theorem roomT {n b : Nat} (h : n * b ≤ 140737488355328) (h2 : n ≤ 140737488355328) : AM.room n b = true := decide_eq_true ⟨h, by omega⟩
theorem getD_lt {α : Type} {l : List α} {i : Nat} {d : α} (h : i < l.length) : l.getD i d = l[i] := by
 rw [List.getD_eq_getElem?_getD, List.getElem?_eq_getElem h]; rfl
theorem getD_int {α : Type} {l : List α} {i : Nat} {d : α} (h : i < l.length) : l.getD (i : Int).toNat d = l[i] := by
 rw [Int.toNat_natCast]; exact getD_lt h

/-! ### loops over a list -/
/-- A search: the first element for which the test says yes. -/
theorem find_run {α γ : Type} {L : Nat → Nat → Int × γ → Option ((Int × γ) ⊕ γ)} {S : Nat → Int × γ → Option ((Int × γ) ⊕ ((Int × γ) ⊕ γ))}
  (hL : ∀ n k s, L n (k + 1) s = (S n s).bind fun z => sm z (fun z => L n k z) some) (l : List α) (c : γ) (p : α → Bool) (hlen : l.length < 4611686018427387904)
  (hS : ∀ i (h : i < l.length), Ev (fun n => S n ((i : Int), c)) (bif p l[i] then .inr (.inl ((i : Int), c)) else .inl (((i + 1 : Nat) : Int), c)))
  (hE : Ev (fun n => S n ((l.length : Int), c)) (.inr (.inr c))) :
  Ev (fun n => L n n ((0 : Int), c)) (match l.findIdx? p with | some j => .inl ((j : Int), c) | none => .inr c) := by
 cases hf : l.findIdx? p with
 | none =>
  have hf' := List.findIdx?_eq_none_iff.1 hf
  refine loop_run hL (fun i => ((i : Int), c)) l.length (.inr c) (fun i hi => ?_) hE
  have := hS i hi
  rw [hf' l[i] (List.getElem_mem hi)] at this
  exact this
 | some j =>
  obtain ⟨hj, hp, hb⟩ := List.findIdx?_eq_some_iff_getElem.1 hf
  refine loop_run hL (fun i => ((i : Int), c)) j (.inl ((j : Int), c)) (fun i hi => ?_) ?_
  ·have := hS i (by omega)
   rw [show p l[i] = false from by simpa using hb i hi] at this
   exact this
  ·have := hS j hj
   rw [hp] at this
   exact this
/-- A sweep: a state is carried along. -/
theorem fold_run {α γ ρ : Type} {L : Nat → Nat → Int × γ → Option ρ} {S : Nat → Int × γ → Option ((Int × γ) ⊕ ρ)}
  (hL : ∀ n k s, L n (k + 1) s = (S n s).bind fun z => sm z (fun z => L n k z) some) (l : List α) (g : γ → α → γ) (c : γ) (r : ρ) (hlen : l.length < 4611686018427387904)
  (hS : ∀ i (h : i < l.length), Ev (fun n => S n ((i : Int), (l.take i).foldl g c)) (.inl (((i + 1 : Nat) : Int), g ((l.take i).foldl g c) l[i])))
  (hE : Ev (fun n => S n ((l.length : Int), l.foldl g c)) (.inr r)) :
  Ev (fun n => L n n ((0 : Int), c)) r := by
 refine loop_run hL (fun i => ((i : Int), (l.take i).foldl g c)) l.length r (fun i hi => ?_) ?_
 ·have := hS i hi
  simp only [List.take_add_one, List.getElem?_eq_getElem hi, Option.toList_some, List.foldl_append, List.foldl_cons, List.foldl_nil]
  exact this
 ·simp only [List.take_length]
  exact hE
end Go.Proofs.YtfecniimkgkmfaaGreat
set_option linter.unusedVariables false
namespace Go.Proofs.YtfecniimkgkmfaaGreat
open Go Go.RowKit Go.Proofs.YtfecniimkgkmfaaGreat.RW Go.Proofs.YtfecniimkgkmfaaGreat.AM
abbrev c41 : TC := .pair (.int .i64) (.pair .str (.row (.int .u8)))
abbrev S41 : Type := Int × ByteArray × List Int
abbrev z41 : S41 := (0, (⟨#[]⟩ : ByteArray), [])
abbrev c43 : TC := .pair (.int .i64) (.pair (.int .i64) (.pair (.int .i64) (.pair (.int .i64) (.pair (.int .u32) c41))))
abbrev S43 : Type := Int × Int × Int × Int × Int × S41
abbrev z43 : S43 := (0, 0, 0, 0, 0, z41)
abbrev c45 : TC := .pair (.int .i64) (.pair (.int .i64) (.pair (.int .i64) c43))
abbrev S45 : Type := Int × Int × Int × S43
abbrev z45 : S45 := (0, 0, 0, z43)
abbrev c25 : TC := .pair (.int .u8) (.pair (.row (.int .u8)) (.row c45))
abbrev S25 : Type := Int × List Int × List S45
abbrev z25 : S25 := (0, [], [])
abbrev c56 : TC := .pair (.int .i64) (.pair (.int .i64) (.pair (.int .i64) (.pair (.row c43) (.pair (.row c43) (.row c41)))))
abbrev S56 : Type := Int × Int × Int × List S43 × List S43 × List S41
abbrev z56 : S56 := (0, 0, 0, [], [], [])
abbrev c31 : TC := .pair (.row c56) (.pair (.row c43) (.pair (.row (.int .i64)) (.row (.int .i64))))
abbrev S31 : Type := List S56 × List S43 × List Int × List Int
abbrev z31 : S31 := ([], [], [], [])
abbrev c109 : TC := .pair (.int .i64) (.int .i64)
abbrev S109 : Type := Int × Int
abbrev z109 : S109 := (0, 0)
end Go.Proofs.YtfecniimkgkmfaaGreat
namespace Go.Proofs.YtfecniimkgkmfaaGreat
open Go Go.RowKit Go.Proofs.YtfecniimkgkmfaaGreat.RW
set_option linter.unusedVariables false
set_option maxRecDepth 100000
set_option maxHeartbeats 8000000

def crcStep (c : Int) : Int := bXor .u32 (Int.fdiv c 2) (W .u32 (3988292384 * bAnd .u32 c 1))
def crc8 : Nat → Int → Int
  | 0, c => c
  | n + 1, c => crc8 n (crcStep c)
def crcTab : List Int := (List.range 256).map fun (i : Nat) => crc8 8 (W .u32 (i : Int))
def ckStep (c x : Int) : Int := bXor .u32 (Int.fdiv c 256) (crcTab.getD (bXor .u8 (W .u8 c) x).toNat 0)
def codec_Checksum.f (b : List Int) : Option Int := some (bXor .u32 4294967295 (b.foldl ckStep 4294967295))

theorem own_newC {w0 : World} {I0 I : Imm} {nx : Nat} {L : List Blk} {X : List Res} {w : World} (hs : Sat ⟨w0, fun _ => False, I0⟩ I nx L X w) {i : Nat} {b : Blk} (hi : L[i]? = some b) : w0.heap.size ≤ b.g :=
  (hs.own b (List.mem_of_getElem? hi)).resolve_right (fun h => h)
theorem W64C {n : Int} (h0 : 0 ≤ n) (h1 : n < 9223372036854775808) : W .i64 n = n := by
  have h2 : (2 : Int) ^ 64 = 18446744073709551616 := by decide
  have h3 : (2 : Int) ^ 63 = 9223372036854775808 := by decide
  unfold W IntKind.wrap
  simp only [IntKind.bits, IntKind.signed, h2, h3, Nat.add_one_sub_one, Bool.true_and, decide_eq_true_eq]
  have h4 : n % 18446744073709551616 = n := Int.emod_eq_of_lt h0 (by omega)
  rw [h4, if_neg (by omega)]
theorem u8_range (x y : Int) : 0 ≤ bXor .u8 x y ∧ bXor .u8 x y < 256 := by
  have h2 : (2 : Int) ^ 8 = 256 := by decide
  unfold bXor IntKind.wrap
  simp only [IntKind.bits, IntKind.signed, h2, Bool.false_and, Bool.false_eq_true, if_false]
  exact ⟨Int.emod_nonneg _ (by omega), Int.emod_lt_of_pos _ (by omega)⟩
def tabV (tab : List Int) : List Value := (List.range 256).map fun j => .int .u32 (tab.getD j 0)
theorem RFacts.cells {B : Base} {I : Imm} {X : List Res} (xi : Nat) {g : Nat} {e : TypeId} {tab : List Int} {cs : List Value} (hl : tab.length = 256) (hX : X[xi]? = some (orow e 1 (some ⟨g, 0, none⟩) tab.length 256 cs)) (hr : Reps (Ty.int .u32) I tab cs) :
    RFacts B I X ((List.range 256).map fun j => (⟨g, j, none⟩, .int .u32 (tab.getD j 0))) := by
  intro nx L w hs r hrm
  obtain ⟨j, hj, rfl⟩ := List.mem_map.1 hrm
  have hj' : j < 256 := List.mem_range.1 hj
  have h1 := Ty.int_own hr (j : Int) (by omega) (by omega) 0 _ rfl
  simp only [Int.toNat_natCast, Nat.mul_one, Nat.add_zero] at h1
  have ho := hs.own_P hX
  show w.cell? ⟨g, j, none⟩ = _
  rw [ho.cellAt j (by rw [hl]; omega)]
  exact h1

noncomputable def c64 : Code := cBody Tryz.f128
noncomputable def c64r0 : Code := cL c64
noncomputable def c64a : Code := cR c64
noncomputable def c64r1 : Code := cL c64a
noncomputable def c64b : Code := cR c64a
noncomputable def c64c : Code := cL c64b
noncomputable def c64e : Code := cR c64b
noncomputable def c64r2 : Code := cL c64c
noncomputable def c64k0 : Code := cR c64c
noncomputable def c64lp : Code := cL c64k0
noncomputable def c64in : Code := cL c64lp
noncomputable def c64r3 : Code := cL c64in
noncomputable def c64d : Code := cR c64in
noncomputable def c64cd : Code := cL c64d
noncomputable def c64g : Code := cR c64d
noncomputable def c64k1 : Code := cL c64g
noncomputable def c64r11 : Code := cR c64g
noncomputable def c64bd : Code := cL c64k1
noncomputable def c64r4 : Code := cL c64bd
noncomputable def c64h : Code := cR c64bd
noncomputable def c64r5 : Code := cL c64h
noncomputable def c64i : Code := cR c64h
noncomputable def c64j : Code := cL c64i
noncomputable def c64r10 : Code := cR c64i
noncomputable def c64r6 : Code := cL c64j
noncomputable def c64k2 : Code := cR c64j
noncomputable def c64lq : Code := cL c64k2
noncomputable def c64jn : Code := cL c64lq
noncomputable def c64r7 : Code := cL c64jn
noncomputable def c64l : Code := cR c64jn
noncomputable def c64ce : Code := cL c64l
noncomputable def c64m : Code := cR c64l
noncomputable def c64k3 : Code := cL c64m
noncomputable def c64r9 : Code := cR c64m
noncomputable def c64r8 : Code := cL c64k3
noncomputable def c64r12 : Code := cL c64e
noncomputable def c64t : Code := cR c64e
noncomputable def o64 : Nat → List Oper
  | 0 => cOps c64r0
  | 1 => cOps c64r1
  | 2 => cOps c64r2
  | 3 => cOps c64r3
  | 4 => cOps c64r4
  | 5 => cOps c64r5
  | 6 => cOps c64r6
  | 7 => cOps c64r7
  | 8 => cOps c64r8
  | 9 => cOps c64r9
  | 10 => cOps c64r10
  | 11 => cOps c64r11
  | _ => cOps c64r12
def lT (i : Nat) : List Int := crcTab.take i ++ List.replicate (256 - i) 0
theorem crcTab_length : crcTab.length = 256 := by simp [crcTab]
theorem lT_length {i : Nat} (h : i ≤ 256) : (lT i).length = 256 := by
  simp only [lT, List.length_append, List.length_take, List.length_replicate, crcTab_length]
  omega
theorem lT_next {i : Nat} (h : i < 256) : (lT i).set i (crc8 8 (W .u32 (i : Int))) = lT (i + 1) := by
  have hl := crcTab_length
  have hc : crcTab.take (i + 1) = crcTab.take i ++ [crc8 8 (W .u32 (i : Int))] := by
    rw [List.take_succ_eq_append_getElem (by omega)]
    congr 2
    simp [crcTab]
  unfold lT
  rw [hc, List.set_append_right _ _ (by rw [List.length_take]; omega), List.length_take, Nat.min_eq_left (by omega), Nat.sub_self, show 256 - i = (256 - (i + 1)) + 1 from by omega, List.replicate_succ, List.set_cons_zero, List.append_assoc]
  rfl
theorem lT_end : lT 256 = crcTab := by
  unfold lT
  rw [List.take_of_length_le (by rw [crcTab_length]; omega)]
  simp
def codec_crcTable.Post (I : Imm) (w : World) (v : Value) (w' : World) : Prop := ∃ (J : Imm), v = .agg (tabV crcTab).toArray ∧ Got w w' I J []
def inv64 (g0 g1 : Nat) (I0 : Imm) (kq : Nat) : St := fun K I _ L X => ∃ (i : Nat) (cs : List Value), K = [(4, .int .i64 (i : Int)), (0, .pointer (some ⟨g0, 0, none⟩)), (1, .pointer (some ⟨g1, 0, none⟩))] ∧ L = [⟨g0, List.replicate 256 (.int .u32 0), 152⟩] ∧
  X = [orow 152 1 (some ⟨g1, 0, none⟩) (lT i).length 256 cs] ∧ I = I0 ∧ i + kq = 257 ∧ i ≤ 256 ∧ Reps (Ty.int .u32) I0 (lT i) cs
def jnv64 (g0 g1 i : Nat) (cs : List Value) (I0 : Imm) (c0 : Int) (kq : Nat) : St := fun K I _ L X => ∃ (j : Nat) (c : Int), K = [(9, .int .i64 (j : Int)), (3, .int .u32 c), (2, .int .i64 (i : Int)), (4, .int .i64 (i : Int)), (0, .pointer (some ⟨g0, 0, none⟩)), (1, .pointer (some ⟨g1, 0, none⟩))] ∧ L = [⟨g0, List.replicate 256 (.int .u32 0), 152⟩] ∧
  X = [orow 152 1 (some ⟨g1, 0, none⟩) (lT i).length 256 cs] ∧ I = I0 ∧ j + kq = 9 ∧ j ≤ 8 ∧ crc8 (8 - j) c = c0
theorem codec_crcTable.calls (I0 : Imm) (w : World) (hI : I0.at_ w) : Calls Tryz.prog 128 [].toArray w fun e w' => ∃ v, e = .returned v ∧ codec_crcTable.Post I0 w v w' := by
  refine calls_body Tryz.func128 (by kernel_rfl) 23 (by kernel_rfl) (by kernel_rfl) ⟨w, fun _ => False, I0⟩ I0 [] [] (by kernel_rfl) (Sat.start w _ I0 hI) ?_
  generalize w.heap.size = nx0
  show OK _ c64 _ _ _ _ _ _ _ _
  refine OK.seq c64r0 c64a (by kernel_rfl) ?_
  refine OK.region 0 (o64 0) (by kernel_rfl) ?_
  refine RL.simP (K' := [(0, .pointer (some ⟨nx0, 0, none⟩))]) (nx' := nx0 + 1) (L' := [⟨nx0, List.replicate 256 (.int .u32 0), 152⟩]) [] (RFacts.nil _ _ _) 1 [.no] (by kernel_rfl) (by kernel_rfl) ?_
  refine RL.nil (by kernel_rfl) ?_
  refine QN.then_ ?_
  refine OK.seq c64r1 c64b (by kernel_rfl) ?_
  refine OK.region 1 (o64 1) (by kernel_rfl) ?_
  refine RL.simP (K' := [(0, .pointer (some ⟨nx0, 0, none⟩)), (1, .pointer (some ⟨nx0 + 1, 0, none⟩))]) (nx' := nx0 + 2) (L' := [⟨nx0, List.replicate 256 (.int .u32 0), 152⟩, ⟨nx0 + 1, List.replicate 256 (.int .u32 0), 152⟩]) [] (RFacts.nil _ _ _) 1 [.no] (by kernel_rfl) (by kernel_rfl) ?_
  refine RL.toRow (b := ⟨nx0 + 1, List.replicate 256 (.int .u32 0), 152⟩) 1 256 1 rfl (by simp) (by decide) ?_
  refine RL.norm (L' := [⟨nx0, List.replicate 256 (.int .u32 0), 152⟩]) (X' := [orow 152 1 (some ⟨nx0 + 1, 0, none⟩) (lT 0).length 256 (List.replicate 256 (.int .u32 0))]) rfl rfl rfl (by rw [lT_length (by omega)]; rfl) ?_
  generalize nx0 + 1 = g1
  refine RL.nil (by kernel_rfl) ?_
  refine QN.then_ ?_
  refine OK.seq c64c c64e (by kernel_rfl) ?_
  refine OK.seq c64r2 c64k0 (by kernel_rfl) ?_
  refine OK.region 2 (o64 2) (by kernel_rfl) ?_
  refine RL.simP (K' := [(4, .int .i64 ((0 : Nat) : Int)), (0, .pointer (some ⟨nx0, 0, none⟩)), (1, .pointer (some ⟨g1, 0, none⟩))]) (nx' := nx0 + 2) (L' := [⟨nx0, List.replicate 256 (.int .u32 0), 152⟩]) [] (RFacts.nil _ _ _) 1 [.no] (by kernel_rfl) (by kernel_rfl) ?_
  refine RL.nil (by kernel_rfl) ?_
  refine QN.then_ ?_
  refine OK.block 0 c64lp (by kernel_rfl) ?_
  have hz : Reps (Ty.int .u32) I0 (lT 0) (List.replicate 256 (.int .u32 0)) := by
    have : lT 0 = List.replicate 256 0 := by simp [lT]
    rw [this]
    exact Reps.zeros rfl 256
  refine OK.loopInv c64in (by kernel_rfl) (inv64 nx0 g1 I0) 257 ⟨0, _, rfl, rfl, rfl, rfl, rfl, by omega, hz⟩ (fun K I nx L X h => ?_) ?_
  · obtain ⟨i, cs, _, _, _, _, h5, h6, _⟩ := h
    omega
  rintro kq _ _ nx _ _ ⟨i, cs, rfl, rfl, rfl, rfl, hi1, hi2, hcs⟩ Q' hJn hQ
  refine OK.seq c64r3 c64d (by kernel_rfl) ?_
  refine OK.region 3 (o64 3) (by kernel_rfl) ?_
  refine RL.simP (K' := [(5, .bool (decide ((i : Int) < 256))), (4, .int .i64 (i : Int)), (0, .pointer (some ⟨nx0, 0, none⟩)), (1, .pointer (some ⟨g1, 0, none⟩))]) (nx' := nx) (L' := [⟨nx0, List.replicate 256 (.int .u32 0), 152⟩]) [] (RFacts.nil _ _ _) 1 [.no] (by kernel_rfl) (by kernel_rfl) ?_
  refine RL.nil (by kernel_rfl) ?_
  refine QN.then_ ?_
  refine OK.seq c64cd c64g (by kernel_rfl) ?_
  refine OK.cond (.tmp 5) (cL c64cd) (cR c64cd) (decide ((i : Int) < 256)) (by kernel_rfl) (by kernel_rfl) (by kernel_rfl) (fun hb => ?_) (fun hb => ?_)
  rotate_left
  · have hlt : ¬ ((i : Int) < 256) := of_decide_eq_false hb
    obtain rfl : i = 256 := by omega
    refine OK.exit 0 (by kernel_rfl) ?_
    refine QN.thenE ?_
    refine QN.outE hQ ?_
    refine QN.blkE ?_
    refine QN.then_ ?_
    refine OK.seq c64r12 c64t (by kernel_rfl) ?_
    refine OK.region 12 (o64 12) (by kernel_rfl) ?_
    rw [lT_end] at hcs ⊢
    have hcl := crcTab_length
    generalize htab : crcTab = tab at hcs hcl
    refine RL.simP (K' := [(0, .pointer (some ⟨nx0, 0, none⟩))]) (nx' := nx) (L' := [⟨nx0, tabV tab, 152⟩]) ((List.range 256).map fun j => (⟨g1, j, none⟩, .int .u32 (tab.getD j 0))) (RFacts.cells 0 hcl rfl hcs) 2 [.r 0, .l 0] (by kernel_rfl) (by kernel_rfl) ?_
    refine RL.nil (by kernel_rfl) ?_
    refine QN.then_ ?_
    refine OK.ret (by kernel_rfl) ?_
    refine QN.body rfl [] (RFacts.nil _ _ _) (.l 0) (.agg (tabV tab).toArray) (by kernel_rfl) (by kernel_rfl) (by kernel_rfl) ?_ _ (.inr rfl)
    exact fun w' hs' => ⟨_, rfl, _, by rw [htab], hs'.got _ (List.nil_sublist _)⟩
  have hlt : (i : Int) < 256 := of_decide_eq_true hb
  refine OK.skip (by kernel_rfl) ?_
  refine QN.then_ ?_
  refine OK.seq c64k1 c64r11 (by kernel_rfl) ?_
  refine OK.block 1 c64bd (by kernel_rfl) ?_
  refine OK.seq c64r4 c64h (by kernel_rfl) ?_
  refine OK.region 4 (o64 4) (by kernel_rfl) ?_
  refine RL.simP (K' := [(2, .int .i64 (i : Int)), (4, .int .i64 (i : Int)), (0, .pointer (some ⟨nx0, 0, none⟩)), (1, .pointer (some ⟨g1, 0, none⟩))]) (nx' := nx) (L' := [⟨nx0, List.replicate 256 (.int .u32 0), 152⟩]) [] (RFacts.nil _ _ _) 2 [.no, .no] (by kernel_rfl) (by kernel_rfl) ?_
  refine RL.nil (by kernel_rfl) ?_
  refine QN.then_ ?_
  refine OK.seq c64r5 c64i (by kernel_rfl) ?_
  refine OK.region 5 (o64 5) (by kernel_rfl) ?_
  refine RL.simP (K' := [(3, .int .u32 (W .u32 (i : Int))), (2, .int .i64 (i : Int)), (4, .int .i64 (i : Int)), (0, .pointer (some ⟨nx0, 0, none⟩)), (1, .pointer (some ⟨g1, 0, none⟩))]) (nx' := nx) (L' := [⟨nx0, List.replicate 256 (.int .u32 0), 152⟩]) [] (RFacts.nil _ _ _) 3 [.no, .no, .no] (by kernel_rfl) (by kernel_rfl) ?_
  refine RL.nil (by kernel_rfl) ?_
  refine QN.then_ ?_
  refine OK.seq c64j c64r10 (by kernel_rfl) ?_
  refine OK.seq c64r6 c64k2 (by kernel_rfl) ?_
  refine OK.region 6 (o64 6) (by kernel_rfl) ?_
  refine RL.simP (K' := [(9, .int .i64 ((0 : Nat) : Int)), (3, .int .u32 (W .u32 (i : Int))), (2, .int .i64 (i : Int)), (4, .int .i64 (i : Int)), (0, .pointer (some ⟨nx0, 0, none⟩)), (1, .pointer (some ⟨g1, 0, none⟩))]) (nx' := nx) (L' := [⟨nx0, List.replicate 256 (.int .u32 0), 152⟩]) [] (RFacts.nil _ _ _) 1 [.no] (by kernel_rfl) (by kernel_rfl) ?_
  refine RL.nil (by kernel_rfl) ?_
  refine QN.then_ ?_
  refine OK.block 2 c64lq (by kernel_rfl) ?_
  refine OK.loopInv c64jn (by kernel_rfl) (jnv64 nx0 g1 i cs _ (crc8 8 (W .u32 (i : Int)))) 9 ⟨0, _, rfl, rfl, rfl, rfl, rfl, by omega, rfl⟩ (fun K I nx L X h => ?_) ?_
  · obtain ⟨j, c, _, _, _, _, h5, h6, _⟩ := h
    omega
  rintro kr _ _ nx3 _ _ ⟨j, c, rfl, rfl, rfl, rfl, hj1, hj2, hc⟩ Q2 hJn2 hQ2
  refine OK.seq c64r7 c64l (by kernel_rfl) ?_
  refine OK.region 7 (o64 7) (by kernel_rfl) ?_
  refine RL.simP (K' := [(10, .bool (decide ((j : Int) < 8))), (9, .int .i64 (j : Int)), (3, .int .u32 c), (2, .int .i64 (i : Int)), (4, .int .i64 (i : Int)), (0, .pointer (some ⟨nx0, 0, none⟩)), (1, .pointer (some ⟨g1, 0, none⟩))]) (nx' := nx3) (L' := [⟨nx0, List.replicate 256 (.int .u32 0), 152⟩]) [] (RFacts.nil _ _ _) 1 [.no] (by kernel_rfl) (by kernel_rfl) ?_
  refine RL.nil (by kernel_rfl) ?_
  refine QN.then_ ?_
  refine OK.seq c64ce c64m (by kernel_rfl) ?_
  refine OK.cond (.tmp 10) (cL c64ce) (cR c64ce) (decide ((j : Int) < 8)) (by kernel_rfl) (by kernel_rfl) (by kernel_rfl) (fun hb => ?_) (fun hb => ?_)
  rotate_left
  · have hlt2 : ¬ ((j : Int) < 8) := of_decide_eq_false hb
    obtain rfl : j = 8 := by omega
    obtain rfl : c = crc8 8 (W .u32 (i : Int)) := hc
    refine OK.exit 2 (by kernel_rfl) ?_
    refine QN.thenE ?_
    refine QN.outE hQ2 ?_
    refine QN.blkE ?_
    refine QN.then_ ?_
    refine OK.region 10 (o64 10) (by kernel_rfl) ?_
    refine RL.simP (K' := [(18, .int .i64 (i : Int)), (19, .int .u32 (crc8 8 (W .u32 (i : Int)))), (4, .int .i64 (i : Int)), (0, .pointer (some ⟨nx0, 0, none⟩)), (1, .pointer (some ⟨g1, 0, none⟩))]) (nx' := nx3) (L' := [⟨nx0, List.replicate 256 (.int .u32 0), 152⟩]) [] (RFacts.nil _ _ _) 2 [.no, .no] (by kernel_rfl) (by kernel_rfl) ?_
    refine RL.idxArr 1 .i64 (i : Int) g1 0 256 (some 20) (by kernel_rfl) (by kernel_rfl) (T := 152) (e := 39) (by kernel_rfl) (by kernel_rfl) (by omega) hlt (K' := [(20, .pointer (some ⟨g1, 0 + (i : Int).toNat * 1, none⟩)), (18, .int .i64 (i : Int)), (19, .int .u32 (crc8 8 (W .u32 (i : Int)))), (4, .int .i64 (i : Int)), (0, .pointer (some ⟨nx0, 0, none⟩)), (1, .pointer (some ⟨g1, 0, none⟩))]) (by kernel_rfl) ?_
    have hli : (lT i).length = 256 := lT_length (by omega)
    refine RL.storeL (T := 39) (e := 152) 1 0 rfl 256 (i : Int) cs [.int .u32 (crc8 8 (W .u32 (i : Int)))] (.int .u32 (crc8 8 (W .u32 (i : Int)))) (Ty.int .u32) (lT i) (crc8 8 (W .u32 (i : Int))) (by kernel_rfl) (by kernel_rfl) (by kernel_rfl) rfl rfl rfl rfl hcs (by omega) (by rw [hli]; exact hlt) (fun cs2 h2 => ?_)
    rw [Int.toNat_natCast, lT_next (by omega)] at h2 ⊢
    refine RL.nil (by kernel_rfl) ?_
    refine QN.blkN ?_
    refine QN.then_ ?_
    refine OK.region 11 (o64 11) (by kernel_rfl) ?_
    refine RL.simP (K' := [(4, .int .i64 (W .i64 ((i : Int) + 1))), (0, .pointer (some ⟨nx0, 0, none⟩)), (1, .pointer (some ⟨g1, 0, none⟩))]) (nx' := nx3) (L' := [⟨nx0, List.replicate 256 (.int .u32 0), 152⟩]) [] (RFacts.nil _ _ _) 2 [.no, .no] (by kernel_rfl) (by kernel_rfl) ?_
    refine RL.nil (by kernel_rfl) ?_
    rw [W64C (by omega) (by omega), show ((i : Int) + 1) = ((i + 1 : Nat) : Int) from by omega]
    exact hJn _ _ _ _ _ ⟨i + 1, cs2, rfl, rfl, rfl, rfl, by omega, by omega, h2⟩
  have hlt2 : (j : Int) < 8 := of_decide_eq_true hb
  refine OK.skip (by kernel_rfl) ?_
  refine QN.then_ ?_
  refine OK.seq c64k3 c64r9 (by kernel_rfl) ?_
  refine OK.block 3 c64r8 (by kernel_rfl) ?_
  refine OK.region 8 (o64 8) (by kernel_rfl) ?_
  refine RL.simP (K' := [(3, .int .u32 (crcStep c)), (9, .int .i64 (j : Int)), (2, .int .i64 (i : Int)), (4, .int .i64 (i : Int)), (0, .pointer (some ⟨nx0, 0, none⟩)), (1, .pointer (some ⟨g1, 0, none⟩))]) (nx' := nx3) (L' := [⟨nx0, List.replicate 256 (.int .u32 0), 152⟩]) [] (RFacts.nil _ _ _) 7 [] (by kernel_rfl) (by kernel_rfl) ?_
  refine RL.nil (by kernel_rfl) ?_
  refine QN.blkN ?_
  refine QN.then_ ?_
  refine OK.region 9 (o64 9) (by kernel_rfl) ?_
  refine RL.simP (K' := [(9, .int .i64 (W .i64 ((j : Int) + 1))), (3, .int .u32 (crcStep c)), (2, .int .i64 (i : Int)), (4, .int .i64 (i : Int)), (0, .pointer (some ⟨nx0, 0, none⟩)), (1, .pointer (some ⟨g1, 0, none⟩))]) (nx' := nx3) (L' := [⟨nx0, List.replicate 256 (.int .u32 0), 152⟩]) [] (RFacts.nil _ _ _) 2 [.no, .no] (by kernel_rfl) (by kernel_rfl) ?_
  refine RL.nil (by kernel_rfl) ?_
  rw [W64C (by omega) (by omega), show ((j : Int) + 1) = ((j + 1 : Nat) : Int) from by omega]
  refine hJn2 _ _ _ _ _ ⟨j + 1, crcStep c, rfl, rfl, rfl, rfl, by omega, by omega, ?_⟩
  rw [show 8 - j = (8 - (j + 1)) + 1 from by omega] at hc
  exact hc

noncomputable def c48 : Code := cBody Tryz.f115
noncomputable def c48r0 : Code := cL c48
noncomputable def c48a : Code := cR c48
noncomputable def c48r1 : Code := cL c48a
noncomputable def c48b : Code := cR c48a
noncomputable def c48c : Code := cL c48b
noncomputable def c48e : Code := cR c48b
noncomputable def c48r2 : Code := cL c48c
noncomputable def c48k0 : Code := cR c48c
noncomputable def c48lp : Code := cL c48k0
noncomputable def c48in : Code := cL c48lp
noncomputable def c48r3 : Code := cL c48in
noncomputable def c48d : Code := cR c48in
noncomputable def c48cd : Code := cL c48d
noncomputable def c48g : Code := cR c48d
noncomputable def c48k1 : Code := cL c48g
noncomputable def c48r6 : Code := cR c48g
noncomputable def c48bd : Code := cL c48k1
noncomputable def c48r4 : Code := cL c48bd
noncomputable def c48r5 : Code := cR c48bd
noncomputable def c48r7 : Code := cL c48e
noncomputable def c48t : Code := cR c48e
noncomputable def o48 : Nat → List Oper
  | 0 => cOps c48r0
  | 1 => cOps c48r1
  | 2 => cOps c48r2
  | 3 => cOps c48r3
  | 4 => cOps c48r4
  | 5 => cOps c48r5
  | 6 => cOps c48r6
  | _ => cOps c48r7
def codec_Checksum.Post (I : Imm) (w : World) (r : Int) (v : Value) (w' : World) : Prop := ∃ (J : Imm), v = .int .u32 r ∧ Got w w' I J []
theorem tabV_at (tab : List Int) {j : Nat} (h : j < 256) : (tabV tab)[j]? = some (.int .u32 (tab.getD j 0)) := by
  unfold tabV
  rw [List.getElem?_map, List.getElem?_range h]
  rfl
def inv48 (a0 : List Int) (Ap0 : Option Addr) (cp0 g3 : Nat) (I0 : Imm) (c0 : Int) (kq : Nat) : St := fun K I _ L X => ∃ (i : Nat) (c : Int), K = [(8, .slice Ap0 a0.length cp0), (9, .int .i64 (a0.length : Int)), (10, .int .i64 (i : Int)), (4, .int .u32 c), (3, .pointer (some ⟨g3, 0, none⟩))] ∧ L = [] ∧ X = [] ∧ I = I0 ∧ i + kq = a0.length + 1 ∧ i ≤ a0.length ∧ (a0.drop i).foldl ckStep c = c0
theorem codec_Checksum.calls (I0 : Imm) (a0 : List Int) (Ap0 : Option Addr) (cp0 : Nat) (w : World) (hI : I0.at_ w) (hlp0 : a0.length ≤ cp0) (hrp0 : Rd (Ty.int .u8) I0 Ap0 a0) (r : Int) (h : codec_Checksum.f a0 = some r) :
    Calls Tryz.prog 115 [.slice Ap0 a0.length cp0].toArray w fun e w' => ∃ v, e = .returned v ∧ codec_Checksum.Post I0 w r v w' := by
  obtain rfl := Option.some.inj h
  clear h
  refine calls_body Tryz.func115 (by kernel_rfl) 26 (by kernel_rfl) (by kernel_rfl) ⟨w, fun _ => False, I0⟩ I0 [] [(0, .slice Ap0 a0.length cp0)] (by kernel_rfl) (Sat.start w _ I0 hI) ?_
  generalize w.heap.size = nx0
  show OK _ c48 _ _ _ _ _ _ _ _
  refine OK.seq c48r0 c48a (by kernel_rfl) ?_
  refine OK.region 0 (o48 0) (by kernel_rfl) ?_
  refine RL.simP (K' := [(0, .slice Ap0 a0.length cp0)]) (nx' := nx0) (L' := []) [] (RFacts.nil _ _ _) 1 [.no] (by kernel_rfl) (by kernel_rfl) ?_
  refine RL.nil (by kernel_rfl) ?_
  refine QN.then_ ?_
  refine OK.seq c48r1 c48b (by kernel_rfl) ?_
  refine OK.region 1 (o48 1) (by kernel_rfl) ?_
  refine RL.callP 128 [] (some 7) (fun w => codec_crcTable.Post I0 w) (by kernel_rfl) (by kernel_rfl) (fun w hs => codec_crcTable.calls I0 w hs.im) ?_
  rintro w v w' hs ⟨J, rfl, hg⟩
  have hJ := hg.le
  refine RL.resume (K' := [(7, .agg (tabV crcTab).toArray), (0, .slice Ap0 a0.length cp0)]) (X' := []) rfl (hs.call hg) ?_
  clear hs hg
  generalize w'.heap.size = nx1
  clear w w'
  obtain ⟨tab, htab⟩ : ∃ tab, crcTab = tab := ⟨_, rfl⟩
  rw [htab]
  refine RL.simP (K' := [(4, .int .u32 4294967295), (3, .pointer (some ⟨nx1, 0, none⟩)), (0, .slice Ap0 a0.length cp0)]) (nx' := nx1 + 1) (L' := [⟨nx1, tabV tab, 152⟩]) [] (RFacts.nil _ _ _) 3 [.no, .l 0, .no] (by kernel_rfl) (by kernel_rfl) ?_
  refine RL.immL 0 rfl (fun w hs => own_newC hs (i := 0) rfl) (fun J1 hJ1 ht => ?_)
  generalize nx1 = g3 at ht ⊢
  refine RL.nil (by kernel_rfl) ?_
  refine QN.then_ ?_
  refine OK.seq c48c c48e (by kernel_rfl) ?_
  refine OK.seq c48r2 c48k0 (by kernel_rfl) ?_
  refine OK.region 2 (o48 2) (by kernel_rfl) ?_
  refine RL.simP (K' := [(8, .slice Ap0 a0.length cp0), (9, .int .i64 (a0.length : Int)), (10, .int .i64 ((0 : Nat) : Int)), (4, .int .u32 4294967295), (3, .pointer (some ⟨g3, 0, none⟩))]) (nx' := g3 + 1) (L' := []) [] (RFacts.nil _ _ _) 3 [.no, .no, .no] (by kernel_rfl) (by kernel_rfl) ?_
  refine RL.nil (by kernel_rfl) ?_
  refine QN.then_ ?_
  refine OK.block 0 c48lp (by kernel_rfl) ?_
  refine OK.loopInv c48in (by kernel_rfl) (inv48 a0 Ap0 cp0 g3 J1 (a0.foldl ckStep 4294967295)) (a0.length + 1) ⟨0, _, rfl, rfl, rfl, rfl, by omega, by omega, rfl⟩ (fun K I nx L X h => ?_) ?_
  · obtain ⟨i, c, _, _, _, _, h5, h6, _⟩ := h
    omega
  rintro kq _ J1 nx _ _ ⟨i, c, rfl, rfl, rfl, rfl, hi1, hi2, hc⟩ Q' hJn hQ
  refine OK.seq c48r3 c48d (by kernel_rfl) ?_
  refine OK.region 3 (o48 3) (by kernel_rfl) ?_
  refine RL.simP (K' := [(11, .bool (decide ((i : Int) < (a0.length : Int)))), (8, .slice Ap0 a0.length cp0), (9, .int .i64 (a0.length : Int)), (10, .int .i64 (i : Int)), (4, .int .u32 c), (3, .pointer (some ⟨g3, 0, none⟩))]) (nx' := nx) (L' := []) [] (RFacts.nil _ _ _) 1 [.no] (by kernel_rfl) (by kernel_rfl) ?_
  refine RL.nil (by kernel_rfl) ?_
  refine QN.then_ ?_
  refine OK.seq c48cd c48g (by kernel_rfl) ?_
  refine OK.cond (.tmp 11) (cL c48cd) (cR c48cd) (decide ((i : Int) < (a0.length : Int))) (by kernel_rfl) (by kernel_rfl) (by kernel_rfl) (fun hb => ?_) (fun hb => ?_)
  rotate_left
  · have hlt : ¬ ((i : Int) < (a0.length : Int)) := of_decide_eq_false hb
    obtain rfl : i = a0.length := by omega
    rw [List.drop_length] at hc
    obtain rfl : c = _ := hc
    refine OK.exit 0 (by kernel_rfl) ?_
    refine QN.thenE ?_
    refine QN.outE hQ ?_
    refine QN.blkE ?_
    refine QN.then_ ?_
    refine OK.seq c48r7 c48t (by kernel_rfl) ?_
    refine OK.region 7 (o48 7) (by kernel_rfl) ?_
    generalize a0.foldl ckStep 4294967295 = c
    refine RL.simP (K' := [(2, .int .u32 (bXor .u32 4294967295 c))]) (nx' := nx) (L' := []) [] (RFacts.nil _ _ _) 3 [.no, .no, .no] (by kernel_rfl) (by kernel_rfl) ?_
    refine RL.nil (by kernel_rfl) ?_
    refine QN.then_ ?_
    refine OK.ret (by kernel_rfl) ?_
    refine QN.body rfl [] (RFacts.nil _ _ _) .no (.int .u32 (bXor .u32 4294967295 c)) (by kernel_rfl) (by kernel_rfl) (by kernel_rfl) ?_ _ (.inr rfl)
    exact fun w' hs' => ⟨_, rfl, _, rfl, hs'.got _ (List.nil_sublist _)⟩
  have hlt : (i : Int) < (a0.length : Int) := of_decide_eq_true hb
  refine OK.skip (by kernel_rfl) ?_
  refine QN.then_ ?_
  obtain ⟨g1, o1, hA1, hc1⟩ := Ty.int_at (Rd.ext (Imm.le_trans hJ hJ1) hrp0) (i : Int) (by omega) hlt
  obtain ⟨x, hx⟩ : ∃ x, a0.getD (i : Int).toNat 0 = x := ⟨_, rfl⟩
  rw [hx] at hc1
  have hil : i < a0.length := by omega
  have hdrop : a0.drop i = x :: a0.drop (i + 1) := by
    rw [List.drop_eq_getElem_cons hil, ← hx, Int.toNat_natCast, List.getD_eq_getElem?_getD, List.getElem?_eq_getElem hil]
    rfl
  rw [hdrop, List.foldl_cons] at hc
  refine OK.seq c48k1 c48r6 (by kernel_rfl) ?_
  refine OK.block 1 c48bd (by kernel_rfl) ?_
  refine OK.seq c48r4 c48r5 (by kernel_rfl) ?_
  refine OK.region 4 (o48 4) (by kernel_rfl) ?_
  refine RL.idx 1 .i64 (i : Int) hA1 a0.length cp0 (some 12) (by kernel_rfl) (by kernel_rfl) (T := 22) (e := 5) (by kernel_rfl) (by kernel_rfl) (by omega) hlt (K' := [(12, .pointer (some ⟨g1, o1 + (i : Int).toNat * 1, none⟩)), (11, .bool (decide ((i : Int) < (a0.length : Int)))), (8, .slice Ap0 a0.length cp0), (9, .int .i64 (a0.length : Int)), (10, .int .i64 (i : Int)), (4, .int .u32 c), (3, .pointer (some ⟨g3, 0, none⟩))]) (by kernel_rfl) ?_
  refine RL.simP (K' := [(6, .int .u8 x), (8, .slice Ap0 a0.length cp0), (9, .int .i64 (a0.length : Int)), (10, .int .i64 (i : Int)), (4, .int .u32 c), (3, .pointer (some ⟨g3, 0, none⟩))]) (nx' := nx) (L' := []) [(⟨g1, o1 + (i : Int).toNat * 1, none⟩, .int .u8 x)] (RFacts.imm (hc1 0 _ rfl) (RFacts.nil _ _ _)) 2 [.r 0, .no] (by kernel_rfl) (by kernel_rfl) ?_
  refine RL.nil (by kernel_rfl) ?_
  refine QN.then_ ?_
  refine OK.region 5 (o48 5) (by kernel_rfl) ?_
  refine RL.simP (K' := [(19, .int .u8 (bXor .u8 (W .u8 c) x)), (15, .int .u32 (Int.fdiv c 256)), (8, .slice Ap0 a0.length cp0), (9, .int .i64 (a0.length : Int)), (10, .int .i64 (i : Int)), (4, .int .u32 c), (3, .pointer (some ⟨g3, 0, none⟩))]) (nx' := nx) (L' := []) [] (RFacts.nil _ _ _) 6 [] (by kernel_rfl) (by kernel_rfl) ?_
  obtain ⟨h0, h1⟩ := u8_range (W .u8 c) x
  obtain ⟨y, hy⟩ : ∃ y, bXor .u8 (W .u8 c) x = y := ⟨_, rfl⟩
  rw [hy] at h0 h1 ⊢
  refine RL.idxArr 1 .u8 y g3 0 256 (some 20) (by kernel_rfl) (by kernel_rfl) (T := 152) (e := 39) (by kernel_rfl) (by kernel_rfl) h0 h1 (K' := [(20, .pointer (some ⟨g3, 0 + y.toNat * 1, none⟩)), (19, .int .u8 y), (15, .int .u32 (Int.fdiv c 256)), (8, .slice Ap0 a0.length cp0), (9, .int .i64 (a0.length : Int)), (10, .int .i64 (i : Int)), (4, .int .u32 c), (3, .pointer (some ⟨g3, 0, none⟩))]) (by kernel_rfl) ?_
  have ht2 : J1 ⟨g3, 0 + y.toNat * 1, none⟩ = some (.int .u32 (tab.getD y.toNat 0)) := by
    rw [Nat.zero_add, Nat.mul_one]
    exact ht _ _ (tabV_at tab (by omega))
  refine RL.simP (K' := [(8, .slice Ap0 a0.length cp0), (9, .int .i64 (a0.length : Int)), (10, .int .i64 (i : Int)), (4, .int .u32 (bXor .u32 (Int.fdiv c 256) (tab.getD y.toNat 0))), (3, .pointer (some ⟨g3, 0, none⟩))]) (nx' := nx) (L' := []) [(⟨g3, 0 + y.toNat * 1, none⟩, .int .u32 (tab.getD y.toNat 0))] (RFacts.imm ht2 (RFacts.nil _ _ _)) 3 [.r 0, .no, .no] (by kernel_rfl) (by kernel_rfl) ?_
  have hck : ckStep c x = bXor .u32 (Int.fdiv c 256) (tab.getD y.toNat 0) := by
    unfold ckStep
    rw [hy, htab]
  rw [← hck]
  generalize ckStep c x = c2 at hc ⊢
  refine RL.nil (by kernel_rfl) ?_
  refine QN.blkN ?_
  refine QN.then_ ?_
  refine OK.region 6 (o48 6) (by kernel_rfl) ?_
  refine RL.simP (K' := [(8, .slice Ap0 a0.length cp0), (9, .int .i64 (a0.length : Int)), (10, .int .i64 (W .i64 ((i : Int) + 1))), (4, .int .u32 c2), (3, .pointer (some ⟨g3, 0, none⟩))]) (nx' := nx) (L' := []) [] (RFacts.nil _ _ _) 2 [.no, .no] (by kernel_rfl) (by kernel_rfl) ?_
  refine RL.nil (by kernel_rfl) ?_
  have hml := hrp0.1
  rw [W64C (by omega) (by omega), show ((i : Int) + 1) = ((i + 1 : Nat) : Int) from by omega]
  exact hJn _ _ _ _ _ ⟨i + 1, c2, rfl, rfl, rfl, rfl, by omega, by omega, hc⟩
end Go.Proofs.YtfecniimkgkmfaaGreat
namespace Go.Proofs.YtfecniimkgkmfaaGreat
open Go Go.RowKit Go.Proofs.YtfecniimkgkmfaaGreat.RW Go.Proofs.YtfecniimkgkmfaaGreat.AM
noncomputable def codec_Checksum (b : List Int) : Option Int := codec_Checksum.f b
noncomputable def codec_Checksum.d : FragD := ⟨⟨[(0, ph (.row (.int .u8)))], []⟩, [⟨1, ⟨[(0, ph (.int .u32))], []⟩, Int, fun x => x.1.1, fun r => ((r, ()), ()), fun _ => rfl⟩], fun x => codec_Checksum x.1.1⟩
theorem codec_Checksum.ok : FunOK Tryz.prog 115 codec_Checksum.d := by
  intro x y q z hg ho I π w vs hlen hls hvs hm
  obtain ⟨v, h0, A, cp, rfl, hle, _, hrd⟩ := hvs 0 _ rfl
  match vs, hls, h0 with
  | [v], _, h0 =>
    obtain rfl := Option.some.inj h0
    cases ho
    refine (codec_Checksum.calls I x.1.1 A cp w hm.im hle hrd y hg).mono ?_
    rintro e w' ⟨v, rfl, J, rfl, hgot⟩
    exact ⟨_, rfl, π, J, Pi.le_refl _, hgot.le, hm.got hgot, fun av hav => by cases hav; exact ⟨rfl, rfl⟩⟩
end Go.Proofs.YtfecniimkgkmfaaGreat
namespace Go.Proofs.YtfecniimkgkmfaaGreat.AM
open Go Go.RowKit Go.Proofs.YtfecniimkgkmfaaGreat.RW

section
variable {B : Base} {I : Imm} {π : Pi} {M : Nat → Option AObj} {w : World}
/-- A row of the call's own whose elements turned; it lies where it lay. -/
theorem SA.turn (h : SA B I π M w) {o : Nat} {e : TypeId} {c c0 : TC} {l : List c.I} {l0 : List c0.I} (hoM : M o = some (.row e c0 l0)) {p : Pl} (hp : π o = some p) (hn : p.n = l.length) {w' : World} {cs : List Value} (ho : w'.ownsRow 0 e c.sz (.slice p.A p.n p.c) l.length cs) (hr : Reps c.ty I l cs)
  (hg : w.grownBy w' (Value.slice p.A p.n p.c).ownBlock) : SA B I π (updM M o (some (.row e c l))) w' := by
 have hold : ∀ k, (Value.slice p.A p.n p.c).ownBlock = some k → fpO π o (M o) k := fun k hk => by
  rw [hoM]
  cases hA : p.A with
  | none => rw [hA] at hk; cases hk
  | some a =>
   rw [hA] at hk
   injection hk with hk
   exact ⟨p, a, hp, hA, hk⟩
 have hfp : ∀ k, fpO π o (some (.row e c l)) k → (Value.slice p.A p.n p.c).ownBlock = some k := by
  rintro k ⟨p', a, h1, h2, rfl⟩
  rw [hp] at h1
  injection h1 with h1
  subst h1
  rw [h2]
  rfl
 refine h.step (fun x => x = o) (Pi.le_refl _) (Imm.le_refl _) hg.os hg.tape hg.output hg.size (fun k hk hk' => hg.block k hk (fun e1 => hk' o rfl (hold k e1.symm))) (fun x hx => updM_ne _ _ hx) (fun x hx hn => h.dom x hn) ?_ ?_ ?_ ?_ ?_ (fun a v ha => .inl ha) ?_
 ·intro x hx hn
  rw [hx, updM_self] at hn
  cases hn
 ·intro x hx
  rw [hx, updM_self]
  exact ⟨p, cs, hp, hn, ho, hr⟩
 ·intro x hx k hk
  rw [hx, updM_self] at hk
  exact ⟨(ho.lt k (hfp k hk)).2, .inl ⟨o, rfl, hold k (hfp k hk)⟩⟩
 ·intro x y hx hy hne
  exact absurd (hx.trans hy.symm) hne
 ·intro a u ha
  have hc := h.im a u ha
  rw [← hc]
  exact look_of_block (w := w) (hg.block _ (look_lt hc) (fun e1 => h.imX a u ha o (hold _ e1.symm)))
 ·intro a u ha x hx hk
  rw [hx, updM_self] at hk
  exact h.imX a u ha o (hold _ (hfp _ hk))
end
/-- A function without pieces, in the words of the old walks: its arguments told by slots, its end by `Got`. -/
theorem FunOK.calls {P : Program} {f : FuncId} {fn : Func} (hf : P.funcs[f]? = some fn) {sl : List (Nat × PV)} {d : OutD} {g : SlI sl × Unit → Option d.R} (hF : FunOK P f ⟨⟨sl, []⟩, [d], g⟩) (hd : d.p.ob = []) (x : SlI sl) {y : d.R} (hg : g (x, ()) = some y) {I : Imm} {W : World} (hI : I.at_ W) {vs : List Value} (hlen : vs.length ≤ fn.ntmps) (hls : vs.length = sl.length)
  (hA : ∀ t av, lk (instSl id sl x) t = some av → ∃ v, vs[t]? = some v ∧ relV (fun _ => none) I av v) :
  Calls P f vs.toArray W fun e W' => ∃ v, e = .returned v ∧ ∃ J π', Got W W' I J [] ∧ ∀ av, lk (instSl id d.p.sl (d.of y).1) 0 = some av → relV π' J av v := by
 have hs : SA ⟨W, fpS (fun _ => none) (lk ([] : AMem)), I⟩ I (fun _ => none) (lk ([] : AMem)) W :=
  ⟨Evo.refl _ _, fun _ _ => rfl, fun _ => trivial, fun _ _ h => h.elim, fun _ _ _ _ h => h.elim, hI, fun _ _ _ _ h => h.elim, Imm.le_refl _, fun _ _ h => .inl h⟩
 refine (hF (x, ()) y d y hg rfl I (fun _ => none) W vs (fun fn' h' => by rw [hf] at h'; injection h' with h'; rw [← h']; exact hlen) hls hA hs).mono ?_
 rintro e W' ⟨v, rfl, π', J, _, h2, h3, h4⟩
 have hno : ∀ k, ¬ fpS (fun _ => none) (lk ([] : AMem)) k := fun k ⟨i, hi⟩ => hi
 exact ⟨v, rfl, J, π', ⟨⟨h3.evo.os, h3.evo.tape, h3.evo.output, h3.evo.size, fun k hk _ => h3.evo.blk k hk (hno k)⟩, h2, h3.im, fun a u ha => (h3.inew a u ha).imp id (fun h => h.resolve_right (hno _)), (fun r hr => by cases hr), (fun r hr => by cases hr), List.Pairwise.nil, (fun _ _ _ r hr => by cases hr)⟩, h4⟩
/-- The cells of a row of ints. -/
theorem reps_ints {k : IntKind} {I : Imm} : ∀ {l : List Int} {cs : List Value}, Reps (TC.ty (.int k)) I l cs → cs = l.map (Value.int k)
 | [], [], _ => rfl
 | x :: l, cs, h => by
  obtain ⟨c0, c1, rfl, h1, h2⟩ := h
  have h1 : c0 = [.int k x] := h1
  subst h1
  rw [reps_ints h2]
  rfl
 | [], _ :: _, h => by cases h
theorem ints_reps {k : IntKind} {I : Imm} : ∀ (l : List Int), Reps (TC.ty (.int k)) I l (l.map (Value.int k))
 | [] => rfl
 | x :: l => ⟨[.int k x], l.map (Value.int k), rfl, rfl, ints_reps l⟩
end Go.Proofs.YtfecniimkgkmfaaGreat.AM
namespace Go.Proofs
open Go.Shelf
def Tryz.compactA_ren : Go.Shelf.Ren := ⟨fun | 20 => 139 | n => n, fun | 22 => 26 | 3 => 3 | 4 => 4 | 0 => 0 | n => n, fun | n => n⟩
theorem Tryz.compactA : Go.Proofs.Lays2.n20 Tryz.prog Tryz.compactA_ren := {
  mixed := by kernel_rfl
  f20 := Tryz.func139.trans (congrArg some (by kernel_rfl))
  t0 := Tryz.underlying0
  a0 := Tryz.isAgg0
  z0 := Tryz.sizeOf0
  v0 := Tryz.zeroValue0
  t3 := Tryz.underlying3
  a3 := Tryz.isAgg3
  z3 := Tryz.sizeOf3
  v3 := Tryz.zeroValue3
  t4 := Tryz.underlying4
  a4 := Tryz.isAgg4
  z4 := Tryz.sizeOf4
  v4 := Tryz.zeroValue4
  t22 := Tryz.underlying26
  a22 := Tryz.isAgg26
  z22 := Tryz.sizeOf26
  v22 := Tryz.zeroValue26
  i3 := by kernel_rfl }
def Tryz.sortA_ren : Go.Shelf.Ren := ⟨fun | 5 => 138 | 8 => 149 | 7 => 148 | 19 => 162 | 20 => 163 | 10 => 153 | 11 => 154 | 12 => 155 | 13 => 156 | 14 => 157 | 15 => 158 | 16 => 159 | 17 => 160 | 18 => 161 | 30 => 164 | 31 => 165 | 32 => 166 | 33 => 167 | 34 => 168 | 35 => 169 | 40 => 170 | n => n, fun | 23 => 26 | 25 => 3 | 3 => 3 | 32 => 117 | 22 => 26 | 0 => 0 | 44 => 39 | 46 => 131 | 4 => 4 | 36 => 172 | 35 => 171 | 41 => 177 | 5 => 5 | 9 => 9 | 53 => 181 | 57 => 185 | 63 => 187 | 64 => 188 | n => n, fun | n => n⟩
theorem Tryz.sortA : Go.Proofs.SlLaysM.n5 Tryz.prog Tryz.sortA_ren := {
  mixed := by kernel_rfl
  f5 := ⟨Tryz.f138.name, by decide, Tryz.func138.trans (congrArg some (by kernel_rfl))⟩
  f7 := ⟨Tryz.f148.name, by decide, Tryz.func148.trans (congrArg some (by kernel_rfl))⟩
  f8 := Tryz.func149.trans (congrArg some (by kernel_rfl))
  f10 := ⟨Tryz.f153.name, by decide, Tryz.func153.trans (congrArg some (by kernel_rfl))⟩
  f11 := ⟨Tryz.f154.name, by decide, Tryz.func154.trans (congrArg some (by kernel_rfl))⟩
  f12 := ⟨Tryz.f155.name, by decide, Tryz.func155.trans (congrArg some (by kernel_rfl))⟩
  f13 := ⟨Tryz.f156.name, by decide, Tryz.func156.trans (congrArg some (by kernel_rfl))⟩
  f14 := ⟨Tryz.f157.name, by decide, Tryz.func157.trans (congrArg some (by kernel_rfl))⟩
  f15 := ⟨Tryz.f158.name, by decide, Tryz.func158.trans (congrArg some (by kernel_rfl))⟩
  f16 := ⟨Tryz.f159.name, by decide, Tryz.func159.trans (congrArg some (by kernel_rfl))⟩
  f17 := ⟨Tryz.f160.name, by decide, Tryz.func160.trans (congrArg some (by kernel_rfl))⟩
  f18 := ⟨Tryz.f161.name, by decide, Tryz.func161.trans (congrArg some (by kernel_rfl))⟩
  f19 := Tryz.func162.trans (congrArg some (by kernel_rfl))
  f20 := Tryz.func163.trans (congrArg some (by kernel_rfl))
  f30 := ⟨Tryz.f164.name, by decide, Tryz.func164.trans (congrArg some (by kernel_rfl))⟩
  f31 := Tryz.func165.trans (congrArg some (by kernel_rfl))
  f32 := Tryz.func166.trans (congrArg some (by kernel_rfl))
  f33 := ⟨Tryz.f167.name, by decide, Tryz.func167.trans (congrArg some (by kernel_rfl))⟩
  f34 := ⟨Tryz.f168.name, by decide, Tryz.func168.trans (congrArg some (by kernel_rfl))⟩
  f35 := ⟨Tryz.f169.name, by decide, Tryz.func169.trans (congrArg some (by kernel_rfl))⟩
  f40 := ⟨Tryz.f170.name, by decide, Tryz.func170.trans (congrArg some (by kernel_rfl))⟩
  t0 := Tryz.underlying0
  a0 := Tryz.isAgg0
  z0 := Tryz.sizeOf0
  v0 := Tryz.zeroValue0
  t3 := Tryz.underlying3
  a3 := Tryz.isAgg3
  z3 := Tryz.sizeOf3
  v3 := Tryz.zeroValue3
  t4 := Tryz.underlying4
  a4 := Tryz.isAgg4
  z4 := Tryz.sizeOf4
  v4 := Tryz.zeroValue4
  t5 := Tryz.underlying5
  a5 := Tryz.isAgg5
  z5 := Tryz.sizeOf5
  v5 := Tryz.zeroValue5
  t9 := Tryz.underlying9
  a9 := Tryz.isAgg9
  z9 := Tryz.sizeOf9
  v9 := Tryz.zeroValue9
  t22 := Tryz.underlying26
  a22 := Tryz.isAgg26
  z22 := Tryz.sizeOf26
  v22 := Tryz.zeroValue26
  t23 := Tryz.underlying26
  a23 := Tryz.isAgg26
  z23 := Tryz.sizeOf26
  v23 := Tryz.zeroValue26
  t25 := Tryz.underlying3
  a25 := Tryz.isAgg3
  z25 := Tryz.sizeOf3
  v25 := Tryz.zeroValue3
  t32 := Tryz.underlying117
  a32 := Tryz.isAgg117
  z32 := Tryz.sizeOf117
  v32 := Tryz.zeroValue117
  t35 := Tryz.underlying171
  a35 := Tryz.isAgg171
  z35 := Tryz.sizeOf171
  v35 := Tryz.zeroValue171
  t36 := Tryz.underlying172
  a36 := Tryz.isAgg172
  z36 := Tryz.sizeOf172
  v36 := Tryz.zeroValue172
  t41 := Tryz.underlying177
  a41 := Tryz.isAgg177
  z41 := Tryz.sizeOf177
  v41 := Tryz.zeroValue177
  t44 := Tryz.underlying39
  a44 := Tryz.isAgg39
  z44 := Tryz.sizeOf39
  v44 := Tryz.zeroValue39
  t46 := Tryz.underlying131
  a46 := Tryz.isAgg131
  z46 := Tryz.sizeOf131
  v46 := Tryz.zeroValue131
  t53 := Tryz.underlying181
  a53 := Tryz.isAgg181
  z53 := Tryz.sizeOf181
  v53 := Tryz.zeroValue181
  t57 := Tryz.underlying185
  a57 := Tryz.isAgg185
  z57 := Tryz.sizeOf185
  v57 := Tryz.zeroValue185
  t63 := Tryz.underlying187
  a63 := Tryz.isAgg187
  z63 := Tryz.sizeOf187
  v63 := Tryz.zeroValue187
  t64 := Tryz.underlying188
  a64 := Tryz.isAgg188
  z64 := Tryz.sizeOf188
  v64 := Tryz.zeroValue188 }
end Go.Proofs
namespace Go.Proofs.YtfecniimkgkmfaaGreat
open Go Go.RowKit Go.Proofs.YtfecniimkgkmfaaGreat.RW Go.Proofs.YtfecniimkgkmfaaGreat.AM
/-- Compact never makes a list longer. -/
theorem compact_le (l : List Int) : (Lib.compact l).length ≤ l.length := by
  unfold Lib.compact Lib.compactUpTo
  rw [List.length_map]
  exact Nat.le_trans (List.length_filter_le _ _) (by simp)
noncomputable def slices_Compact_int_int (l : List Int) : Option (List Int) := some (Lib.compact l)
noncomputable def slices_Compact_int_int.d : FragD := ⟨⟨[(0, po 0)], [.row 3 (.int .i64)]⟩, [⟨1, ⟨[(0, po 1)], [.gone, .row 3 (.int .i64)]⟩, List Int, fun x => x.2.2.1, fun r => (((), ()), ((), r, ())), fun _ => rfl⟩], fun x => slices_Compact_int_int x.2.1⟩
theorem slices_Compact_int_int.ok : FunOK Tryz.prog 139 slices_Compact_int_int.d := by
  intro x y q z hg ho I π w vs hlen hls hvs hm
  obtain ⟨v, h0, p, hp, rfl⟩ := hvs 0 _ rfl
  match vs, hls, h0 with
  | [v], _, h0 =>
    obtain rfl := Option.some.inj h0
    cases ho
    obtain rfl := Option.some.inj hg
    have hat : atO π I w 0 (some (.row 3 (.int .i64) x.2.1)) := hm.res 0
    obtain ⟨p', cs, hp', hn, hown, hr⟩ := hat
    have hp : π 0 = some p := hp
    rw [hp] at hp'
    obtain rfl := Option.some.inj hp'
    have hcs := reps_ints hr
    subst hcs
    have fin : ∀ (w' : World) (v : Value), w'.ownsRow 0 3 1 v (Lib.compact x.2.1).length ((Lib.compact x.2.1).map (Value.int .i64)) → w.grownBy w' (Value.slice p.A p.n p.c).ownBlock → v.ownBlock = (Value.slice p.A p.n p.c).ownBlock →
        ∃ v0, Ending.returned v = .returned v0 ∧ ∃ π' J, π.le π' ∧ I.le J ∧ SA ⟨w, fpS π (AM.lk (instOb id [.row 3 (.int .i64)] 0 x.2)), I⟩ J π' (AM.lk (instOb id [.gone, .row 3 (.int .i64)] 0 ((), Lib.compact x.2.1, ()) ++ instOb id [.row 3 (.int .i64)] 0 x.2)) w' ∧ ∀ av, AM.lk (instSl id [(0, po 1)] ((), ())) 0 = some av → relV π' J av v0 := by
      intro w' v k1 k2 k3
      obtain ⟨p2, rfl, hp2, hs⟩ := hm.grow (o := 0) (nb := 1) (e := 3) (c := .int .i64) (c0 := .int .i64) (l := Lib.compact x.2.1) (l0 := x.2.1) rfl rfl hp k1 (ints_reps _) k2 (.inl k3)
      refine ⟨_, rfl, _, I, updP_le (hm.dom 1 rfl) p2, Imm.le_refl _, hs.congr (fun o => ?_), fun av hav => ?_⟩
      · match o with
        | 0 => rfl
        | 1 => rfl
        | o + 2 => rfl
      · cases hav
        exact ⟨p2, updP_self _ _ _, rfl⟩
    have hown : w.ownsRow 0 3 1 (Value.slice p.A p.n p.c) x.2.1.length (x.2.1.map (Value.int .i64)) := hown
    rcases hown.2 with ⟨hA, hl0⟩ | ⟨g, cap, cur, e1, _, hb, hcap, hmax, hsz, ht⟩
    · have hl : x.2.1 = [] := List.length_eq_zero_iff.1 hl0
      obtain ⟨hA1, hA2⟩ : p.A = none ∧ p.c = 0 := by
        injection hA with a1 a2 a3
        exact ⟨a1, a3⟩
      have := Any.slices_Compact_int_empty Tryz.compactA p.A p.c w
      rw [show ([Value.slice p.A p.n p.c] : List Value).toArray = #[.slice p.A 0 p.c] by rw [hn, hl]; rfl]
      refine this.mono ?_
      rintro e w' ⟨rfl, rfl⟩
      have hc0 : Lib.compact x.2.1 = [] := List.length_eq_zero_iff.1 (by have := compact_le x.2.1; rw [hl] at this ⊢; simpa using this)
      refine fin w' (.slice p.A 0 p.c) ?_ ⟨rfl, rfl, rfl, Nat.le_refl _, fun _ _ _ => rfl⟩ (by rw [hA1]; rfl)
      rw [hc0, hA1, hA2]
      exact ⟨rfl, .inl ⟨rfl, rfl⟩⟩
    · injection e1 with a1 a2 a3
      have hH : Sort.Holds (Value.int .i64) w g 0 x.2.1.toArray := holds_of_blockI hb (by rw [Nat.mul_one] at ht; exact ht)
      have := Any.slices_Compact_int Tryz.compactA g 0 cap x.2.1 w hH (by have : (maxLen : Nat) = 9223372036854775807 := rfl; omega) hcap
      rw [show ([Value.slice p.A p.n p.c] : List Value).toArray = #[.slice (some ⟨g, 0, none⟩) x.2.1.length cap] by rw [a1, hn, a3]]
      refine this.mono ?_
      rintro e w' ⟨rfl, q, rfl⟩
      have hle := compact_le x.2.1
      have hh := heap_sortedI (n := q) (os := #[]) (Lib.compact x.2.1 ++ List.replicate (x.2.1.length - (Lib.compact x.2.1).length) 0).toArray hb
      have hgb := grownBy_sortedI (w := w) (g := g) (n := q) (os := #[]) (Lib.compact x.2.1 ++ List.replicate (x.2.1.length - (Lib.compact x.2.1).length) 0).toArray
      rw [Sort.grow_empty] at hh hgb
      refine fin _ _ ?_ (by rw [a1]; exact hgb) (by rw [a1]; rfl)
      refine ⟨by simp, .inr ⟨g, cap, _, rfl, Nat.zero_le _, hh, by omega, hmax, by simp [Sort.putCells, hsz], ?_⟩⟩
      have ht2 := take_putCellsI cur (Lib.compact x.2.1 ++ List.replicate (x.2.1.length - (Lib.compact x.2.1).length) 0) (by simp only [List.length_append, List.length_replicate]; omega)
      have ht3 := congrArg (List.take (Lib.compact x.2.1).length) ht2
      rw [List.take_take, List.map_append, List.take_left' (by simp)] at ht3
      rw [Nat.mul_one, ← ht3]
      congr 1
      simp only [List.length_append, List.length_replicate]
      omega
end Go.Proofs.YtfecniimkgkmfaaGreat
namespace Go.Proofs.YtfecniimkgkmfaaGreat
open Go Go.RowKit Go.Proofs.YtfecniimkgkmfaaGreat.RW Go.Proofs.YtfecniimkgkmfaaGreat.AM
def ins (x : Int) : List Int → List Int
  | [] => [x]
  | y :: l => bif decide (x ≤ y) then x :: y :: l else y :: ins x l
def sortI : List Int → List Int
  | [] => []
  | x :: l => ins x (sortI l)
theorem ins_perm (x : Int) : ∀ l, (ins x l).Perm (x :: l)
  | [] => List.Perm.refl _
  | y :: l => by
    unfold ins
    cases decide (x ≤ y) with
    | true => exact List.Perm.refl _
    | false => exact ((ins_perm x l).cons y).trans (List.Perm.swap x y l)
theorem sortI_perm : ∀ l, (sortI l).Perm l
  | [] => List.Perm.refl _
  | x :: l => (ins_perm x _).trans ((sortI_perm l).cons x)
theorem ins_sorted (x : Int) : ∀ l : List Int, l.Pairwise (· ≤ ·) → (ins x l).Pairwise (· ≤ ·)
  | [], _ => by simp [ins]
  | y :: l, h => by
    unfold ins
    cases hd : decide (x ≤ y) with
    | true =>
      have hd := of_decide_eq_true hd
      refine List.pairwise_cons.2 ⟨fun z hz => ?_, h⟩
      rcases List.mem_cons.1 hz with rfl | hz
      · exact hd
      · exact Int.le_trans hd ((List.pairwise_cons.1 h).1 z hz)
    | false =>
      have hd : ¬ x ≤ y := of_decide_eq_false hd
      obtain ⟨h1, h2⟩ := List.pairwise_cons.1 h
      refine List.pairwise_cons.2 ⟨fun z hz => ?_, ins_sorted x l h2⟩
      rcases List.mem_cons.1 ((ins_perm x l).mem_iff.1 hz) with rfl | hz
      · omega
      · exact h1 z hz
theorem sortI_sorted : ∀ l, (sortI l).Pairwise (· ≤ ·)
  | [] => List.Pairwise.nil
  | x :: l => ins_sorted x _ (sortI_sorted l)
theorem sortI_eq (l : List Int) : l.mergeSort (fun x y => decide (x ≤ y)) = sortI l := by
  refine List.Perm.eq_of_pairwise (le := (· ≤ ·)) (fun a b _ _ h1 h2 => Int.le_antisymm h1 h2) ?_ (sortI_sorted l) ((List.mergeSort_perm l _).trans (sortI_perm l).symm)
  have := List.pairwise_mergeSort (le := fun x y : Int => decide (x ≤ y)) (fun a b c h1 h2 => by simp at *; omega) (fun a b => by simp; omega) l
  exact this.imp (fun h => of_decide_eq_true h)
theorem sortI_len (l : List Int) : (sortI l).length = l.length := (sortI_perm l).length_eq
noncomputable def slices_Sort_int_int (l : List Int) : Option (List Int) := bif decide (l.length < 4611686018427387904) then some (sortI l) else none
noncomputable def slices_Sort_int_int.d : FragD := ⟨⟨[(0, po 0)], [.row 3 (.int .i64)]⟩, [⟨1, ⟨[(0, .tup [])], [.row 3 (.int .i64)]⟩, List Int, fun x => x.2.1, fun r => (((), ()), (r, ())), fun _ => rfl⟩], fun x => slices_Sort_int_int x.2.1⟩
theorem slices_Sort_int_int.ok : FunOK Tryz.prog 138 slices_Sort_int_int.d := by
  intro x y q z hg ho I π w vs hlen hls hvs hm
  obtain ⟨v, h0, p, hp, rfl⟩ := hvs 0 _ rfl
  match vs, hls, h0 with
  | [v], _, h0 =>
    obtain rfl := Option.some.inj h0
    cases ho
    have hg : (bif decide (x.2.1.length < 4611686018427387904) then some (sortI x.2.1) else none) = some y := hg
    cases hd : decide (x.2.1.length < 4611686018427387904) with
    | false => rw [hd] at hg; cases hg
    | true =>
    rw [hd] at hg
    obtain rfl := Option.some.inj hg
    have hsz := of_decide_eq_true hd
    have hat : atO π I w 0 (some (.row 3 (.int .i64) x.2.1)) := hm.res 0
    obtain ⟨p', cs, hp', hn, hown, hr⟩ := hat
    have hp : π 0 = some p := hp
    rw [hp] at hp'
    obtain rfl := Option.some.inj hp'
    have hcs := reps_ints hr
    subst hcs
    have fin : ∀ (w' : World), w'.ownsRow 0 3 1 (.slice p.A p.n p.c) (sortI x.2.1).length ((sortI x.2.1).map (Value.int .i64)) → w.grownBy w' (Value.slice p.A p.n p.c).ownBlock →
        ∃ v0, Ending.returned (.tuple #[]) = .returned v0 ∧ ∃ π' J, π.le π' ∧ I.le J ∧ SA ⟨w, fpS π (AM.lk (instOb id [.row 3 (.int .i64)] 0 x.2)), I⟩ J π' (AM.lk (instOb id [.row 3 (.int .i64)] 0 (sortI x.2.1, ()) ++ instOb id [.row 3 (.int .i64)] 0 x.2)) w' ∧ ∀ av, AM.lk (instSl id [(0, .tup [])] ((), ())) 0 = some av → relV π' J av v0 := by
      intro w' k1 k2
      have hs := hm.turn (o := 0) (e := 3) (c := .int .i64) (c0 := .int .i64) (l := sortI x.2.1) (l0 := x.2.1) rfl hp (by rw [sortI_len]; exact hn) k1 (ints_reps _) k2
      refine ⟨_, rfl, π, I, Pi.le_refl _, Imm.le_refl _, hs.congr (fun o => ?_), fun av hav => ?_⟩
      · match o with
        | 0 => rfl
        | o + 1 => rfl
      · cases hav
        exact ⟨[], rfl, trivial⟩
    have hown : w.ownsRow 0 3 1 (Value.slice p.A p.n p.c) x.2.1.length (x.2.1.map (Value.int .i64)) := hown
    rcases hown.2 with ⟨hA, hl0⟩ | ⟨g, cap, cur, e1, _, hb, hcap, hmax, hsz2, ht⟩
    · have hl : x.2.1 = [] := List.length_eq_zero_iff.1 hl0
      have := AnyM.slices_Sort_int_none Tryz.sortA p.A p.c w
      rw [show ([Value.slice p.A p.n p.c] : List Value).toArray = #[.slice p.A 0 p.c] by rw [hn, hl]; rfl]
      refine this.mono ?_
      rintro e w' ⟨rfl, rfl⟩
      have hc0 : sortI x.2.1 = x.2.1 := by rw [hl]; simp [sortI]
      exact fin w' (by rw [hc0]; exact hown) ⟨rfl, rfl, rfl, Nat.le_refl _, fun _ _ _ => rfl⟩
    · injection e1 with a1 a2 a3
      have hH : Sort.Holds (Value.int .i64) w g 0 x.2.1.toArray := holds_of_blockI hb (by rw [Nat.mul_one] at ht; exact ht)
      have := AnyM.slices_Sort_int Tryz.sortA g 0 cap x.2.1 w hH (Array.getElem?_eq_some_iff.1 hb).1 hsz
      rw [sortI_eq] at this
      rw [show ([Value.slice p.A p.n p.c] : List Value).toArray = #[.slice (some ⟨g, 0, none⟩) x.2.1.length cap] by rw [a1, hn, a3]]
      refine this.mono ?_
      rintro e w' ⟨rfl, n, os, rfl⟩
      refine fin _ ?_ (by rw [a1]; exact grownBy_sortedI _)
      have := ownsRow_sortedI (w := w) (base := 0) (g := g) (cap := cap) (n := n) (e := 3) (os := os) (ss := x.2.1) (ts := sortI x.2.1) (sortI_len _) (Nat.zero_le _) hb hcap hmax hsz2
      rw [a1, a3, hn, sortI_len]
      exact this
end Go.Proofs.YtfecniimkgkmfaaGreat
namespace Go.Proofs.YtfecniimkgkmfaaGreat.RW
open Go Go.RowKit

/-- The blocks of these pieces of memory. -/
def SM (L : List Blk) (X : List Res) : Nat → Prop := fun k => (∃ b ∈ L, b.g = k) ∨ ∃ r ∈ X, r.fp k

section
variable {P : Program} {c : Code} {Q : Exit → Act → World → Prop} {A : Fr} {K : List (Nat × Value)} {B : Base} {I : Imm} {nx : Nat} {L : List Blk} {X : List Res} {os : List Oper} {p : Nat} {w : World}

theorem Sat.fin (h : Sat B I nx L X w) : Sat B I w.heap.size L X w := by rw [h.hnx]; exact h
/-- Known blocks in another order, or fewer. -/
def selB (L : List Blk) : List Nat → List Blk
 | [] => []
 | i :: r => match L[i]? with | some b => b :: selB L r | none => selB L r
theorem selB_mem {x : Blk} : ∀ {l : List Nat}, x ∈ selB L l → ∃ i ∈ l, L[i]? = some x
 | i :: r, h => by
  simp only [selB] at h
  split at h
  ·rename_i b hb
   rcases List.mem_cons.1 h with rfl | h
   ·exact ⟨i, List.mem_cons_self, hb⟩
   ·obtain ⟨j, hj, e⟩ := selB_mem h
    exact ⟨j, List.mem_cons_of_mem _ hj, e⟩
  ·obtain ⟨j, hj, e⟩ := selB_mem h
   exact ⟨j, List.mem_cons_of_mem _ hj, e⟩
theorem Sat.selB (h : Sat B I nx L X w) (l : List Nat) (hn : noN l = true) : Sat B I nx (RW.selB L l) X w := by
 have hm : ∀ b ∈ RW.selB L l, b ∈ L := fun b hb => by
  obtain ⟨i, _, e⟩ := selB_mem hb
  exact List.mem_of_getElem? e
 have hp : ∀ (l : List Nat), noN l = true → (RW.selB L l).Pairwise (fun a b => a.g ≠ b.g) := by
  intro l
  induction l with
  | nil => intro _; exact List.Pairwise.nil
  | cons i r ih =>
   intro hn
   simp only [noN, Bool.and_eq_true] at hn
   simp only [RW.selB]
   split
   ·rename_i b hb
    refine List.pairwise_cons.2 ⟨fun b' hb' => ?_, ih hn.2⟩
    obtain ⟨j, hj, e⟩ := selB_mem hb'
    have hij : i ≠ j := by
     rintro rfl
     have := hn.1
     simp only [List.all_eq_true] at this
     have h2 := this i hj
     simp at h2
    obtain ⟨hi1, hi2⟩ := List.getElem?_eq_some_iff.1 hb
    obtain ⟨hj1, hj2⟩ := List.getElem?_eq_some_iff.1 e
    have hq := List.pairwise_iff_getElem.1 h.ne
    rcases Nat.lt_or_gt_of_ne hij with hlt | hlt
    ·have := hq i j hi1 hj1 hlt
     rw [hi2, hj2] at this
     exact this
    ·have := hq j i hj1 hi1 hlt
     rw [hi2, hj2] at this
     exact this.symm
   ·exact ih hn.2
 exact ⟨h.evo, h.hnx, fun b hb => h.blk b (hm b hb), fun b hb => h.own b (hm b hb), hp l hn, h.res, h.rown, h.rdis, fun r hr b hb => h.rblk r hr b (hm b hb), h.im, fun a v ha b hb => h.imL a v ha b (hm b hb), h.imX, h.le, h.inew⟩
/-- A function's body, from its start, with what it was handed. -/
theorem calls_bodyL {f : FuncId} {fn : Func} {args : List Value} {R : Ending → World → Prop} (hf : P.funcs[f]? = some fn) (hb : fn.body = some (cBody fn)) (n : Nat) (hn : fn.ntmps = n) (hle : Nat.ble args.length n = true) (B : Base) (I : Imm) (L : List Blk) (X : List Res)
  (K : List (Nat × Value)) (hK : K.map (fun p => args[p.1]?) = K.map (fun p => some p.2)) (hs : Sat B I w.heap.size L X w)
  (h : OK P (cBody fn) (bodyPost P fn R) ⟨n, []⟩ K B I w.heap.size L X) : Calls P f args.toArray w R := by
 refine calls_of_wp hf hb (h _ w ⟨?_, rfl, fun p hp => ?_⟩ hs)
 ·have := Nat.le_of_ble_eq_true hle
  simp only [Array.size_append, List.size_toArray, Array.size_replicate]
  omega
 ·obtain ⟨i, hi, rfl⟩ := List.getElem_of_mem hp
  have h1 := congrArg (·[i]?) hK
  simp only [List.getElem?_map, List.getElem?_eq_getElem hi, Option.map_some, Option.some.injEq] at h1
  have hlt := (List.getElem?_eq_some_iff.1 h1).1
  simp only
  rw [Array.getElem?_append_left (by simpa using hlt), List.getElem?_toArray]
  exact h1

/-! ### what is lent for one call -/
/-! ### a row of the call's own is cut short -/
theorem Reps.take {α : Type} {d : Ty α} : ∀ {l : List α} {cs : List Value}, Reps d I l cs → ∀ m : Nat, Reps d I (l.take m) (cs.take (m * d.sz))
 | [], cs, h, m => by rw [h]; simp [Reps]
 | x :: l, cs, h, 0 => by simp [Reps]
 | x :: l, cs, h, m + 1 => by
  obtain ⟨c0, c1, rfl, h0, h1⟩ := h
  refine ⟨c0, c1.take (m * d.sz), ?_, h0, Reps.take h1 m⟩
  have e : (m + 1) * d.sz = c0.length + m * d.sz := by rw [d.len h0, Nat.succ_mul, Nat.add_comm]
  rw [e, List.take_append, List.take_of_length_le (l := c0) (by omega), Nat.add_sub_cancel_left]
theorem slA_self {S : Option Addr} {cap sz : Nat} : slA S (0 : Int).toNat cap sz = S := by
 unfold slA
 split
 ·rfl
 ·cases S with
  | none => rfl
  | some a => simp [Addr.add]
/-! ### a scope without jumps -/
/-! ### arrays in memory -/
/-- The cells of an array: n elements that are told by a list. -/
def arrV {α : Type} (enc : α → Value) (z : α) (n : Nat) (l : List α) : List Value := (List.range n).map fun i => enc (l.getD i z)
end
end Go.Proofs.YtfecniimkgkmfaaGreat.RW
namespace Go.Proofs.YtfecniimkgkmfaaGreat.RW
open Go Go.RowKit

abbrev pt (g o : Nat) : Value := .pointer (some ⟨g, o, none⟩)
abbrev i6 (x : Int) : Value := .int .i64 x
def isSq : Code → Bool
 | .seq _ _ => true
 | _ => false
def isRg : Code → Bool
 | .region _ _ b => !b
 | _ => false
def isCd : Code → Bool
 | .cond _ _ _ => true
 | _ => false
section
variable {P : Program} {c : Code} {Q : Exit → Act → World → Prop} {A : Fr} {K : List (Nat × Value)} {B : Base} {I : Imm} {nx : Nat} {L : List Blk} {X : List Res} {os : List Oper} {p : Nat}
theorem OK.sq (k : OK P (cL c) (Exit.then ((cR c).wp P Q) Q) A K B I nx L X) (h : isSq c = true := by kernel_rfl) : OK P c Q A K B I nx L X := by
 cases c <;> first | exact OK.seq _ _ rfl k | cases h
theorem OK.rg (k : RL P (cOps c) Q 0 A K B I nx L X) (h : isRg c = true := by kernel_rfl) : OK P c Q A K B I nx L X := by
 cases c with
 | region id o b =>
  cases b
  ·exact OK.region id o.toList (by simp) k
  ·cases h
 | _ => cases h
theorem OK.sr (k : RL P (cOps (cL c)) (Exit.then ((cR c).wp P Q) Q) 0 A K B I nx L X) (h : isSq c = true := by kernel_rfl) (h2 : isRg (cL c) = true := by kernel_rfl) : OK P c Q A K B I nx L X := OK.sq (OK.rg k h2) h
theorem OK.cd (t : Bool) (k1 : t = true → OK P (cL c) Q A K B I nx L X) (k2 : t = false → OK P (cR c) Q A K B I nx L X) (h : isCd c = true := by kernel_rfl) (hk : knownO K (cOpd c) = true := by kernel_rfl) (ht : evalK K (cOpd c) = .bool t := by kernel_rfl) : OK P c Q A K B I nx L X := by
 cases c <;> first | exact OK.cond _ _ _ t rfl hk ht k1 k2 | cases h
theorem OK.re (k : QN Q .ret A K B I nx L X) (h : c = .ret := by kernel_rfl) : OK P c Q A K B I nx L X := OK.ret h k
theorem OK.skt {d : Code} {Q' : Exit → Act → World → Prop} (k : OK P d Q A K B I nx L X) (h : c = .skip := by kernel_rfl) : OK P c (Exit.then (d.wp P Q) Q') A K B I nx L X := OK.skip h (QN.then_ k)
theorem RL.s (n : Nat) (K' : List (Nat × Value)) (k : RL P os Q (p + n) A K' B I nx L X)
  (h : (simOps P [] os A ((os.drop p).take n) [] K nx L []).map (fun x => (K'.map (fun q => lookK x.1 q.1), x.2.1, x.2.2.1, x.2.2.2)) = some (K'.map (fun q => some q.2), nx, L, []) := by kernel_rfl) : RL P os Q p A K B I nx L X := by
 cases hs : simOps P [] os A ((os.drop p).take n) [] K nx L [] with
 | none => rw [hs] at h; cases h
 | some x =>
  rw [hs] at h
  simp only [Option.map_some, Option.some.injEq, Prod.mk.injEq] at h
  obtain ⟨h1, h2, h3, h4⟩ := h
  exact RL.simK [] (RFacts.nil _ _ _) n [] (by rw [hs]; simp only [Option.map_some, h1, h2, h3]) (by rw [hs]; simp only [Option.map_some, h4, List.map_nil]) k
theorem RL.sp (n : Nat) (K' : List (Nat × Value)) (nx' : Nat) (L' : List Blk) (k : RL P os Q (p + n) A K' B I nx' L' X)
  (h : (simOps P [] os A ((os.drop p).take n) [] K nx L []).map (fun x => (K'.map (fun q => lookK x.1 q.1), x.2.1, x.2.2.1, x.2.2.2)) = some (K'.map (fun q => some q.2), nx', L', []) := by kernel_rfl) : RL P os Q p A K B I nx L X := by
 cases hs : simOps P [] os A ((os.drop p).take n) [] K nx L [] with
 | none => rw [hs] at h; cases h
 | some x =>
  rw [hs] at h
  simp only [Option.map_some, Option.some.injEq, Prod.mk.injEq] at h
  obtain ⟨h1, h2, h3, h4⟩ := h
  exact RL.simP [] (RFacts.nil _ _ _) n [] (by rw [hs]; simp only [Option.map_some, h1, h2, h3]) (by rw [hs]; simp only [Option.map_some, h4, List.map_nil]) k
theorem RL.nt {d : Code} {Q' : Exit → Act → World → Prop} (k : OK P d Q A K B I nx L X) (h : os.drop p = [] := by kernel_rfl) : RL P os (Exit.then (d.wp P Q) Q') p A K B I nx L X := RL.nil h (QN.then_ k)
theorem RL.st {d : Code} {Q' : Exit → Act → World → Prop} (n : Nat) (K' : List (Nat × Value)) (k : OK P d Q A K' B I nx L X)
  (h : (simOps P [] os A ((os.drop p).take n) [] K nx L []).map (fun x => (K'.map (fun q => lookK x.1 q.1), x.2.1, x.2.2.1, x.2.2.2)) = some (K'.map (fun q => some q.2), nx, L, []) := by kernel_rfl) (h2 : os.drop (p + n) = [] := by kernel_rfl) : RL P os (Exit.then (d.wp P Q) Q') p A K B I nx L X := RL.s n K' (RL.nt k h2) h
/-! ### an element of what a call in the region returned -/
abbrev idxP (A : Option Addr) (n : Nat) : Value := .pointer (A.map fun a => ⟨a.block, a.off + n, none⟩)
/-! ### an element that is a row of the call's own, for a while -/
end
end Go.Proofs.YtfecniimkgkmfaaGreat.RW
namespace Go.Proofs.YtfecniimkgkmfaaGreat.RW
open Go Go.RowKit

section
variable {P : Program} {c : Code} {Q : Exit → Act → World → Prop} {A : Fr} {K : List (Nat × Value)} {B : Base} {I : Imm} {nx : Nat} {L : List Blk} {X : List Res} {os : List Oper} {p : Nat} {w : World}

theorem rd_isNone {α : Type} {d : Ty α} {l : List α} (hr : Rd d I none l) : l = [] := by
 cases l with
 | nil => rfl
 | cons x r =>
  obtain ⟨g, o, e, _⟩ := hr.2 (List.cons_ne_nil _ _)
  cases e

/-! ### parts of strings -/
def sPart (s : ByteArray) (lo hi : Int) : ByteArray := s.extract lo.toNat hi.toNat
/-! ### a new row that says nothing yet, with room -/
/-! ### panics that are handed up -/
/-- What is raised: a failure with its code. -/
def pch (T : TypeId) (x : Int) : List PanicEntry := [{ v := .iface T (.agg #[.int .i64 x]), recovered := false }]
/-- Behind a panic: what is known then. -/
def QP (Q : Exit → Act → World → Prop) (ch : List PanicEntry) (A : Fr) (B : Base) (I : Imm) : Prop := ∀ a w, a.defers = A.D → Evo B.S B.w0 w → I.at_ w → Q (.panic ch) a w
/-- A result, or a failure's code. -/
def pb {α γ : Type} (x : Option (Int ⊕ α)) (h : Int → Option γ) (k : α → Option γ) : Option γ := x.bind fun t => match t with | .inl e => h e | .inr t => k t
/-- What holds of a result, or of a failure's code. -/
abbrev pan {α : Type} (r : Int ⊕ α) (f : Int → Prop) (g : α → Prop) : Prop := match r with | .inl x => f x | .inr r => g r
/-- An error that is nil or of one type. -/
def errV (T : TypeId) : Option Int → Value
 | none => .nilIface
 | some c => .iface T (.agg #[.int .i64 c])
end

section
variable {P : Program} {A : Fr} {K : List (Nat × Value)} {Q : Exit → Act → World → Prop} {c : Code} {B : Base} {I : Imm} {nx : Nat} {L : List Blk} {X : List Res} {os : List Oper} {p : Nat}
/-! ### stores into blocks that stand, in a region that draws -/
structure Eb where
 j : Nat
 g : Nat
 ty : TypeId
 old : List Value
 new : List Value
def exR (es : List Eb) (D : Nat → Bool) : List Res := es.map fun e => RW.kblk e.g e.ty (bif D e.j then e.new else e.old)
def exN (es : List Eb) : List Res := es.map fun e => RW.kblk e.g e.ty e.new
def exO (es : List Eb) : List Res := es.map fun e => RW.kblk e.g e.ty e.old
def exVl (es : List Eb) : List (Nat × (Wt → Value)) := es.map fun e => (e.j, fun _ => undef)
def EStore (P : Program) (os : List Oper) (L : List Blk) (e : Eb) (Kj : (Nat → Wt) → List (Nat × Value)) : Prop := ∀ (u : Nat → Wt) (nx : Nat),
 (simS P [] (execOp (evalK (Kj u)) (os.getD e.j default)) (.l L.length) nx (L ++ [⟨e.g, e.old, e.ty⟩]) []).map (fun x => (x.1, x.2.1, x.2.2.1)) = some (.skip, nx, L ++ [⟨e.g, e.new, e.ty⟩]) ∧
 (simS P [] (execOp (evalK (Kj u)) (os.getD e.j default)) (.l L.length) nx (L ++ [⟨e.g, e.old, e.ty⟩]) []).map (fun x => x.2.2.2.map (·.1)) = (simS P [] (execOp (evalK (Kj u)) (os.getD e.j default)) (.l L.length) nx (L ++ [⟨e.g, e.old, e.ty⟩]) []).map (fun x => x.2.2.2.map (·.2))
def EsG (P : Program) (os : List Oper) (L : List Blk) : List Eb → List ((Nat → Wt) → List (Nat × Value)) → Prop
 | [], _ => True
 | e :: r, Kj :: Ks => EStore P os L e Kj ∧ EsG P os L r Ks
 | _ :: _, [] => False
end

/-! ### what acts comes in one order, and may turn what was made before it -/
section
variable {P : Program} {A : Fr} {K : List (Nat × Value)} {Q : Exit → Act → World → Prop} {c : Code} {B : Base} {I : Imm} {nx : Nat} {L : List Blk} {X : List Res} {os : List Oper} {p : Nat}
def chainOk (an : List Nat) : List Nat → Bool
 | [] => true
 | i :: r => (r.all fun j => behind an j i && !Nat.beq j i) && chainOk an r
def Steps (P : Program) (os : List Oper) (T : Nat → (Nat → Wt) → World → Prop) : Nat → List (Nat × (Wt → Value)) → List ((Nat → Wt) → List (Nat × Value)) → Prop
 | _, [], _ => True
 | _, _ :: _, [] => False
 | q, (i, f) :: r, Kl :: Ks => (∀ u w, T q u w → Does P (execOp (evalK (Kl u)) (os.getD i default)) w (fun v w' => ∃ x, v = f x ∧ T (q + 1) (upd u i x) w')) ∧ Steps P os T (q + 1) r Ks
def SK (vl : List (Nat × (Wt → Value))) (T : Nat → (Nat → Wt) → World → Prop) (D : Nat → Bool) (u : Nat → Wt) (w : World) : Prop :=
 ∃ a b, vl = a ++ b ∧ (∀ p ∈ a, D p.1 = true) ∧ (∀ p ∈ b, D p.1 = false) ∧ T a.length u w
end

section
variable {P : Program} {A : Fr} {K : List (Nat × Value)} {Q : Exit → Act → World → Prop} {c : Code} {B : Base} {I : Imm} {nx : Nat} {L : List Blk} {X : List Res} {os : List Oper} {p : Nat}
end

section
variable {P : Program} {A : Fr} {K : List (Nat × Value)} {Q : Exit → Act → World → Prop} {c : Code} {B : Base} {I : Imm} {nx : Nat} {L : List Blk} {X : List Res} {os : List Oper} {p : Nat}
def TK (B : Base) (I : Imm) (L : List Blk) (Xs : Nat → (Nat → Wt) → List Res) (Fs : Nat → (Nat → Wt) → Imm → Prop) : Nat → (Nat → Wt) → World → Prop := fun q u w => ∃ J, Imm.le I J ∧ Sat B J w.heap.size L (Xs q u) w ∧ Fs q u J
end

section
variable {P : Program} {A : Fr} {K : List (Nat × Value)} {Q : Exit → Act → World → Prop} {c : Code} {B : Base} {I : Imm} {nx : Nat} {L : List Blk} {X : List Res} {os : List Oper} {p : Nat}
/-! ### the bytes of a constant string -/
end
end Go.Proofs.YtfecniimkgkmfaaGreat.RW
namespace Go.Proofs.YtfecniimkgkmfaaGreat.RW
open Go Go.RowKit

section
variable {P : Program} {c : Code} {Q : Exit → Act → World → Prop} {A : Fr} {K : List (Nat × Value)} {B : Base} {I : Imm} {nx : Nat} {L : List Blk} {X : List Res} {os : List Oper} {p : Nat}
theorem run_slice3 {T e : TypeId} {sz : Nat} (hu : P.underlying T = some (.slice e)) (hz : (P.info? e).map (·.size) = some sz) {S : Option Addr} {n cap : Nat} {lo hi mx : Int} (h0 : 0 ≤ lo) (h1 : lo ≤ hi) (h2 : hi ≤ mx) (h3 : mx ≤ (cap : Int)) (w : World) (kl kh km : IntKind) :
  (Instr.sliceAt T (.slice S n cap) (some (.int kl lo)) (some (.int kh hi)) (some (.int km mx))).run P w = .ok (.slice (slA S lo.toNat mx.toNat sz) (hi.toNat - lo.toNat) (mx.toNat - lo.toNat)) w := by
 obtain ⟨inf, hi', hsz⟩ := Option.map_eq_some_iff.1 hz
 obtain ⟨hu1, he⟩ := elem_of hu
 rw [run_sliceAt_slice w T _ _ _ _ hu1, run_slice_lhm w T S n cap hu1 kl kh km lo hi mx h0 h1 h2 h3, he]
 simp only [sizeOf, typeInfo, Sem.run_bind, Result.andThen]
 simp [hi', hsz, sliced, slA]
theorem run_slice2 {T e : TypeId} {sz : Nat} (hu : P.underlying T = some (.slice e)) (hz : (P.info? e).map (·.size) = some sz) {S : Option Addr} {n cap : Nat} {lo hi : Int} (h0 : 0 ≤ lo) (h1 : lo ≤ hi) (h2 : hi ≤ (cap : Int)) (w : World) (kl kh : IntKind) :
  (Instr.sliceAt T (.slice S n cap) (some (.int kl lo)) (some (.int kh hi)) none).run P w = .ok (.slice (slA S lo.toNat cap sz) (hi.toNat - lo.toNat) (cap - lo.toNat)) w := by
 obtain ⟨inf, hi', hsz⟩ := Option.map_eq_some_iff.1 hz
 obtain ⟨hu1, he⟩ := elem_of hu
 rw [run_sliceAt_slice w T _ _ _ _ hu1, run_slice_lh w T S n cap hu1 kl kh lo hi h0 h1 h2, he]
 simp only [sizeOf, typeInfo, Sem.run_bind, Result.andThen]
 simp [hi', hsz, sliced, slA]
theorem RL.slice3 {T e : TypeId} (sz : Nat) {S : Option Addr} {n cap : Nat} {lo hi mx : Int} (kl kh km : IntKind) (d : Option Tmp) (hl : ready os p K d = true)
  (hx : execOp (evalK K) (os.getD p default) = toNext (Instr.sliceAt T (.slice S n cap) (some (.int kl lo)) (some (.int kh hi)) (some (.int km mx))))
  (hu : P.underlying T = some (.slice e)) (hz : (P.info? e).map (·.size) = some sz) (h0 : 0 ≤ lo) (h1 : lo ≤ hi) (h2 : hi ≤ mx) (h3 : ∀ w, Sat B I nx L X w → mx ≤ (cap : Int)) {K' : List (Nat × Value)} (hF : putK A K d (.slice (slA S lo.toNat mx.toNat sz) (hi.toNat - lo.toNat) (mx.toNat - lo.toNat)) = K')
  (kk : RL P os Q (p + 1) A K' B I nx L X) : RL P os Q p A K B I nx L X :=
 RL.quiet d _ hl hF (fun w hs => by rw [hx]; exact run_toNext (run_slice3 hu hz h0 h1 h2 (h3 w hs) w kl kh km)) kk
theorem RL.slice2 {T e : TypeId} (sz : Nat) {S : Option Addr} {n cap : Nat} {lo hi : Int} (kl kh : IntKind) (d : Option Tmp) (hl : ready os p K d = true)
  (hx : execOp (evalK K) (os.getD p default) = toNext (Instr.sliceAt T (.slice S n cap) (some (.int kl lo)) (some (.int kh hi)) none))
  (hu : P.underlying T = some (.slice e)) (hz : (P.info? e).map (·.size) = some sz) (h0 : 0 ≤ lo) (h1 : lo ≤ hi) (h2 : ∀ w, Sat B I nx L X w → hi ≤ (cap : Int)) {K' : List (Nat × Value)} (hF : putK A K d (.slice (slA S lo.toNat cap sz) (hi.toNat - lo.toNat) (cap - lo.toNat)) = K')
  (kk : RL P os Q (p + 1) A K' B I nx L X) : RL P os Q p A K B I nx L X :=
 RL.quiet d _ hl hF (fun w hs => by rw [hx]; exact run_toNext (run_slice2 hu hz h0 h1 (h2 w hs) w kl kh)) kk

theorem giv_ownH {α : Type} {T e : TypeId} (sz : Nat) {l : List α} {S : Option Addr} {cap : Nat} {hi : Int} (kh : IntKind)
  (hx : execOp (evalK K) (os.getD p default) = toNext (Instr.sliceAt T (.slice S l.length cap) none (some (.int kh hi)) none))
  (hu : P.underlying T = some (.slice e)) (hz : (P.info? e).map (·.size) = some sz) (hc : l.length ≤ cap) (h1 : 0 ≤ hi) (h2 : hi ≤ (l.length : Int)) (w : World) :
  (execOp (evalK K) (os.getD p default)).run P w = .ok (.value (.slice S hi.toNat cap)) w := by
 have h := run_subH (P := P) hu hz (l := l) (S := S) (cap := cap) hc h1 h2 w kh
 rw [slA_self, part_length (Int.le_refl 0) h1 h2] at h
 rw [hx]
 exact run_toNext (by simpa using h)
theorem giv_ownL {α : Type} {T e : TypeId} (sz : Nat) {l : List α} {S : Option Addr} {cap : Nat} {lo : Int} (kl : IntKind)
  (hx : execOp (evalK K) (os.getD p default) = toNext (Instr.sliceAt T (.slice S l.length cap) (some (.int kl lo)) none none))
  (hu : P.underlying T = some (.slice e)) (hz : (P.info? e).map (·.size) = some sz) (h0 : 0 ≤ lo) (h1 : lo ≤ (l.length : Int)) (w : World) :
  (execOp (evalK K) (os.getD p default)).run P w = .ok (.value (.slice (slA S lo.toNat cap sz) (l.length - lo.toNat) (cap - lo.toNat))) w := by
 have h := run_subL (P := P) hu hz (l := l) (S := S) (cap := cap) h0 h1 w kl
 rw [part_length h0 h1 (Int.le_refl _)] at h
 rw [hx]
 exact run_toNext (by simpa using h)
/-- What a row's room is. -/
theorem Sat.own_le {w : World} (hs : Sat B I nx L X w) {xi : Nat} {e : TypeId} {sz : Nat} {S : Option Addr} {n cap : Nat} {cs : List Value} (hX : X[xi]? = some (orow e sz S n cap cs)) : n ≤ cap := by
 rcases (hs.own_P hX).2 with ⟨e1, h0⟩ | ⟨g, cap', cur, e1, hb, hg, hc, _⟩
 ·omega
 ·injection e1 with _ _ e3
  omega
theorem Sat.own_le' {w : World} (hs : Sat B I nx L X w) (xi : Nat) {e : TypeId} {sz : Nat} {S : Option Addr} {n cap : Nat} {cs : List Value} (hX : X[xi]? = some (orow e sz S n cap cs)) {m : Int} (h : m ≤ (n : Int)) : m ≤ (cap : Int) := by
 have := hs.own_le hX
 omega
theorem slA_at {g lo cap sz : Nat} (h : lo < cap) : slA (some ⟨g, 0, none⟩) lo cap sz = some ⟨g, lo * sz, none⟩ := by
 unfold slA
 rw [if_neg (by omega), Option.map_some]
 congr 1
 unfold Addr.add
 split
 ·rename_i h; rw [h]
 ·simp
theorem setRow_short {w : World} (hs : Sat B I nx L X w) {xi : Nat} {e : TypeId} {sz g n n' cap : Nat} {cs cs' : List Value} (hX : X[xi]? = some (orow e sz (some ⟨g, 0, none⟩) n cap cs)) (cur : Array Value) (hg : w.heap[g]? = some (.cells cur e (0, 0))) (hl : cs'.length = n' * sz) (rest : List Value) (hcap : cap * sz = (cs' ++ rest).length) (hn : n' ≤ cap) (hm : cap ≤ maxLen) :
  Sat B I (w.setRow g (cs' ++ rest).toArray).heap.size L (X.set xi (orow e sz (some ⟨g, 0, none⟩) n' cap cs')) (w.setRow g (cs' ++ rest).toArray) := by
 have hheap : ∀ k, k ≠ g → (w.setRow g (cs' ++ rest).toArray).heap[k]? = w.heap[k]? := fun k hk => by
  simp only [World.setRow, Array.getElem?_modify]
  rw [if_neg (fun e => hk e.symm)]
 have hsz : (w.setRow g (cs' ++ rest).toArray).heap.size = w.heap.size := by simp [World.setRow]
 exact hs.replace hX (orow e sz (some ⟨g, 0, none⟩) n' cap cs') (w' := w.setRow g (cs' ++ rest).toArray) rfl rfl rfl (by rw [hsz]; exact Nat.le_refl _) (fun k hk hf => hheap k (fun e1 => hf (by rw [e1]; exact ⟨_, rfl, rfl⟩)))
  ⟨hl, .inr ⟨g, cap, (cs' ++ rest).toArray, rfl, Nat.zero_le _, setRow_heap w g cur _ e _ hg, hn, hm, by simp [← hcap], by simp [← hl]⟩⟩
  (fun k hk => .inl hk) (fun k hk => by
   obtain ⟨a, ha, rfl⟩ := hk
   injection ha with ha
   rw [← ha, hsz]
   exact (Array.getElem?_eq_some_iff.1 hg).1)
/-- A part of a row of the call's own is laid over another place of it. -/
theorem Sat.del_run {α : Type} {T e : TypeId} {S : Option Addr} {w : World} (hs : Sat B I nx L X w) (sz : Nat) (ty : TypeId) (cap : Nat) (cs : List Value) (dt : Ty α) (l : List α) (xi : Nat)
  (hu : P.underlying T = some (.slice e)) (hz : (P.info? e).map (·.size) = some sz) (hd : dt.sz = sz) (hX : X[xi]? = some (orow e sz S l.length cap cs)) (hr : Reps dt I l cs) (i j : Nat) (hij : i ≤ j) (hj : j ≤ l.length) :
  ∃ (cs' : List Value) (w' : World), (Builtin.append_ #[T, T] ty #[.slice S i cap, .slice (slA S j cap sz) (l.length - j) (cap - j)]).run P w = .ok (.slice S (l.take i ++ l.drop j).length cap) w' ∧ Reps dt I (l.take i ++ l.drop j) cs' ∧ Sat B I w'.heap.size L (X.set xi (orow e sz S (l.take i ++ l.drop j).length cap cs')) w' := by
 subst hd
 obtain ⟨inf, hinf, hsz⟩ := Option.map_eq_some_iff.1 hz
 have hlen : (l.take i ++ l.drop j).length = i + (l.length - j) := by rw [List.length_append, List.length_take, List.length_drop]; omega
 have ho := hs.own_P hX
 have hcs : cs.length = l.length * dt.sz := ho.1
 have hrep : Reps dt I (l.take i ++ l.drop j) (cs.take (i * dt.sz) ++ cs.drop (j * dt.sz)) := (hr.take i).append (by
  have h1 : ∀ (j : Nat) {l : List α} {cs : List Value}, Reps dt I l cs → Reps dt I (l.drop j) (cs.drop (j * dt.sz)) := by
   intro j
   induction j with
   | zero => intro l cs h; simpa using h
   | succ j ih =>
    intro l cs h
    cases l with
    | nil => obtain rfl : cs = [] := h; simp; exact rfl
    | cons x l =>
     obtain ⟨c, ds, rfl, hk, hr2⟩ := h
     have hc := dt.len hk
     rw [List.drop_succ_cons, Nat.succ_mul, Nat.add_comm, ← List.drop_drop, show dt.sz = c.length from hc.symm, List.drop_left]
     rw [hc]
     exact ih hr2
  exact h1 j hr)
 refine ⟨cs.take (i * dt.sz) ++ cs.drop (j * dt.sz), ?_⟩
 have hle1 : i * dt.sz ≤ l.length * dt.sz := Nat.mul_le_mul_right _ (by omega)
 have hle2 : j * dt.sz ≤ l.length * dt.sz := Nat.mul_le_mul_right _ hj
 have hle3 : i * dt.sz ≤ j * dt.sz := Nat.mul_le_mul_right _ hij
 have hcl : (cs.take (i * dt.sz) ++ cs.drop (j * dt.sz)).length = (i + (l.length - j)) * dt.sz := by
  rw [List.length_append, List.length_take, List.length_drop, hcs, Nat.add_mul, Nat.sub_mul]; omega
 rcases ho.2 with ⟨e1, h0⟩ | ⟨g, cap', cur, e1, _, hg, hc, hmx, hsz2, htk⟩
 ·injection e1 with e1 _ e3
  subst e1; subst e3
  obtain rfl : i = 0 := by omega
  obtain rfl : j = 0 := by omega
  have hl0 : l = [] := List.eq_nil_of_length_eq_zero h0
  subst hl0
  have hc0 : cs = [] := List.eq_nil_of_length_eq_zero (by simpa using hcs)
  subst hc0
  refine ⟨w, ?_, by simpa using hrep, ?_⟩
  ·simp [Builtin.append_, run_underlying hu, sizeOf, typeInfo, hinf, Builtin.lenOf, slA, Builtin.firstCells, Sem.run_bind]
  ·have hset : X.set xi (orow e dt.sz none 0 0 []) = X := by
    obtain ⟨h1, h2⟩ := List.getElem?_eq_some_iff.1 hX
    have : X[xi] = orow e dt.sz none 0 0 [] := h2
    rw [← this]
    exact List.set_getElem_self h1
   simp only [List.take_nil, List.drop_nil, List.append_nil, List.length_nil, Nat.zero_mul]
   rw [hset, hs.hnx]
   exact hs
 ·injection e1 with e1 _ e3
  subst e1; subst e3
  have hle4 : l.length * dt.sz ≤ cap * dt.sz := Nat.mul_le_mul_right _ hc
  have hcur : cur.toList = cs ++ cur.toList.drop (l.length * dt.sz) := by
   conv => lhs; rw [← List.take_append_drop (l.length * dt.sz) cur.toList]
   rw [htk]
  -- what is read
  have hread : ∀ w : World, w.heap[g]? = some (.cells cur e (0, 0)) → (Builtin.firstCells dt.sz (l.length - j) (.slice (slA (some ⟨g, 0, none⟩) j cap dt.sz) (l.length - j) (cap - j))).run P w = .ok (cs.drop (j * dt.sz)).toArray w := by
   intro w hg
   by_cases hjl : j = l.length
   ·subst hjl
    have hz0 : cs.drop (l.length * dt.sz) = [] := List.drop_eq_nil_of_le (by omega)
    rw [hz0, Nat.sub_self]
    unfold slA
    split
    ·exact run_loadCells_list (P := P) w _ [] (by simp) |> fun h => by simpa [Builtin.firstCells] using h
    ·exact run_loadCells_list (P := P) w _ [] (by simp) |> fun h => by simpa [Builtin.firstCells] using h
   ·rw [slA_at (by omega)]
    have hl2 : (cs.drop (j * dt.sz)).length = (l.length - j) * dt.sz := by rw [List.length_drop, hcs, Nat.sub_mul]
    have := run_loadCells_list (P := P) w ⟨g, j * dt.sz, none⟩ (cs.drop (j * dt.sz)) (fun q v hv => by
     have hadd : (⟨g, j * dt.sz, none⟩ : Addr).add q = ⟨g, j * dt.sz + q, none⟩ := by
      unfold Addr.add
      split
      ·rename_i h; rw [h]; rfl
      ·rfl
     rw [hadd]
     simp only [World.cell?, hg]
     rw [List.getElem?_drop] at hv
     have h5 : cur.toList[j * dt.sz + q]? = some v := by
      rw [hcur, List.getElem?_append_left (List.getElem?_eq_some_iff.1 hv).1]
      exact hv
     simpa using h5)
    rw [hl2] at this
    exact this
  have hone : ∀ v ∈ cs.drop (j * dt.sz), v.oneCell' = true := fun v hv => hr.one v (List.mem_of_mem_drop hv)
  have hst := run_storeCells_at P g (i * dt.sz) e (cs.drop (j * dt.sz)) 0 cur w hg (by rw [List.length_drop, hcs, hsz2]; omega) hone
  simp only [Nat.add_zero] at hst
  refine ⟨w.setRow g (cur.toList.take (i * dt.sz) ++ cs.drop (j * dt.sz) ++ cur.toList.drop (i * dt.sz + (cs.drop (j * dt.sz)).length)).toArray, ?_, hrep, ?_⟩
  ·have hneed : i + (l.length - j) ≤ cap := by omega
   have hadd : (⟨g, 0, none⟩ : Addr).add (i * dt.sz) = ⟨g, i * dt.sz, none⟩ := by
    unfold Addr.add
    split
    ·rename_i h; rw [h]
    ·simp
   have hzr : ∀ w : World, (underlying T).run P w = .ok (.slice e) w := run_underlying hu
   rw [hlen]
   simp [Builtin.append_, hzr, sizeOf, typeInfo, hinf, hsz, Builtin.lenOf, hneed, hread w hg, hadd, hst, Sem.run_bind]
  ·have hnew : cur.toList.take (i * dt.sz) ++ cs.drop (j * dt.sz) ++ cur.toList.drop (i * dt.sz + (cs.drop (j * dt.sz)).length) = (cs.take (i * dt.sz) ++ cs.drop (j * dt.sz)) ++ cur.toList.drop (i * dt.sz + (cs.drop (j * dt.sz)).length) := by
    conv => lhs; rw [hcur]
    rw [List.take_append_of_le_length (by omega), ← hcur]
   rw [hnew]
   have h6 := setRow_short hs hX cur hg (n' := (l.take i ++ l.drop j).length) (cs' := cs.take (i * dt.sz) ++ cs.drop (j * dt.sz)) (by rw [hlen]; exact hcl) (cur.toList.drop (i * dt.sz + (cs.drop (j * dt.sz)).length)) (by
    simp only [List.length_append, List.length_take, List.length_drop, Array.length_toList, hcs, hsz2]
    omega) (by rw [hlen]; omega) hmx
   exact h6
theorem RL.delA {α : Type} {T e : TypeId} (sz : Nat) (ty : TypeId) {S : Option Addr} (cap : Nat) (cs : List Value) (dt : Ty α) (l : List α) (xi i j : Nat) (d : Option Tmp) (hl : ready os p K d = true)
  (hx : execOp (evalK K) (os.getD p default) = toNext (Builtin.append_ #[T, T] ty #[.slice S i cap, .slice (slA S j cap sz) (l.length - j) (cap - j)]))
  (hu : P.underlying T = some (.slice e)) (hz : (P.info? e).map (·.size) = some sz) (hd : dt.sz = sz) (hX : X[xi]? = some (orow e sz S l.length cap cs)) (hr : Reps dt I l cs) (hij : i ≤ j) (hj : j ≤ l.length)
  (kk : ∀ (cs' : List Value) (nx' : Nat), Reps dt I (l.take i ++ l.drop j) cs' → RL P os Q (p + 1) A (putK A K d (.slice S (l.take i ++ l.drop j).length cap)) B I nx' L (X.set xi (orow e sz S (l.take i ++ l.drop j).length cap cs'))) : RL P os Q p A K B I nx L X := by
 refine RL.one d (fun v w' => v = .slice S (l.take i ++ l.drop j).length cap ∧ ∃ cs', Reps dt I (l.take i ++ l.drop j) cs' ∧ Sat B I w'.heap.size L (X.set xi (orow e sz S (l.take i ++ l.drop j).length cap cs')) w') hl (fun w hs => ?_) (fun v w' hN a' ha' => ?_)
 ·obtain ⟨cs', w', h1, h2, h3⟩ := hs.del_run (P := P) (T := T) (e := e) (S := S) sz ty cap cs dt l xi hu hz hd hX hr i j hij hj
  exact ⟨_, w', by rw [hx]; exact run_toNext h1, rfl, cs', h2, h3⟩
 ·obtain ⟨rfl, cs', h2, hs⟩ := hN
  exact kk cs' _ h2 a' w' ha' hs
theorem OK.ownLe (xi : Nat) {e : TypeId} {sz : Nat} {S : Option Addr} {n cap : Nat} {cs : List Value} (hX : X[xi]? = some (orow e sz S n cap cs)) (k : n ≤ cap → OK P c Q A K B I nx L X) : OK P c Q A K B I nx L X := fun a w ha hs => k (hs.own_le hX) a w ha hs
theorem zeroCells_len (z : Array Value) (n : Nat) : (Builtin.zeroCells z n).toList.length = n * z.size := by
 unfold Builtin.zeroCells
 simp
theorem zeroCells_one' {z : Array Value} (h : ∀ v ∈ z.toList, v.oneCell' = true) (n : Nat) : ∀ v ∈ (Builtin.zeroCells z n).toList, v.oneCell' = true := by
 intro v hv
 unfold Builtin.zeroCells at hv
 simp only [Array.toList_map, Array.toList_range, List.mem_map, List.mem_range] at hv
 obtain ⟨i, hi, rfl⟩ := hv
 have hz : 0 < z.size := by
  rcases Nat.eq_zero_or_pos z.size with h0 | h0
  ·rw [h0, Nat.mul_zero] at hi; omega
  ·exact h0
 have hlt := Nat.mod_lt i hz
 rw [getElem!_pos z (i % z.size) hlt]
 exact h _ (by simp)
/-- What lies behind a row of the call's own is cleared. -/
theorem RL.clearT {T e : TypeId} (sz xi m : Nat) (ty : TypeId) {S : Option Addr} {n cap : Nat} {cs : List Value} (zv : Value) (hl : ready os p K none = true)
  (hx : execOp (evalK K) (os.getD p default) = toNext (Builtin.clear_ #[T] ty #[.slice (slA S n cap sz) m (cap - n)]))
  (hu : P.underlying T = some (.slice e)) (hz : (P.info? e).map (fun i => (i.size, i.zero)) = some (sz, some zv)) (hzs : zv.cells.size = sz) (hone : ∀ v ∈ zv.cells.toList, v.oneCell' = true) (hX : X[xi]? = some (orow e sz S n cap cs)) (hm : n + m ≤ cap)
  (kk : RL P os Q (p + 1) A (putK A K none (.tuple #[])) B I nx L X) : RL P os Q p A K B I nx L X := by
 subst hzs
 obtain ⟨inf, hinf, hh⟩ := Option.map_eq_some_iff.1 hz
 simp only [Prod.mk.injEq] at hh
 obtain ⟨hsz, hzr⟩ := hh
 have hset : X.set xi (orow e zv.cells.size S n cap cs) = X := by
  obtain ⟨h1, h2⟩ := List.getElem?_eq_some_iff.1 hX
  rw [← h2]
  exact List.set_getElem_self h1
 have hzv : ∀ w : World, (zeroValue e).run P w = .ok zv w := fun w => by simp [zeroValue, typeInfo, hinf, hzr]
 refine RL.one none (fun v w' => v = .tuple #[] ∧ Sat B I nx L X w') hl (fun w hs => ?_) (fun v w' hK a' ha' => ?_)
 ·have ho := hs.own_P hX
  rcases ho.2 with ⟨e1, h0⟩ | ⟨g, cap', cur, e1, _, hg, hc, hmx, hcs, htk⟩
  ·injection e1 with e1 _ e3
   subst e1
   refine ⟨_, w, ?_, rfl, hs⟩
   rw [hx]
   refine run_toNext ?_
   unfold slA
   split <;> simp [Builtin.clear_, run_underlying hu]
  ·injection e1 with e1 _ e3
   subst e1; subst e3
   by_cases hm0 : m = 0
   ·subst hm0
    refine ⟨_, w, ?_, rfl, hs⟩
    rw [hx]
    refine run_toNext ?_
    unfold slA
    split <;> simp [Builtin.clear_, run_underlying hu]
   ·have hlen := zeroCells_len zv.cells m
    have hle : n * zv.cells.size + m * zv.cells.size ≤ cap * zv.cells.size := by rw [← Nat.add_mul]; exact Nat.mul_le_mul_right _ hm
    have hst := run_storeCells_at P g (n * zv.cells.size) e (Builtin.zeroCells zv.cells m).toList 0 cur w hg (by rw [hlen, hcs]; omega) (zeroCells_one' hone m)
    simp only [Nat.add_zero] at hst
    refine ⟨.tuple #[], w.setRow g (cur.toList.take (n * zv.cells.size) ++ (Builtin.zeroCells zv.cells m).toList ++ cur.toList.drop (n * zv.cells.size + (Builtin.zeroCells zv.cells m).toList.length)).toArray, ?_, rfl, ?_⟩
    ·rw [hx]
     refine run_toNext ?_
     rw [slA_at (by omega)]
     obtain ⟨m', rfl⟩ : ∃ m', m = m' + 1 := ⟨m - 1, by omega⟩
     simp [Builtin.clear_, run_underlying hu, Sem.run_bind, hzv, hst]
    ·rw [htk, List.append_assoc]
     have h6 := setRow_sat hs hX cur hg (cs' := cs) ho.1 ((Builtin.zeroCells zv.cells m).toList ++ cur.toList.drop (n * zv.cells.size + (Builtin.zeroCells zv.cells m).toList.length)) (by
      simp only [List.length_append, List.length_drop, Array.length_toList, hcs, ho.1, hlen]
      simp only [Array.length_toList] at hlen
      omega) hc hmx
     rw [hset] at h6
     exact h6
 ·obtain ⟨rfl, hs⟩ := hK
  exact kk a' w' ha' hs
end
end Go.Proofs.YtfecniimkgkmfaaGreat.RW
namespace Go.Proofs.YtfecniimkgkmfaaGreat.RW
open Go Go.RowKit

/-- Two pieces of memory as one. -/
def rand (r s : Res) : Res where
 fp := fun k => r.fp k ∨ s.fp k
 P := fun I w => r.P I w ∧ s.P I w
 stable := fun I w w' h p => ⟨r.stable I w w' (fun k hk => h k (.inl hk)) p.1, s.stable I w w' (fun k hk => h k (.inr hk)) p.2⟩
 ext := fun I J w h p => ⟨r.ext I J w h p.1, s.ext I J w h p.2⟩
/-- One object at a place. -/
def ores (g : Nat) (o : Obj) : Res where
 fp := fun k => k = g
 P := fun _ w => w.heap[g]? = some o
 stable := fun _ w w' h hp => by rw [h g rfl]; exact hp
 ext := fun _ _ _ _ h => h
/-- What a yield has to show: what the rounds hold is another, and only that has turned. -/
structure Yl (I : Imm) (r r' : Res) (W W' : World) : Prop where
 im : I.at_ W'
 res : r'.P I W'
 dis : ∀ a v, I a = some v → ¬ r'.fp a.block
 fp : ∀ k, r'.fp k → r.fp k ∨ W.heap.size ≤ k
 lt : ∀ k, r'.fp k → k < W'.heap.size
 evo : Evo r.fp W W'
/-- What is known where a yield begins. -/
structure At (N : Nat → Prop) (I0 I : Imm) (r : Res) (W : World) : Prop where
 le : I0.le I
 im : I.at_ W
 res : r.P I W
 dis : ∀ a v, I a = some v → ¬ r.fp a.block
 lt : ∀ k, r.fp k → k < W.heap.size
 inew : ∀ a v, I a = some v → I0 a = some v ∨ N a.block
/-- An iterator that hands on c, one by one; the last may be refused. -/
def IterR {α : Type} (P : Program) (gf : Nat) (lb : Array Value) (I0 : Imm) (c : List α) (E : Imm → α → Array Value → Prop) (stop : α → Bool) (l : Nat) (W : World) : Prop :=
 ∀ (Rk : List α → Res → Prop) (r0 : Res), Rk [] r0 → At (fun k => r0.fp k ∨ W.heap.size ≤ k) I0 I0 r0 W →
  (∀ I pre x xs r W1, At (fun k => r0.fp k ∨ W.heap.size ≤ k) I0 I r W1 → Rk pre r → (pre ++ [x]) <+: c → E I x xs → YieldAt (Fence.ro none) 0 P l xs W1 fun e W' => e = .returned (.bool (!stop x)) ∧ ∃ r', Rk (pre ++ [x]) r' ∧ Yl I r r' W1 W') →
  Calls P gf (#[.func (.yield l) #[] #[]] ++ lb) W fun e W' => (∃ v, e = .returned v) ∧ ∃ I r, Rk c r ∧ At (fun k => r0.fp k ∨ W.heap.size ≤ k) I0 I r W' ∧ Evo r0.fp W W' ∧ (∀ k, r.fp k → r0.fp k ∨ W.heap.size ≤ k)

variable {P : Program}
/-- The record of a loop, as it stands behind these rounds. -/
def recAt {α : Type} (rec : LoopState → Option Code → Loop) (stop : α → Bool) (pre : List α) : Loop := if pre.any stop then rec .done (some .ret) else rec .ready none
/-- The iterator's start, with what the rounds hold. -/
theorem Sat.startR {N : Nat → Prop} {I : Imm} {r : Res} {W : World} (h : At N I I r W) : Sat ⟨W, r.fp, I⟩ I W.heap.size [] [r] W := by
 have h1 := Sat.start W r.fp I h.im
 refine ⟨h1.evo, h1.hnx, h1.blk, h1.own, h1.ne, ?_, ?_, List.pairwise_singleton _ _, ?_, h1.im, h1.imL, ?_, h1.le, h1.inew⟩
 ·intro s hs; rw [List.mem_singleton.1 hs]; exact h.res
 ·intro s hs k hk; rw [List.mem_singleton.1 hs] at hk; exact ⟨h.lt k hk, .inr hk⟩
 ·intro s hs b hb; cases hb
 ·intro b v hv s hs; rw [List.mem_singleton.1 hs]; exact h.dis b v hv
end Go.Proofs.YtfecniimkgkmfaaGreat.RW
namespace Go.Proofs.YtfecniimkgkmfaaGreat.RW
open Go Go.RowKit

section
variable {P : Program} {c : Code} {Q : Exit → Act → World → Prop} {A : Fr} {K : List (Nat × Value)} {B : Base} {I : Imm} {nx : Nat} {L : List Blk} {X : List Res} {os : List Oper} {p : Nat}
variable {T Kt Et : TypeId} {α β : Type} [DecidableEq α] {kE : α → Value} {vE : β → Value} {z : β}

omit [DecidableEq α] in
/-! ### a map that never turns from now on -/
theorem mapImm_some {g : Nat} {v v' : Value} {a : Addr} (h : mapImm g v a = some v') : a = ⟨g, 0, some 0⟩ ∧ v' = v := by
 unfold mapImm at h
 split at h
 ·rename_i e; exact ⟨e, (Option.some.inj h).symm⟩
 ·cases h
omit [DecidableEq α] in
theorem Sat.freezeM {w : World} (h : Sat B I nx L X w) {m g : Nat} {l : List (α × β)} (hm : X[m]? = some (mres kE vE g l)) :
  ∃ J, I.le J ∧ Mp kE vE J g l ∧ Sat B J nx L (X.eraseIdx m) w := by
 have hmm := List.mem_of_getElem? hm
 obtain ⟨hml, hme⟩ := List.getElem?_eq_some_iff.1 hm
 have hg : w.heap[g]? = some (.map (ents kE vE 0 l).toArray l.length) := h.res _ hmm
 have hsub : Sat B I nx L (X.eraseIdx m) w := h.less (List.Sublist.refl _) (List.eraseIdx_sublist _ _)
 refine ⟨I.or (mapImm g (codeM (ents kE vE 0 l).toArray)), Imm.le_or _ _, Imm.or_get ?_ (by unfold mapImm; rw [if_pos rfl]), hsub.imm _ ?_ ?_ ?_ ?_⟩
 ·cases hI : I ⟨g, 0, some 0⟩ with
  | none => rfl
  | some v => exact absurd (rfl : g = g) (h.imX _ v hI (mres kE vE g l) hmm)
 ·intro a v ha
  obtain ⟨rfl, rfl⟩ := mapImm_some ha
  show look w ⟨g, 0, some 0⟩ = _
  simp only [look, hg]
 ·intro a v ha b hb
  obtain ⟨rfl, rfl⟩ := mapImm_some ha
  intro e
  exact h.rblk _ hmm b hb e
 ·intro a v ha r hr
  obtain ⟨rfl, rfl⟩ := mapImm_some ha
  intro hf
  obtain ⟨y, hy, hyb⟩ := List.getElem_of_mem hr
  rw [List.length_eraseIdx_of_lt hml] at hy
  rw [List.getElem_eraseIdx] at hyb
  have hp := List.pairwise_iff_getElem.1 h.rdis
  have key : ∀ j (hj : j < X.length), j ≠ m → ¬ X[j].fp g := fun j hj hne hf' => by
   rcases Nat.lt_or_gt_of_ne hne with h1 | h1
   ·have h2 := hp j m hj hml h1 g hf'
    rw [hme] at h2
    exact h2 rfl
   ·have h2 := hp m j hml hj h1 g (by rw [hme]; rfl)
    exact h2 hf'
  split at hyb
  ·rw [← hyb] at hf; exact key y (by omega) (by omega) hf
  ·rw [← hyb] at hf; exact key (y + 1) (by omega) (by omega) hf
 ·intro a v ha
  obtain ⟨rfl, rfl⟩ := mapImm_some ha
  exact (h.rown _ hmm g rfl).2
omit [DecidableEq α] in
theorem RL.freezeM {m g : Nat} {l : List (α × β)} (hm : X[m]? = some (mres kE vE g l)) (k : ∀ J, I.le J → Mp kE vE J g l → RL P os Q p A K B J nx L (X.eraseIdx m)) : RL P os Q p A K B I nx L X := fun a w ha hs => by
 obtain ⟨J, h1, h2, h3⟩ := hs.freezeM hm
 exact k J h1 h2 a w ha h3
omit [DecidableEq α] in
/-! ### what it holds -/
omit [DecidableEq α] in
end
end Go.Proofs.YtfecniimkgkmfaaGreat.RW
namespace Go.Proofs.YtfecniimkgkmfaaGreat.AM
open Go Go.RowKit Go.Proofs.YtfecniimkgkmfaaGreat.RW

/-- A copy of a row, where there is room for it. -/
def cloneF {α : Type} (b : Nat) (l : List α) : Option (List α) := bif decide (l.length * b ≤ 140737488355328) then some l else none
def cloneD (e : TypeId) (c : TC) (g : List c.I → Option (List c.I)) : FragD := ⟨⟨[(0, ph (.row c))], []⟩, [⟨1, ⟨[(0, po 0)], [.row e c]⟩, List c.I, fun x => x.2.1, fun r => (((), ()), (r, ())), fun _ => rfl⟩], fun x => g x.1.1⟩
theorem clone_ok {P : Program} {f : FuncId} {e : TypeId} {c : TC} {b : Nat} (g : List c.I → Option (List c.I)) (hgf : ∀ l, g l = cloneF b l)
  (hw : ∀ (I : Imm) (l : List c.I) (A : Option Addr) (cp : Nat) (w : World), I.at_ w → l.length ≤ cp → Rd c.ty I A l → l.length * b ≤ 140737488355328 →
   Calls P f [.slice A l.length cp].toArray w fun e' w' => ∃ v, e' = .returned v ∧ ∃ A' c' cs, v = .slice A' l.length c' ∧ Got w w' I I [orow e c.sz A' l.length c' cs] ∧ Reps c.ty I l cs) : FunOK P f (cloneD e c g) := by
 intro x y q z hg ho I π w vs hlen hls hvs hm
 obtain ⟨v, h0, A, cp, rfl, h1, _, h2⟩ := hvs 0 _ rfl
 match vs, hls, h0 with
 | [v], _, h0 =>
  obtain rfl := Option.some.inj h0
  cases ho
  have hg : g x.1.1 = some y := hg
  rw [hgf] at hg
  unfold cloneF at hg
  cases hd : decide (x.1.1.length * b ≤ 140737488355328) with
  | false => rw [hd] at hg; cases hg
  | true =>
   rw [hd] at hg
   obtain rfl := Option.some.inj hg
   refine (hw I x.1.1 A cp w hm.im h1 h2 (of_decide_eq_true hd)).mono ?_
   rintro e' w' ⟨v, rfl, A', c', cs, rfl, hgot, hr⟩
   have ho : w'.ownsRow 0 e c.sz (.slice A' x.1.1.length c') x.1.1.length cs := hgot.res _ List.mem_cons_self
   obtain ⟨p, hp, _, hs⟩ := hm.row (nb := 0) rfl ho hr ⟨hgot.evo.os, hgot.evo.tape, hgot.evo.output, hgot.evo.size, fun k hk _ => hgot.evo.blk k hk (fun h => h)⟩ (fun k hk => by
    cases A' with
    | none => cases hk
    | some a => injection hk with hk; exact (hgot.rown _ List.mem_cons_self k ⟨a, rfl, hk⟩).1)
   refine ⟨_, rfl, _, I, updP_le (hm.dom 0 rfl) p, Imm.le_refl _, hs.congr (fun o => ?_), fun av hav => ?_⟩
   ·match o with
    | 0 => rfl
    | o + 1 => rfl
   ·cases hav
    exact ⟨p, updP_self _ _ _, hp⟩

/-- What stays where a part is deleted. -/
def delF {α : Type} (l : List α) (i j : Int) : Option (List α) := bif decide (0 ≤ i) && (decide (i ≤ j) && decide (j ≤ (l.length : Int))) then some (l.take i.toNat ++ l.drop j.toNat) else none
def delD (e : TypeId) (c : TC) (g : List c.I → Int → Int → Option (List c.I)) : FragD := ⟨⟨[(0, po 0), (1, ph (.int .i64)), (2, ph (.int .i64))], [.row e c]⟩, [⟨1, ⟨[(0, po 1)], [.gone, .row e c]⟩, List c.I, fun x => x.2.2.1, fun r => (((), ()), ((), r, ())), fun _ => rfl⟩], fun x => g x.2.1 x.1.2.1 x.1.2.2.1⟩
theorem del_ok {P : Program} {f : FuncId} {e : TypeId} {c : TC} (g : List c.I → Int → Int → Option (List c.I)) (hgf : ∀ l i j, g l i j = delF l i j)
  (hw : ∀ (S : Nat → Prop) (I : Imm) (l : List c.I) (A : Option Addr) (cp : Nat) (cs : List Value) (i j : Int) (w : World), Sat ⟨w, S, I⟩ I w.heap.size [] [orow e c.sz A l.length cp cs] w → Reps c.ty I l cs → 0 ≤ i → i ≤ j → j ≤ (l.length : Int) →
   Calls P f [.slice A l.length cp, .int .i64 i, .int .i64 j].toArray w fun e' w' => ∃ v, e' = .returned v ∧ ∃ J cs', v = .slice A (l.take i.toNat ++ l.drop j.toNat).length cp ∧ Sat ⟨w, S, I⟩ J w'.heap.size [] [orow e c.sz A (l.take i.toNat ++ l.drop j.toNat).length cp cs'] w' ∧ Reps c.ty J (l.take i.toNat ++ l.drop j.toNat) cs') : FunOK P f (delD e c g) := by
 intro x y q z hg ho I π w vs hlen hls hvs hm
 obtain ⟨v, h0, p, hp, rfl⟩ := hvs 0 _ rfl
 obtain ⟨v1, h1, rfl, _⟩ := hvs 1 _ rfl
 obtain ⟨v2, h2, rfl, _⟩ := hvs 2 _ rfl
 match vs, hls, h0, h1, h2 with
 | [_, _, _], _, h0, h1, h2 =>
  obtain rfl := Option.some.inj h0
  obtain rfl := Option.some.inj h1
  obtain rfl := Option.some.inj h2
  cases ho
  have hg : g x.2.1 x.1.2.1 x.1.2.2.1 = some y := hg
  rw [hgf] at hg
  unfold delF at hg
  cases hd : (decide (0 ≤ x.1.2.1) && (decide (x.1.2.1 ≤ x.1.2.2.1) && decide (x.1.2.2.1 ≤ (x.2.1.length : Int)))) with
  | false => rw [hd] at hg; cases hg
  | true =>
   rw [hd] at hg
   obtain rfl := Option.some.inj hg
   simp only [Bool.and_eq_true, decide_eq_true_eq] at hd
   obtain ⟨d1, d2, d3⟩ := hd
   have hat : atO π I w 0 (some (.row e c x.2.1)) := hm.res 0
   obtain ⟨p', cs, hp', hn, hown, hr⟩ := hat
   have hp : π 0 = some p := hp
   rw [hp] at hp'
   obtain rfl := Option.some.inj hp'
   have hfp : ∀ k, (orow e c.sz p.A x.2.1.length p.c cs).fp k → fpO π 0 (some (.row e c x.2.1)) k := fun k ⟨a, h1, h2⟩ => ⟨p, a, hp, h1, h2⟩
   have hat : RW.At (fun _ => False) I I (orow e c.sz p.A x.2.1.length p.c cs) w := ⟨Imm.le_refl _, hm.im, by show w.ownsRow 0 e c.sz _ _ _; rw [hn] at hown; exact hown, fun a v ha hk => hm.imX a v ha 0 (hfp _ hk), fun k hk => (hm.own 0 k (hfp k hk)).1, fun a v ha => .inl ha⟩
   have hsat := Sat.startR hat
   rw [show (Value.slice p.A p.n p.c) = .slice p.A x.2.1.length p.c by rw [hn]]
   refine (hw _ I x.2.1 p.A p.c cs x.1.2.1 x.1.2.2.1 w hsat hr d1 d2 d3).mono ?_
   generalize x.2.1.take x.1.2.1.toNat ++ x.2.1.drop x.1.2.2.1.toNat = r
   rintro e' w' ⟨v, rfl, J, cs', rfl, hs, hr'⟩
   have hown' : w'.ownsRow 0 e c.sz (.slice p.A r.length p.c) r.length cs' := hs.res _ List.mem_cons_self
   refine ⟨_, rfl, updP π 1 ⟨p.A, r.length, p.c⟩, J, updP_le (hm.dom 1 rfl) _, hs.le, (hm.step (M' := updM (updM (lk (instOb id [.row e c] 0 x.2)) 0 (some .gone)) 1 (some (.row e c r))) (fun o => o = 0 ∨ o = 1) (updP_le (hm.dom 1 rfl) _) hs.le hs.evo.os hs.evo.tape hs.evo.output hs.evo.size ?_ ?_ ?_ ?_ ?_ ?_ ?_ hs.im ?_ ?_).congr (fun o => ?_), fun av hav => ?_⟩
   ·exact fun k hk hk' => hs.evo.blk k hk (fun h => hk' 0 (.inl rfl) (hfp k h))
   ·intro o ho
    rw [updM_ne _ _ (fun e1 => ho (.inr e1)), updM_ne _ _ (fun e1 => ho (.inl e1))]
    rfl
   ·intro o ho hno
    rw [updP_ne _ _ (fun e1 => ho (.inr e1))]
    exact hm.dom o hno
   ·rintro o (rfl | rfl) hno
    ·rw [updM_ne _ _ (by decide), updM_self] at hno; cases hno
    ·rw [updM_self] at hno; cases hno
   ·rintro o (rfl | rfl)
    ·rw [updM_ne _ _ (by decide), updM_self]; trivial
    ·rw [updM_self]; exact ⟨_, cs', updP_self _ _ _, rfl, hown', hr'⟩
   ·rintro o (rfl | rfl) k hk
    ·rw [updM_ne _ _ (by decide), updM_self] at hk; exact hk.elim
    ·rw [updM_self] at hk
     obtain ⟨p2, a, h1, h2, h3⟩ := hk
     rw [updP_self] at h1
     obtain rfl := Option.some.inj h1
     exact ⟨by rw [hs.hnx] at *; exact (hs.rown _ List.mem_cons_self k ⟨a, h2, h3⟩).1, .inl ⟨0, .inl rfl, hfp k ⟨a, h2, h3⟩⟩⟩
   ·rintro o o' (rfl | rfl) (rfl | rfl) hne k hk hk'
    ·exact hne rfl
    ·rw [updM_ne _ _ (by decide), updM_self] at hk; exact hk
    ·rw [updM_ne _ _ (by decide), updM_self] at hk'; exact hk'
    ·exact hne rfl
   ·intro a u ha
    rcases hs.inew a u ha with h1 | h1 | h1
    ·exact .inl h1
    ·exact .inr (.inr h1)
    ·exact .inr (.inl ⟨0, .inl rfl, hfp _ h1⟩)
   ·rintro a u ha o (rfl | rfl) hk
    ·rw [updM_ne _ _ (by decide), updM_self] at hk; exact hk
    ·rw [updM_self] at hk
     obtain ⟨p2, b, h1, h2, h3⟩ := hk
     rw [updP_self] at h1
     obtain rfl := Option.some.inj h1
     exact hs.imX a u ha _ List.mem_cons_self ⟨b, h2, h3⟩
   ·match o with
    | 0 => rfl
    | 1 => rfl
    | o + 2 => rfl
   ·cases hav
    exact ⟨_, updP_self _ _ _, rfl⟩

/-- A map that is built and never turned. -/
def knD (x : AK) (g : Unit × Unit → Option Unit) : FragD := ⟨⟨[], []⟩, [⟨1, ⟨[(0, .w (.c (.kn x)))], []⟩, Unit, fun _ => (), fun _ => (((), ()), ()), fun _ => rfl⟩], g⟩
theorem kn_ok {P : Program} {f : FuncId} {k : IntKind} {l : List (Int × Nat)} (g : Unit × Unit → Option Unit)
  (hw : ∀ (I : Imm) (w : World), I.at_ w → Calls P f ([] : List Value).toArray w fun e' w' => ∃ v, e' = .returned v ∧ ∃ J a, v = .map (some a) ∧ Mp (Value.int k) fnV J a (l.map fun p => (p.1, some p.2)) ∧ Got w w' I J []) : FunOK P f (knD (.mp k l) g) := by
 intro x y q z hg ho I π w vs hlen hls hvs hm
 match vs, hls with
 | [], _ =>
  cases ho
  refine (hw I w hm.im).mono ?_
  rintro e' w' ⟨v, rfl, J, a, rfl, h1, h2⟩
  refine ⟨_, rfl, π, J, Pi.le_refl _, h2.le, hm.step (fun _ => False) (Pi.le_refl _) h2.le h2.evo.os h2.evo.tape h2.evo.output h2.evo.size (fun k hk _ => h2.evo.blk k hk (fun h => h)) (fun _ _ => rfl) (fun o _ h => hm.dom o h) (fun _ h => h.elim) (fun _ h => h.elim) (fun _ h => h.elim) (fun _ _ h => h.elim) h2.im (fun a u ha => (h2.inew a u ha).imp id .inr) (fun _ _ _ _ h => h.elim), fun av hav => ?_⟩
  cases hav
  exact ⟨a, rfl, h1⟩
end Go.Proofs.YtfecniimkgkmfaaGreat.AM
set_option linter.unusedVariables false
namespace Go.Proofs.YtfecniimkgkmfaaGreat
open Go Go.RowKit Go.Proofs.YtfecniimkgkmfaaGreat.RW Go.Proofs.YtfecniimkgkmfaaGreat.AM
namespace quorum_group_possible
noncomputable abbrev F : List (Nat × FragD) := []
theorem Fok : AllF Tryz.prog (F) := trivial
end quorum_group_possible
open quorum_group_possible in
noncomputable def quorum_group_possible (t0 : Int) : Option Bool :=
bif decide (t0 ≥ 1) then
some (decide (t0 ≤ 13))
else
some false
noncomputable def quorum_group_possible.d : FragD := ⟨⟨[(0, pi)], []⟩, [⟨1, ⟨[(0, pb)], []⟩, Bool, fun x => x.1.1, fun r => ((r, ()), ()), fun _ => rfl⟩], fun x => quorum_group_possible x.1.1⟩
open quorum_group_possible in
theorem quorum_group_possible.ok : FunOK Tryz.prog 61 (quorum_group_possible.d) := funR ⟨Tryz.prog, 9, F, [], [], []⟩ Tryz.f61 (by kernel_rfl) (by kernel_rfl) (by kernel_rfl) (Fok) trivial noL (by kernel_rfl) (fun x => by kernel_rfl)

namespace quorum_MaxFaulty
noncomputable abbrev F : List (Nat × FragD) := [(61, quorum_group_possible.d)]
theorem Fok : AllF Tryz.prog (F) := ⟨quorum_group_possible.ok, trivial⟩
end quorum_MaxFaulty
open quorum_MaxFaulty in
noncomputable def quorum_MaxFaulty (t0 : Int) : Option Int :=
(quorum_group_possible t0).bind fun z1 =>
bif !z1 then
some 0
else
some (W .i64 ((W .i64 (t0 - 1)).tdiv 3))
noncomputable def quorum_MaxFaulty.d : FragD := ⟨⟨[(0, pi)], []⟩, [⟨1, ⟨[(0, pi)], []⟩, Int, fun x => x.1.1, fun r => ((r, ()), ()), fun _ => rfl⟩], fun x => quorum_MaxFaulty x.1.1⟩
open quorum_MaxFaulty in
theorem quorum_MaxFaulty.ok : FunOK Tryz.prog 37 (quorum_MaxFaulty.d) := funR ⟨Tryz.prog, 9, F, [], [], []⟩ Tryz.f37 (by kernel_rfl) (by kernel_rfl) (by kernel_rfl) (Fok) trivial noL (by kernel_rfl) (fun x => by kernel_rfl)

namespace slices_Index_int_int
noncomputable abbrev K := cBody Tryz.f62
noncomputable abbrev F (n : Nat) : List (Nat × FragD) := []
theorem Fok (n : Nat) : AllF Tryz.prog (F n) := trivial
noncomputable def s0 (n : Nat) (t8 : Int) (t0 : List Int) (t1 : Int) (t7 : Int) : Option (Int ⊕ (Int ⊕ Unit)) :=
bif decide (t8 < t7) then
ck (inb t8 t0.length) <|
bif (t1 == (t0.getD t8.toNat 0)) then
some (.inr (.inl t8))
else
some (.inl (W .i64 (t8 + 1)))
else
some (.inr (.inr ()))
noncomputable def l0 (n : Nat) : Nat → Int → List Int → Int → Int → Option (Int ⊕ Unit)
| 0, _, _, _, _ => none
| k + 1, t8, t0, t1, t7 => (s0 n t8 t0 t1 t7).bind fun z => sm z (fun z => l0 n k z t0 t1 t7) some
noncomputable def L0 (n : Nat) : LoopD := ⟨[(8, pi)], [(0, ph (.row (.int .i64))), (1, pi), (7, pi)], [], Int, fun x => x.1.1, fun r => ((r, ()), ()), fun _ => rfl, ⟨1, ⟨[(4, pi)], []⟩, Int, fun x => x.1.1, fun r => ((r, ()), ()), fun _ => rfl⟩, [⟨2, ⟨[], []⟩, Unit, fun _ => (), fun _ => ((), ()), fun _ => rfl⟩], fun x => s0 n x.1.1 x.1.2.1 x.1.2.2.1 x.1.2.2.2.1, []⟩
theorem T0 (n : Nat) : FragOK Tryz.prog 19 (atN K 400 26) ((L0 n).loopD fun x => l0 n n x.1.1 x.1.2.1 x.1.2.2.1 x.1.2.2.2.1) := loopR (L0 n) 26 (by kernel_rfl) (by kernel_rfl) (fragK ⟨Tryz.prog, 19, F n, [], [], []⟩ (Fok n) trivial noL 52 (by kernel_rfl) (fun x => by kernel_rfl)) (fun k x => l0 n k x.1.1 x.1.2.1 x.1.2.2.1 x.1.2.2.2.1) (fun x => by kernel_rfl) (fun k x => by kernel_rfl) n
noncomputable abbrev r0 (n : Nat) : List (Nat × FragD) := (26, ((L0 n).loopD fun x => l0 n n x.1.1 x.1.2.1 x.1.2.2.1 x.1.2.2.2.1)) :: []
theorem R0 (n : Nat) : AllFr Tryz.prog 19 K (r0 n) := ⟨T0 n, trivial⟩
end slices_Index_int_int
open slices_Index_int_int in
noncomputable def slices_Index_int_int (n : Nat) (t0 : List Int) (t1 : Int) : Option Int :=
(l0 n n 0 t0 t1 (t0.length : Int)).bind fun z2 =>
sm z2 (fun z3 =>
some z3) fun z4 =>
some (-1)
noncomputable def slices_Index_int_int.d (n : Nat) : FragD := ⟨⟨[(0, ph (.row (.int .i64))), (1, pi)], []⟩, [⟨1, ⟨[(0, pi)], []⟩, Int, fun x => x.1.1, fun r => ((r, ()), ()), fun _ => rfl⟩], fun x => slices_Index_int_int n x.1.1 x.1.2.1⟩
open slices_Index_int_int in
theorem slices_Index_int_int.ok (n : Nat) : FunOK Tryz.prog 62 (slices_Index_int_int.d n) := funR ⟨Tryz.prog, 19, F n, (r0 n), [], []⟩ Tryz.f62 (by kernel_rfl) (by kernel_rfl) (by kernel_rfl) (Fok n) (R0 n) noL (by kernel_rfl) (fun x => by kernel_rfl)

namespace slices_Contains_int_int
noncomputable abbrev F (n : Nat) : List (Nat × FragD) := [(62, slices_Index_int_int.d n)]
theorem Fok (n : Nat) : AllF Tryz.prog (F n) := ⟨slices_Index_int_int.ok n, trivial⟩
end slices_Contains_int_int
open slices_Contains_int_int in
noncomputable def slices_Contains_int_int (n : Nat) (t0 : List Int) (t1 : Int) : Option Bool :=
(slices_Index_int_int n t0 t1).bind fun z1 =>
some (decide (z1 ≥ 0))
noncomputable def slices_Contains_int_int.d (n : Nat) : FragD := ⟨⟨[(0, ph (.row (.int .i64))), (1, pi)], []⟩, [⟨1, ⟨[(0, pb)], []⟩, Bool, fun x => x.1.1, fun r => ((r, ()), ()), fun _ => rfl⟩], fun x => slices_Contains_int_int n x.1.1 x.1.2.1⟩
open slices_Contains_int_int in
theorem slices_Contains_int_int.ok (n : Nat) : FunOK Tryz.prog 38 (slices_Contains_int_int.d n) := funR ⟨Tryz.prog, 9, F n, [], [], []⟩ Tryz.f38 (by kernel_rfl) (by kernel_rfl) (by kernel_rfl) (Fok n) trivial noL (by kernel_rfl) (fun x => by kernel_rfl)

namespace slices_Clone_int_intW
noncomputable def K : Code := cBody Tryz.f39
noncomputable def K8 : Code := cL (cR (cL (cR K)))
noncomputable def K12 : Code := cR (cR (cL (cR K)))
set_option maxRecDepth 100000 in
set_option maxHeartbeats 8000000 in
theorem walk (I0 : Imm) (a0 : List (TC.I (.int .i64))) (Ap0 : Option Addr) (cp0 : Nat) (w : World) (hI : I0.at_ w) (hlp0 : a0.length ≤ cp0) (hrp0 : Rd (TC.ty (.int .i64)) I0 Ap0 a0) (hz1 : a0.length * 8 ≤ 140737488355328) :
  Calls Tryz.prog 39 [.slice Ap0 a0.length cp0].toArray w fun e' w' => ∃ v, e' = .returned v ∧ ∃ A' c' cs, v = .slice A' a0.length c' ∧ Got w w' I0 I0 [orow 3 (TC.sz (.int .i64)) A' a0.length c' cs] ∧ Reps (TC.ty (.int .i64)) I0 a0 cs := by
 refine calls_body Tryz.func39 (by kernel_rfl) 8 (by kernel_rfl) (by kernel_rfl) ⟨w, fun _ => False, I0⟩ I0 [] [(0, .slice Ap0 a0.length cp0)] (by kernel_rfl) (Sat.start w _ I0 hI) ?_
 generalize w.heap.size = nx0
 show OK _ K _ _ _ _ _ _ _ _
 refine OK.sr ?_
 refine RL.st 1 [(0, .slice Ap0 a0.length cp0)] ?_
 refine OK.sq ?_
 refine OK.sr ?_
 refine RL.s 1 [(3, .slice Ap0 a0.length cp0), (0, .slice Ap0 a0.length cp0)] ?_
 rcases Ap0 with _ | ad_1
 ·have hn1 : a0 = [] := rd_isNone hrp0
  subst hn1
  refine RL.s 1 [(4, .bool true), (3, .slice none 0 cp0), (0, .slice none 0 cp0)] ?_
  refine RL.nil (by kernel_rfl) ?_
  refine QN.sub (K' := [(4, .bool true), (0, .slice none 0 cp0)]) (L' := []) (by kernel_rfl) .slnil (.refl _) ?_
  refine QN.then_ ?_
  refine OK.condT (.tmp 4) K8 K12 (by kernel_rfl) (by kernel_rfl) (by kernel_rfl) ?_
  refine OK.sr ?_
  refine RL.st 1 [(2, .slice none 0 0)] ?_
  refine OK.re ?_
  refine QN.thenR ?_
  refine QN.body rfl [] (RFacts.nil _ _ _) (.no) (.slice none 0 0) (by kernel_rfl) (by kernel_rfl) (by kernel_rfl) ?_ _ (.inr rfl)
  exact fun w' hs' => ⟨_, rfl, none, 0, [], rfl, gotNil1 (hs'.got [] (List.nil_sublist _)), rfl⟩
 ·refine RL.s 1 [(4, .bool false), (3, .slice (some ad_1) a0.length cp0), (0, .slice (some ad_1) a0.length cp0)] ?_
  refine RL.nil (by kernel_rfl) ?_
  refine QN.sub (K' := [(4, .bool false), (0, .slice (some ad_1) a0.length cp0)]) (L' := []) (by kernel_rfl) .slnil (.refl _) ?_
  refine QN.then_ ?_
  refine OK.condF (.tmp 4) K8 K12 (by kernel_rfl) (by kernel_rfl) (by kernel_rfl) ?_
  refine OK.skt ?_
  refine OK.sr ?_
  refine RL.sp 2 [(6, .slice (some ad_1) a0.length cp0), (5, .slice (some ⟨nx0, 0, none⟩) 0 0)] (nx0 + 1) [⟨nx0, [], 3⟩] ?_
  refine RL.toRow (b := ⟨nx0, [], 3⟩) 0 0 1 (by kernel_rfl) (by kernel_rfl) (by decide) ?_
  have hp1 : Reps (TC.ty (.int .i64)) I0 ([] : List (TC.I (.int .i64))) [] := rfl
  refine RL.norm (L' := []) (X' := [orow 3 1 (some ⟨nx0, 0, none⟩) (([] : List (TC.I (.int .i64))).length) 0 []]) rfl rfl (by kernel_rfl) (by kernel_rfl) ?_
  refine RL.appendR (T := 26) (e := 3) (S := (some ⟨nx0, 0, none⟩)) (S2 := (some ad_1)) 1 8 26 0 cp0 [] (TC.ty (.int .i64)) ([] : List (TC.I (.int .i64))) a0 0 (some 7) (by kernel_rfl) (by kernel_rfl) (by kernel_rfl) (by kernel_rfl) (by kernel_rfl) (by decide) (by kernel_rfl) hp1 hrp0 (by simpa using hz1) (by simp only [List.length_nil]; omega) (fun A1 c1 nx1 cs1 hp2 => ?_)
  refine RL.sub (K' := [(7, .slice A1 ((([] : List (TC.I (.int .i64))) ++ a0).length) c1), (6, .slice (some ad_1) a0.length cp0), (5, .slice (some ⟨nx0, 0, none⟩) 0 0)]) (L' := []) (X' := [orow 3 1 A1 ((([] : List (TC.I (.int .i64))) ++ a0).length) c1 cs1]) (by kernel_rfl) (.refl _) (.refl _) ?_
  refine RL.st 1 [(2, .slice A1 ((([] : List (TC.I (.int .i64))) ++ a0).length) c1)] ?_
  refine OK.re ?_
  refine QN.body rfl [] (RFacts.nil _ _ _) (.no) (.slice A1 ((([] : List (TC.I (.int .i64))) ++ a0).length) c1) (by kernel_rfl) (by kernel_rfl) (by kernel_rfl) ?_ _ (.inr rfl)
  exact fun w' hs' => ⟨_, rfl, A1, c1, cs1, rfl, hs'.got _ (.cons_cons _ .slnil), hp2⟩
end slices_Clone_int_intW
def slices_Clone_int_int (l : List Int) : Option (List Int) := cloneF 8 l
noncomputable abbrev slices_Clone_int_int.d : FragD := cloneD 3 (.int .i64) slices_Clone_int_int
theorem slices_Clone_int_int.ok : FunOK Tryz.prog 39 slices_Clone_int_int.d := clone_ok (c := (.int .i64)) slices_Clone_int_int (fun _ => rfl) slices_Clone_int_intW.walk

namespace replica_New
noncomputable abbrev F : List (Nat × FragD) := []
theorem Fok : AllF Tryz.prog (F) := trivial
end replica_New
open replica_New in
noncomputable def replica_New (t0 : Int) (t1 : Int) : Option S56 :=
some (t0, t1, 0, ([] : List S43), ([] : List S43), ([] : List S41))
noncomputable def replica_New.d : FragD := ⟨⟨[(0, pi), (1, pi)], []⟩, [⟨1, ⟨[(0, pst c56)], []⟩, S56, fun x => x.1.1, fun r => ((r, ()), ()), fun _ => rfl⟩], fun x => replica_New x.1.1 x.1.2.1⟩
open replica_New in
theorem replica_New.ok : FunOK Tryz.prog 40 (replica_New.d) := funR ⟨Tryz.prog, 8, F, [], [], []⟩ Tryz.f40 (by kernel_rfl) (by kernel_rfl) (by kernel_rfl) (Fok) trivial noL (by kernel_rfl) (fun x => by kernel_rfl)

namespace simnet_New
noncomputable abbrev K := cBody Tryz.f12
noncomputable abbrev F (n : Nat) : List (Nat × FragD) := [(37, quorum_MaxFaulty.d), (38, slices_Contains_int_int.d n), (39, slices_Clone_int_int.d), (40, replica_New.d)]
theorem Fok (n : Nat) : AllF Tryz.prog (F n) := ⟨quorum_MaxFaulty.ok, slices_Contains_int_int.ok n, slices_Clone_int_int.ok, replica_New.ok, trivial⟩
noncomputable def j0 (n : Nat) (t0 : Int) (t1 : List Int) (o0 : S31) : Option (Unit ⊕ (Int × S31)) :=
bif decide (t0 < 1) then
some (.inr (1, (([] : List S56), ([] : List S43), ([] : List Int), ([] : List Int))))
else
bif decide (t0 > 13) then
some (.inr (1, (([] : List S56), ([] : List S43), ([] : List Int), ([] : List Int))))
else
(quorum_MaxFaulty t0).bind fun z1 =>
bif (decide ((t1.length : Int) > z1)) then
some (.inr (1, (([] : List S56), ([] : List S43), ([] : List Int), ([] : List Int))))
else
some (.inl ())
noncomputable def D0 (n : Nat) : FragD := ⟨⟨[(0, pi), (1, ph (.row (.int .i64))), (4, pp 0)], [.stb 31 c31]⟩, [⟨0, ⟨[], [.same]⟩, Unit, fun _ => (), fun _ => ((), ((), ())), fun _ => rfl⟩, ⟨1, ⟨[(5, pi)], [.stb 31 c31]⟩, Int × S31, fun x => (x.1.1, x.2.1), fun r => ((r.1, ()), (r.2, ())), fun _ => rfl⟩], fun x => j0 n x.1.1 x.1.2.1 x.2.1⟩
theorem T0 (n : Nat) : FragOK Tryz.prog 64 (atN K 400 6) (D0 n) := fragR ⟨Tryz.prog, 64, F n, [], [], []⟩ (Fok n) trivial noL 6 (by kernel_rfl) (fun x => by kernel_rfl)
noncomputable abbrev r0 (n : Nat) : List (Nat × FragD) := (6, D0 n) :: []
theorem R0 (n : Nat) : AllFr Tryz.prog 64 K (r0 n) := ⟨T0 n, trivial⟩
noncomputable def s1 (n : Nat) (t26 : Int) (t0 : Int) (t1 : List Int) (t24 : List Int) (t25 : Int) (o0 : S31) : Option ((Int × S31) ⊕ ((Int × S31) ⊕ S31)) :=
bif decide (t26 < t25) then
ck (inb t26 t24.length) <|
bif (decide ((t24.getD t26.toNat 0) < 0)) then
some (.inr (.inl (1, (([] : List S56), ([] : List S43), ([] : List Int), ([] : List Int)))))
else
bif (decide ((t24.getD t26.toNat 0) ≥ t0)) then
some (.inr (.inl (1, (([] : List S56), ([] : List S43), ([] : List Int), ([] : List Int)))))
else
ck (inb t26 (t1.length + 1)) <|
(slices_Contains_int_int n (t1.take t26.toNat) (t24.getD t26.toNat 0)).bind fun z8 =>
bif z8 then
some (.inr (.inl (1, (([] : List S56), ([] : List S43), ([] : List Int), ([] : List Int)))))
else
some (.inl (W .i64 (t26 + 1), o0))
else
some (.inr (.inr o0))
noncomputable def l1 (n : Nat) : Nat → Int → Int → List Int → List Int → Int → S31 → Option ((Int × S31) ⊕ S31)
| 0, _, _, _, _, _, _ => none
| k + 1, t26, t0, t1, t24, t25, o0 => (s1 n t26 t0 t1 t24 t25 o0).bind fun z => sm z (fun z => l1 n k z.1 t0 t1 t24 t25 z.2) some
noncomputable def L1 (n : Nat) : LoopD := ⟨[(4, pp 0), (26, pi)], [(0, pi), (1, ph (.row (.int .i64))), (24, ph (.row (.int .i64))), (25, pi)], [.stb 31 c31], Int × S31, fun x => (x.1.2.1, x.2.1), fun r => (((), r.1, ()), (r.2, ())), fun _ => rfl, ⟨1, ⟨[(5, pi)], [.stb 31 c31]⟩, Int × S31, fun x => (x.1.1, x.2.1), fun r => ((r.1, ()), (r.2, ())), fun _ => rfl⟩, [⟨2, ⟨[], [.stb 31 c31]⟩, S31, fun x => x.2.1, fun r => ((), (r, ())), fun _ => rfl⟩], fun x => s1 n x.1.2.1 x.1.2.2.1 x.1.2.2.2.1 x.1.2.2.2.2.1 x.1.2.2.2.2.2.1 x.2.1, [0]⟩
theorem T1 (n : Nat) : FragOK Tryz.prog 64 (atN K 400 58) ((L1 n).loopD fun x => l1 n n x.1.2.1 x.1.2.2.1 x.1.2.2.2.1 x.1.2.2.2.2.1 x.1.2.2.2.2.2.1 x.2.1) := loopR (L1 n) 58 (by kernel_rfl) (by kernel_rfl) (fragK ⟨Tryz.prog, 64, F n, (r0 n), [], []⟩ (Fok n) (R0 n) noL 116 (by kernel_rfl) (fun x => by kernel_rfl)) (fun k x => l1 n k x.1.2.1 x.1.2.2.1 x.1.2.2.2.1 x.1.2.2.2.2.1 x.1.2.2.2.2.2.1 x.2.1) (fun x => by kernel_rfl) (fun k x => by kernel_rfl) n
noncomputable abbrev r1 (n : Nat) : List (Nat × FragD) := (58, ((L1 n).loopD fun x => l1 n n x.1.2.1 x.1.2.2.1 x.1.2.2.2.1 x.1.2.2.2.2.1 x.1.2.2.2.2.2.1 x.2.1)) :: (r0 n)
theorem R1 (n : Nat) : AllFr Tryz.prog 64 K (r1 n) := ⟨T1 n, R0 n⟩
noncomputable def s2 (n : Nat) (t51 : Int) (t0 : Int) (t50 : Int) (o0_0 : List S43) (o0_1 : List Int) (o1 : List S56) (o2 : List Int) : Option ((Int × List S43 × List Int × List S56 × List Int) ⊕ (List S43 × List Int × List Int × List S56)) :=
bif decide (t51 < t50) then
(replica_New t51 t0).bind fun z14 =>
ck (room (o1.length + 1) 96) <|
some (.inl (W .i64 (t51 + 1), o0_0, o0_1, o1 ++ [z14], o2))
else
some (.inr (o0_0, o0_1, o2, o1))
noncomputable def l2 (n : Nat) : Nat → Int → Int → Int → List S43 → List Int → List S56 → List Int → Option (List S43 × List Int × List Int × List S56)
| 0, _, _, _, _, _, _, _ => none
| k + 1, t51, t0, t50, o0_0, o0_1, o1, o2 => (s2 n t51 t0 t50 o0_0 o0_1 o1 o2).bind fun z => sm z (fun z => l2 n k z.1 t0 t50 z.2.1 z.2.2.1 z.2.2.2.1 z.2.2.2.2) some
noncomputable def L2 (n : Nat) : LoopD := ⟨[(8, pp 0), (51, pi)], [(0, pi), (50, pi)], [.blk 31 [.sl 1, .h (.row c43), .h (.row (.int .i64)), .sl 2], .row 56 c56, .row 3 (.int .i64)], Int × List S43 × List Int × List S56 × List Int, fun x => (x.1.2.1, x.2.1.2.1, x.2.1.2.2.1, x.2.2.1, x.2.2.2.1), fun r => (((), r.1, ()), (((), r.2.1, r.2.2.1, (), ()), r.2.2.2.1, r.2.2.2.2, ())), fun _ => rfl, ⟨4, ⟨[], [.blk 31 [.sl 3, .h (.row c43), .h (.row (.int .i64)), .sl 2], .gone, .row 3 (.int .i64), .row 56 c56]⟩, List S43 × List Int × List Int × List S56, fun x => (x.2.1.2.1, x.2.1.2.2.1, x.2.2.2.1, x.2.2.2.2.1), fun r => ((), (((), r.1, r.2.1, (), ()), (), r.2.2.1, r.2.2.2, ())), fun _ => rfl⟩, [], fun x => s2 n x.1.2.1 x.1.2.2.1 x.1.2.2.2.1 x.2.1.2.1 x.2.1.2.2.1 x.2.2.1 x.2.2.2.1, [0, 2]⟩
theorem T2 (n : Nat) : FragOKL n Tryz.prog 64 (atN K 400 500) ((L2 n).loopD fun x => l2 n n x.1.2.1 x.1.2.2.1 x.1.2.2.2.1 x.2.1.2.1 x.2.1.2.2.1 x.2.2.1 x.2.2.2.1) := loopL (L2 n) 250 (by kernel_rfl) (fragK ⟨Tryz.prog, 64, F n, (r1 n), [], []⟩ (Fok n) (R1 n) noL 500 (by kernel_rfl) (fun x => by kernel_rfl)) (fun k x => l2 n k x.1.2.1 x.1.2.2.1 x.1.2.2.2.1 x.2.1.2.1 x.2.1.2.2.1 x.2.2.1 x.2.2.2.1) (fun x => by kernel_rfl) (fun k x => by kernel_rfl) n
noncomputable abbrev q2 (n : Nat) : List (Nat × FragD) := (250, ((L2 n).loopD fun x => l2 n n x.1.2.1 x.1.2.2.1 x.1.2.2.2.1 x.2.1.2.1 x.2.1.2.2.1 x.2.2.1 x.2.2.2.1)) :: []
theorem Q2 (n : Nat) : AllL n Tryz.prog 64 K (q2 n) := ⟨T2 n, trivial⟩
end simnet_New
open simnet_New in
noncomputable def simnet_New (n : Nat) (t0 : Int) (t1 : List Int) : Option (List S56 × List S43 × List Int × List Int × Int) :=
(j0 n t0 t1 (([] : List S56), ([] : List S43), ([] : List Int), ([] : List Int))).bind fun z3 =>
sm z3 (fun z4 =>
(l1 n n 0 t0 t1 t1 (t1.length : Int) (([] : List S56), ([] : List S43), ([] : List Int), ([] : List Int))).bind fun z9 =>
sm z9 (fun z10 =>
some (z10.2.1, z10.2.2.1, z10.2.2.2.1, z10.2.2.2.2, z10.1)) fun z11 =>
(slices_Clone_int_int t1).bind fun z12 =>
bif decide (0 < t0) then
(replica_New 0 t0).bind fun z13 =>
ck (room 1 96) <|
(l2 n n 1 t0 t0 ([] : List S43) ([] : List Int) [z13] z12).bind fun z15 =>
some (z15.2.2.2, z15.1, z15.2.1, z15.2.2.1, 0)
else
some (([] : List S56), ([] : List S43), ([] : List Int), z12, 0)) fun z5 =>
some (z5.2.1, z5.2.2.1, z5.2.2.2.1, z5.2.2.2.2, z5.1)
noncomputable def simnet_New.d (n : Nat) : FragD := ⟨⟨[(0, pi), (1, ph (.row (.int .i64)))], []⟩, [⟨1, ⟨[(0, .tup [.agg [.h (.row c56), .h (.row c43), .h (.row (.int .i64)), .h (.row (.int .i64))], .c (.h (.int .i64))])], []⟩, List S56 × List S43 × List Int × List Int × Int, fun x => (x.1.1.1.1, x.1.1.1.2.1, x.1.1.1.2.2.1, x.1.1.1.2.2.2.1, x.1.1.2.1), fun r => ((((r.1, r.2.1, r.2.2.1, r.2.2.2.1, ()), r.2.2.2.2, ()), ()), ()), fun _ => rfl⟩], fun x => simnet_New n x.1.1 x.1.2.1⟩
open simnet_New in
theorem simnet_New.ok (n : Nat) : FunOK Tryz.prog 12 (simnet_New.d n) := funR ⟨Tryz.prog, 64, F n, (r1 n), (q2 n), []⟩ Tryz.f12 (by kernel_rfl) (by kernel_rfl) (by kernel_rfl) (Fok n) (R1 n) (Q2 n) (by kernel_rfl) (fun x => by kernel_rfl)

namespace armillaryref31_Entry
noncomputable abbrev F : List (Nat × FragD) := []
theorem Fok : AllF Tryz.prog (F) := trivial
end armillaryref31_Entry
open armillaryref31_Entry in
noncomputable def armillaryref31_Entry (t0 : Int) : Option S41 :=
let v1 := [(⟨#[97]⟩ : ByteArray), (⟨#[98]⟩ : ByteArray), (⟨#[99]⟩ : ByteArray)];
ck (inb (t0.tmod 3) v1.length) <|
some (1, (v1.getD (t0.tmod 3).toNat (⟨#[]⟩ : ByteArray)), ([] : List Int))
noncomputable def armillaryref31_Entry.d : FragD := ⟨⟨[(0, ph (.int .u8))], []⟩, [⟨1, ⟨[(0, pst c41)], []⟩, S41, fun x => x.1.1, fun r => ((r, ()), ()), fun _ => rfl⟩], fun x => armillaryref31_Entry x.1.1⟩
open armillaryref31_Entry in
theorem armillaryref31_Entry.ok : FunOK Tryz.prog 30 (armillaryref31_Entry.d) := funR ⟨Tryz.prog, 9, F, [], [], []⟩ Tryz.f30 (by kernel_rfl) (by kernel_rfl) (by kernel_rfl) (Fok) trivial noL (by kernel_rfl) (fun x => by kernel_rfl)

namespace armillarylaw31_ask
noncomputable abbrev F : List (Nat × FragD) := []
theorem Fok : AllF Tryz.prog (F) := trivial
end armillarylaw31_ask
open armillarylaw31_ask in
noncomputable def armillarylaw31_ask (t0 : Int) (t1 : S41) : Option S45 :=
some (6, 0, t0, 0, 0, 0, 0, 0, t1)
noncomputable def armillarylaw31_ask.d : FragD := ⟨⟨[(0, pi), (1, pst c41)], []⟩, [⟨1, ⟨[(0, pst c45)], []⟩, S45, fun x => x.1.1, fun r => ((r, ()), ()), fun _ => rfl⟩], fun x => armillarylaw31_ask x.1.1 x.1.2.1⟩
open armillarylaw31_ask in
theorem armillarylaw31_ask.ok : FunOK Tryz.prog 31 (armillarylaw31_ask.d) := funR ⟨Tryz.prog, 9, F, [], [], []⟩ Tryz.f31 (by kernel_rfl) (by kernel_rfl) (by kernel_rfl) (Fok) trivial noL (by kernel_rfl) (fun x => by kernel_rfl)

namespace api_ReplicaW
noncomputable def K : Code := cBody Tryz.f71
noncomputable def K8 : Code := cL (cR (cL (cR K)))
noncomputable def K12 : Code := cR (cR (cL (cR K)))
set_option maxRecDepth 100000 in
set_option maxHeartbeats 8000000 in
theorem walk (I0 : Imm) (a0 : List (TC.I c56)) (Ap0 : Option Addr) (cp0 : Nat) (w : World) (hI : I0.at_ w) (hlp0 : a0.length ≤ cp0) (hrp0 : Rd (TC.ty c56) I0 Ap0 a0) (hz1 : a0.length * 96 ≤ 140737488355328) :
  Calls Tryz.prog 71 [.slice Ap0 a0.length cp0].toArray w fun e' w' => ∃ v, e' = .returned v ∧ ∃ A' c' cs, v = .slice A' a0.length c' ∧ Got w w' I0 I0 [orow 56 (TC.sz c56) A' a0.length c' cs] ∧ Reps (TC.ty c56) I0 a0 cs := by
 refine calls_body Tryz.func71 (by kernel_rfl) 8 (by kernel_rfl) (by kernel_rfl) ⟨w, fun _ => False, I0⟩ I0 [] [(0, .slice Ap0 a0.length cp0)] (by kernel_rfl) (Sat.start w _ I0 hI) ?_
 generalize w.heap.size = nx0
 show OK _ K _ _ _ _ _ _ _ _
 refine OK.sr ?_
 refine RL.st 1 [(0, .slice Ap0 a0.length cp0)] ?_
 refine OK.sq ?_
 refine OK.sr ?_
 refine RL.s 1 [(3, .slice Ap0 a0.length cp0), (0, .slice Ap0 a0.length cp0)] ?_
 rcases Ap0 with _ | ad_1
 ·have hn1 : a0 = [] := rd_isNone hrp0
  subst hn1
  refine RL.s 1 [(4, .bool true), (3, .slice none 0 cp0), (0, .slice none 0 cp0)] ?_
  refine RL.nil (by kernel_rfl) ?_
  refine QN.sub (K' := [(4, .bool true), (0, .slice none 0 cp0)]) (L' := []) (by kernel_rfl) .slnil (.refl _) ?_
  refine QN.then_ ?_
  refine OK.condT (.tmp 4) K8 K12 (by kernel_rfl) (by kernel_rfl) (by kernel_rfl) ?_
  refine OK.sr ?_
  refine RL.st 1 [(2, .slice none 0 0)] ?_
  refine OK.re ?_
  refine QN.thenR ?_
  refine QN.body rfl [] (RFacts.nil _ _ _) (.no) (.slice none 0 0) (by kernel_rfl) (by kernel_rfl) (by kernel_rfl) ?_ _ (.inr rfl)
  exact fun w' hs' => ⟨_, rfl, none, 0, [], rfl, gotNil1 (hs'.got [] (List.nil_sublist _)), rfl⟩
 ·refine RL.s 1 [(4, .bool false), (3, .slice (some ad_1) a0.length cp0), (0, .slice (some ad_1) a0.length cp0)] ?_
  refine RL.nil (by kernel_rfl) ?_
  refine QN.sub (K' := [(4, .bool false), (0, .slice (some ad_1) a0.length cp0)]) (L' := []) (by kernel_rfl) .slnil (.refl _) ?_
  refine QN.then_ ?_
  refine OK.condF (.tmp 4) K8 K12 (by kernel_rfl) (by kernel_rfl) (by kernel_rfl) ?_
  refine OK.skt ?_
  refine OK.sr ?_
  refine RL.sp 2 [(6, .slice (some ad_1) a0.length cp0), (5, .slice (some ⟨nx0, 0, none⟩) 0 0)] (nx0 + 1) [⟨nx0, [], 56⟩] ?_
  refine RL.toRow (b := ⟨nx0, [], 56⟩) 0 0 6 (by kernel_rfl) (by kernel_rfl) (by decide) ?_
  have hp1 : Reps (TC.ty c56) I0 ([] : List (TC.I c56)) [] := rfl
  refine RL.norm (L' := []) (X' := [orow 56 6 (some ⟨nx0, 0, none⟩) (([] : List (TC.I c56)).length) 0 []]) rfl rfl (by kernel_rfl) (by kernel_rfl) ?_
  refine RL.appendR (T := 28) (e := 56) (S := (some ⟨nx0, 0, none⟩)) (S2 := (some ad_1)) 6 96 28 0 cp0 [] (TC.ty c56) ([] : List (TC.I c56)) a0 0 (some 7) (by kernel_rfl) (by kernel_rfl) (by kernel_rfl) (by kernel_rfl) (by kernel_rfl) (by decide) (by kernel_rfl) hp1 hrp0 (by simpa using hz1) (by simp only [List.length_nil]; omega) (fun A1 c1 nx1 cs1 hp2 => ?_)
  refine RL.sub (K' := [(7, .slice A1 ((([] : List (TC.I c56)) ++ a0).length) c1), (6, .slice (some ad_1) a0.length cp0), (5, .slice (some ⟨nx0, 0, none⟩) 0 0)]) (L' := []) (X' := [orow 56 6 A1 ((([] : List (TC.I c56)) ++ a0).length) c1 cs1]) (by kernel_rfl) (.refl _) (.refl _) ?_
  refine RL.st 1 [(2, .slice A1 ((([] : List (TC.I c56)) ++ a0).length) c1)] ?_
  refine OK.re ?_
  refine QN.body rfl [] (RFacts.nil _ _ _) (.no) (.slice A1 ((([] : List (TC.I c56)) ++ a0).length) c1) (by kernel_rfl) (by kernel_rfl) (by kernel_rfl) ?_ _ (.inr rfl)
  exact fun w' hs' => ⟨_, rfl, A1, c1, cs1, rfl, hs'.got _ (.cons_cons _ .slnil), hp2⟩
end api_ReplicaW
def api_Replica (l : List S56) : Option (List S56) := cloneF 96 l
noncomputable abbrev api_Replica.d : FragD := cloneD 56 c56 api_Replica
theorem api_Replica.ok : FunOK Tryz.prog 71 api_Replica.d := clone_ok (c := c56) api_Replica (fun _ => rfl) api_ReplicaW.walk

namespace api_Message_72W
noncomputable def K : Code := cBody Tryz.f72
noncomputable def K8 : Code := cL (cR (cL (cR K)))
noncomputable def K12 : Code := cR (cR (cL (cR K)))
set_option maxRecDepth 100000 in
set_option maxHeartbeats 8000000 in
theorem walk (I0 : Imm) (a0 : List (TC.I c43)) (Ap0 : Option Addr) (cp0 : Nat) (w : World) (hI : I0.at_ w) (hlp0 : a0.length ≤ cp0) (hrp0 : Rd (TC.ty c43) I0 Ap0 a0) (hz1 : a0.length * 88 ≤ 140737488355328) :
  Calls Tryz.prog 72 [.slice Ap0 a0.length cp0].toArray w fun e' w' => ∃ v, e' = .returned v ∧ ∃ A' c' cs, v = .slice A' a0.length c' ∧ Got w w' I0 I0 [orow 43 (TC.sz c43) A' a0.length c' cs] ∧ Reps (TC.ty c43) I0 a0 cs := by
 refine calls_body Tryz.func72 (by kernel_rfl) 8 (by kernel_rfl) (by kernel_rfl) ⟨w, fun _ => False, I0⟩ I0 [] [(0, .slice Ap0 a0.length cp0)] (by kernel_rfl) (Sat.start w _ I0 hI) ?_
 generalize w.heap.size = nx0
 show OK _ K _ _ _ _ _ _ _ _
 refine OK.sr ?_
 refine RL.st 1 [(0, .slice Ap0 a0.length cp0)] ?_
 refine OK.sq ?_
 refine OK.sr ?_
 refine RL.s 1 [(3, .slice Ap0 a0.length cp0), (0, .slice Ap0 a0.length cp0)] ?_
 rcases Ap0 with _ | ad_1
 ·have hn1 : a0 = [] := rd_isNone hrp0
  subst hn1
  refine RL.s 1 [(4, .bool true), (3, .slice none 0 cp0), (0, .slice none 0 cp0)] ?_
  refine RL.nil (by kernel_rfl) ?_
  refine QN.sub (K' := [(4, .bool true), (0, .slice none 0 cp0)]) (L' := []) (by kernel_rfl) .slnil (.refl _) ?_
  refine QN.then_ ?_
  refine OK.condT (.tmp 4) K8 K12 (by kernel_rfl) (by kernel_rfl) (by kernel_rfl) ?_
  refine OK.sr ?_
  refine RL.st 1 [(2, .slice none 0 0)] ?_
  refine OK.re ?_
  refine QN.thenR ?_
  refine QN.body rfl [] (RFacts.nil _ _ _) (.no) (.slice none 0 0) (by kernel_rfl) (by kernel_rfl) (by kernel_rfl) ?_ _ (.inr rfl)
  exact fun w' hs' => ⟨_, rfl, none, 0, [], rfl, gotNil1 (hs'.got [] (List.nil_sublist _)), rfl⟩
 ·refine RL.s 1 [(4, .bool false), (3, .slice (some ad_1) a0.length cp0), (0, .slice (some ad_1) a0.length cp0)] ?_
  refine RL.nil (by kernel_rfl) ?_
  refine QN.sub (K' := [(4, .bool false), (0, .slice (some ad_1) a0.length cp0)]) (L' := []) (by kernel_rfl) .slnil (.refl _) ?_
  refine QN.then_ ?_
  refine OK.condF (.tmp 4) K8 K12 (by kernel_rfl) (by kernel_rfl) (by kernel_rfl) ?_
  refine OK.skt ?_
  refine OK.sr ?_
  refine RL.sp 2 [(6, .slice (some ad_1) a0.length cp0), (5, .slice (some ⟨nx0, 0, none⟩) 0 0)] (nx0 + 1) [⟨nx0, [], 43⟩] ?_
  refine RL.toRow (b := ⟨nx0, [], 43⟩) 0 0 8 (by kernel_rfl) (by kernel_rfl) (by decide) ?_
  have hp1 : Reps (TC.ty c43) I0 ([] : List (TC.I c43)) [] := rfl
  refine RL.norm (L' := []) (X' := [orow 43 8 (some ⟨nx0, 0, none⟩) (([] : List (TC.I c43)).length) 0 []]) rfl rfl (by kernel_rfl) (by kernel_rfl) ?_
  refine RL.appendR (T := 29) (e := 43) (S := (some ⟨nx0, 0, none⟩)) (S2 := (some ad_1)) 8 88 29 0 cp0 [] (TC.ty c43) ([] : List (TC.I c43)) a0 0 (some 7) (by kernel_rfl) (by kernel_rfl) (by kernel_rfl) (by kernel_rfl) (by kernel_rfl) (by decide) (by kernel_rfl) hp1 hrp0 (by simpa using hz1) (by simp only [List.length_nil]; omega) (fun A1 c1 nx1 cs1 hp2 => ?_)
  refine RL.sub (K' := [(7, .slice A1 ((([] : List (TC.I c43)) ++ a0).length) c1), (6, .slice (some ad_1) a0.length cp0), (5, .slice (some ⟨nx0, 0, none⟩) 0 0)]) (L' := []) (X' := [orow 43 8 A1 ((([] : List (TC.I c43)) ++ a0).length) c1 cs1]) (by kernel_rfl) (.refl _) (.refl _) ?_
  refine RL.st 1 [(2, .slice A1 ((([] : List (TC.I c43)) ++ a0).length) c1)] ?_
  refine OK.re ?_
  refine QN.body rfl [] (RFacts.nil _ _ _) (.no) (.slice A1 ((([] : List (TC.I c43)) ++ a0).length) c1) (by kernel_rfl) (by kernel_rfl) (by kernel_rfl) ?_ _ (.inr rfl)
  exact fun w' hs' => ⟨_, rfl, A1, c1, cs1, rfl, hs'.got _ (.cons_cons _ .slnil), hp2⟩
end api_Message_72W
def api_Message_72 (l : List S43) : Option (List S43) := cloneF 88 l
noncomputable abbrev api_Message_72.d : FragD := cloneD 43 c43 api_Message_72
theorem api_Message_72.ok : FunOK Tryz.prog 72 api_Message_72.d := clone_ok (c := c43) api_Message_72 (fun _ => rfl) api_Message_72W.walk

namespace simnet_open
noncomputable abbrev F : List (Nat × FragD) := [(71, api_Replica.d), (72, api_Message_72.d), (39, slices_Clone_int_int.d)]
theorem Fok : AllF Tryz.prog (F) := ⟨api_Replica.ok, api_Message_72.ok, slices_Clone_int_int.ok, trivial⟩
end simnet_open
open simnet_open in
noncomputable def simnet_open (t0 : S31) : Option (List Int × List S56 × List S43 × List Int) :=
(api_Replica t0.1).bind fun z1 =>
(api_Message_72 t0.2.1).bind fun z2 =>
(slices_Clone_int_int t0.2.2.1).bind fun z3 =>
some (t0.2.2.2, z1, z2, z3)
noncomputable def simnet_open.d : FragD := ⟨⟨[(0, pst c31)], []⟩, [⟨1, ⟨[(0, pp 0)], [.blk 92 [.sl 1, .sl 2, .sl 3, .h (.row (.int .i64))], .row 56 c56, .row 43 c43, .row 3 (.int .i64)]⟩, List Int × List S56 × List S43 × List Int, fun x => (x.2.1.2.2.2.1, x.2.2.1, x.2.2.2.1, x.2.2.2.2.1), fun r => (((), ()), (((), (), (), r.1, ()), r.2.1, r.2.2.1, r.2.2.2, ())), fun _ => rfl⟩], fun x => simnet_open x.1.1⟩
open simnet_open in
theorem simnet_open.ok : FunOK Tryz.prog 50 (simnet_open.d) := funR ⟨Tryz.prog, 17, F, [], [], []⟩ Tryz.f50 (by kernel_rfl) (by kernel_rfl) (by kernel_rfl) (Fok) trivial noL (by kernel_rfl) (fun x => by kernel_rfl)

namespace simnet_handlersW
noncomputable def K : Code := cBody Tryz.f55
theorem hM : MT Tryz.prog 87 3 89 (Value.int .i64) fnV none := MT.ofInt (by kernel_rfl) (by kernel_rfl) (fun w => nilFn_run (by kernel_rfl) w)
set_option maxRecDepth 100000 in
set_option maxHeartbeats 8000000 in
theorem walk (I0 : Imm) (w : World) (hI : I0.at_ w) : Calls Tryz.prog 55 ([] : List Value).toArray w fun e' w' => ∃ v, e' = .returned v ∧ ∃ J a, v = .map (some a) ∧ Mp (Value.int .i64) fnV J a ((([(1, 56), (2, 73), (3, 74), (4, 75), (5, 76), (6, 77), (7, 78)] : List (Int × Nat))).map fun p => (p.1, some p.2)) ∧ Got w w' I0 J [] := by
 refine calls_body Tryz.func55 (by kernel_rfl) 3 (by kernel_rfl) (by kernel_rfl) ⟨w, fun _ => False, I0⟩ I0 [] [] (by kernel_rfl) (Sat.start w _ I0 hI) ?_
 generalize w.heap.size = nx0
 show OK _ K _ _ _ _ _ _ _ _
 refine OK.sr ?_
 refine RL.st 1 [] ?_
 refine OK.sr ?_
 refine RL.makeMap (T := 87) (Value.int .i64) fnV (some 1) (by kernel_rfl) (by kernel_rfl) ?_
 refine RL.putM hM (1 : Int) (some 56) 0 (by kernel_rfl) rfl (by kernel_rfl) ?_
 refine RL.putM hM (2 : Int) (some 73) 0 (by kernel_rfl) rfl (by kernel_rfl) ?_
 refine RL.putM hM (3 : Int) (some 74) 0 (by kernel_rfl) rfl (by kernel_rfl) ?_
 refine RL.putM hM (4 : Int) (some 75) 0 (by kernel_rfl) rfl (by kernel_rfl) ?_
 refine RL.putM hM (5 : Int) (some 76) 0 (by kernel_rfl) rfl (by kernel_rfl) ?_
 refine RL.putM hM (6 : Int) (some 77) 0 (by kernel_rfl) rfl (by kernel_rfl) ?_
 refine RL.putM hM (7 : Int) (some 78) 0 (by kernel_rfl) rfl (by kernel_rfl) ?_
 refine RL.norm (K' := [(1, .map (some nx0))]) (L' := []) (X' := [mres (Value.int .i64) fnV nx0 ([(1, some 56), (2, some 73), (3, some 74), (4, some 75), (5, some 76), (6, some 77), (7, some 78)] : List (Int × Option Nat))]) (by kernel_rfl) rfl rfl (by kernel_rfl) ?_
 refine RL.freezeM (m := 0) rfl (fun J hle hmp => ?_)
 refine RL.st 2 [(0, .map (some nx0))] ?_
 refine OK.re ?_
 refine QN.body rfl [] (RFacts.nil _ _ _) (.no) (.map (some nx0)) (by kernel_rfl) (by kernel_rfl) (by kernel_rfl) ?_ _ (.inr rfl)
 exact fun w' hs' => ⟨_, rfl, J, nx0, rfl, hmp, hs'.got [] (List.nil_sublist _)⟩
end simnet_handlersW
def simnet_handlers : Option Unit := some ()
noncomputable abbrev simnet_handlers.d : FragD := knD (.mp .i64 [(1, 56), (2, 73), (3, 74), (4, 75), (5, 76), (6, 77), (7, 78)]) fun _ => simnet_handlers
theorem simnet_handlers.ok : FunOK Tryz.prog 55 simnet_handlers.d := kn_ok _ simnet_handlersW.walk

namespace simnet_network_post
noncomputable abbrev F : List (Nat × FragD) := []
theorem Fok : AllF Tryz.prog (F) := trivial
end simnet_network_post
open simnet_network_post in
noncomputable def simnet_network_post (t1 : S43) (t2 : Int) (o0 : List Int) (o1 : List S56) (o2 : List S43) (o3 : List Int) : Option (List Int × List S43 × List Int) :=
bif (decide ((o2.length : Int) < 4096)) then
ck (room (o2.length + 1) 88) <|
ck (room (o3.length + 1) 8) <|
some (o0, o2 ++ [t1], o3 ++ [t2])
else
some (o0, o2, o3)
noncomputable def simnet_network_post.d : FragD := ⟨⟨[(0, pp 0), (1, pst c43), (2, pi)], [.blk 92 [.sl 1, .sl 2, .sl 3, .h (.row (.int .i64))], .row 56 c56, .row 43 c43, .row 3 (.int .i64)]⟩, [⟨1, ⟨[(0, .tup [])], [.blk 92 [.sl 1, .sl 4, .sl 5, .h (.row (.int .i64))], .same, .gone, .gone, .row 43 c43, .row 3 (.int .i64)]⟩, List Int × List S43 × List Int, fun x => (x.2.1.2.2.2.1, x.2.2.2.2.2.1, x.2.2.2.2.2.2.1), fun r => (((), ()), (((), (), (), r.1, ()), (), (), (), r.2.1, r.2.2, ())), fun _ => rfl⟩], fun x => simnet_network_post x.1.2.1 x.1.2.2.1 x.2.1.2.2.2.1 x.2.2.1 x.2.2.2.1 x.2.2.2.2.1⟩
open simnet_network_post in
set_option maxRecDepth 1000000 in
theorem simnet_network_post.ok : FunOK Tryz.prog 91 (simnet_network_post.d) := funR ⟨Tryz.prog, 37, F, [], [], []⟩ Tryz.f91 (by kernel_rfl) (by kernel_rfl) (by kernel_rfl) (Fok) trivial noL (by kernel_rfl) (fun x => by kernel_rfl)

namespace simnet_network_forge
noncomputable abbrev K := cBody Tryz.f78
noncomputable abbrev F (n : Nat) : List (Nat × FragD) := [(38, slices_Contains_int_int.d n), (91, simnet_network_post.d)]
theorem Fok (n : Nat) : AllF Tryz.prog (F n) := ⟨slices_Contains_int_int.ok n, simnet_network_post.ok, trivial⟩
noncomputable def j0 (n : Nat) (o0 : List Int) (o1 : S45) (o2 : List S56) (o3 : List S43) (o4 : List Int) : Option Bool :=
(slices_Contains_int_int n o0 o1.2.2.2.2.1).bind fun z1 =>
bif z1 then
bif decide (o1.2.2.1 ≥ 0) then
some (decide (o1.2.2.1 < (o2.length : Int)))
else
some false
else
some false
noncomputable def D0 (n : Nat) : FragD := ⟨⟨[(0, pp 0), (3, pp 1)], [.blk 92 [.sl 2, .sl 3, .sl 4, .h (.row (.int .i64))], .stb 45 c45, .row 56 c56, .row 43 c43, .row 3 (.int .i64)]⟩, [⟨0, ⟨[(28, pb)], [.same, .same, .same, .same, .same]⟩, Bool, fun x => x.1.1, fun r => ((r, ()), ((), (), (), (), (), ())), fun _ => rfl⟩], fun x => j0 n x.2.1.2.2.2.1 x.2.2.1 x.2.2.2.1 x.2.2.2.2.1 x.2.2.2.2.2.1⟩
set_option maxRecDepth 1000000 in
theorem T0 (n : Nat) : FragOK Tryz.prog 35 (atN K 400 6) (D0 n) := fragR ⟨Tryz.prog, 35, F n, [], [], []⟩ (Fok n) trivial noL 6 (by kernel_rfl) (fun x => by kernel_rfl)
noncomputable abbrev r0 (n : Nat) : List (Nat × FragD) := (6, D0 n) :: []
theorem R0 (n : Nat) : AllFr Tryz.prog 35 K (r0 n) := ⟨T0 n, trivial⟩
end simnet_network_forge
open simnet_network_forge in
noncomputable def simnet_network_forge (n : Nat) (t1 : S45) (o0 : List Int) (o1 : List S56) (o2 : List S43) (o3 : List Int) : Option (List Int × List S43 × List Int) :=
(j0 n o0 t1 o1 o2 o3).bind fun z3 =>
bif z3 then
(simnet_network_post t1.2.2.2 t1.2.2.1 o0 o1 o2 o3).bind fun z4 =>
some (z4.1, z4.2.1, z4.2.2)
else
some (o0, o2, o3)
noncomputable def simnet_network_forge.d (n : Nat) : FragD := ⟨⟨[(0, pp 0), (1, pst c45)], [.blk 92 [.sl 1, .sl 2, .sl 3, .h (.row (.int .i64))], .row 56 c56, .row 43 c43, .row 3 (.int .i64)]⟩, [⟨1, ⟨[(0, .tup [])], [.blk 92 [.sl 1, .sl 4, .sl 5, .h (.row (.int .i64))], .same, .gone, .gone, .row 43 c43, .row 3 (.int .i64)]⟩, List Int × List S43 × List Int, fun x => (x.2.1.2.2.2.1, x.2.2.2.2.2.1, x.2.2.2.2.2.2.1), fun r => (((), ()), (((), (), (), r.1, ()), (), (), (), r.2.1, r.2.2, ())), fun _ => rfl⟩], fun x => simnet_network_forge n x.1.2.1 x.2.1.2.2.2.1 x.2.2.1 x.2.2.2.1 x.2.2.2.2.1⟩
open simnet_network_forge in
set_option maxRecDepth 1000000 in
theorem simnet_network_forge.ok (n : Nat) : FunOK Tryz.prog 78 (simnet_network_forge.d n) := funR ⟨Tryz.prog, 35, F n, (r0 n), [], []⟩ Tryz.f78 (by kernel_rfl) (by kernel_rfl) (by kernel_rfl) (Fok n) (R0 n) noL (by kernel_rfl) (fun x => by kernel_rfl)

namespace simnet_network_honest
noncomputable abbrev F (n : Nat) : List (Nat × FragD) := [(38, slices_Contains_int_int.d n)]
theorem Fok (n : Nat) : AllF Tryz.prog (F n) := ⟨slices_Contains_int_int.ok n, trivial⟩
end simnet_network_honest
open simnet_network_honest in
noncomputable def simnet_network_honest (n : Nat) (t1 : Int) (o0 : List Int) (o1 : List S56) (o2 : List S43) (o3 : List Int) : Option Bool :=
bif decide (t1 ≥ 0) then
bif (decide (t1 < (o1.length : Int))) then
(slices_Contains_int_int n o0 t1).bind fun z2 =>
some (!z2)
else
some false
else
some false
noncomputable def simnet_network_honest.d (n : Nat) : FragD := ⟨⟨[(0, pp 0), (1, pi)], [.blk 92 [.sl 1, .sl 2, .sl 3, .h (.row (.int .i64))], .row 56 c56, .row 43 c43, .row 3 (.int .i64)]⟩, [⟨1, ⟨[(0, pb)], [.same, .same, .same, .same]⟩, Bool, fun x => x.1.1, fun r => ((r, ()), ((), (), (), (), ())), fun _ => rfl⟩], fun x => simnet_network_honest n x.1.2.1 x.2.1.2.2.2.1 x.2.2.1 x.2.2.2.1 x.2.2.2.2.1⟩
open simnet_network_honest in
theorem simnet_network_honest.ok (n : Nat) : FunOK Tryz.prog 51 (simnet_network_honest.d n) := funR ⟨Tryz.prog, 27, F n, [], [], []⟩ Tryz.f51 (by kernel_rfl) (by kernel_rfl) (by kernel_rfl) (Fok n) trivial noL (by kernel_rfl) (fun x => by kernel_rfl)

namespace codec_validEntry
noncomputable abbrev F : List (Nat × FragD) := []
theorem Fok : AllF Tryz.prog (F) := trivial
end codec_validEntry
open codec_validEntry in
noncomputable def codec_validEntry (t0 : S41) : Option Bool :=
bif decide (t0.1 ≥ 1) then
bif decide (t0.1 ≤ 4) then
bif (decide ((t0.2.1.size : Int) ≥ 1)) then
bif (decide ((t0.2.1.size : Int) ≤ 40)) then
some (decide ((t0.2.2.length : Int) ≤ 20000))
else
some false
else
some false
else
some false
else
some false
noncomputable def codec_validEntry.d : FragD := ⟨⟨[(0, pst c41)], []⟩, [⟨1, ⟨[(0, pb)], []⟩, Bool, fun x => x.1.1, fun r => ((r, ()), ()), fun _ => rfl⟩], fun x => codec_validEntry x.1.1⟩
open codec_validEntry in
set_option maxRecDepth 1000000 in
theorem codec_validEntry.ok : FunOK Tryz.prog 123 (codec_validEntry.d) := funR ⟨Tryz.prog, 29, F, [], [], []⟩ Tryz.f123 (by kernel_rfl) (by kernel_rfl) (by kernel_rfl) (Fok) trivial noL (by kernel_rfl) (fun x => by kernel_rfl)

namespace slices_Clip_byte_byte
noncomputable abbrev F : List (Nat × FragD) := []
theorem Fok : AllF Tryz.prog (F) := trivial
end slices_Clip_byte_byte
open slices_Clip_byte_byte in
noncomputable def slices_Clip_byte_byte (t0 : List Int) : Option (List Int) :=
ck (decide ((t0.length : Int) = (t0.length : Int))) <|
ck (inb (t0.length : Int) (t0.length + 1)) <|
some (t0.take (t0.length : Int).toNat)
noncomputable def slices_Clip_byte_byte.d : FragD := ⟨⟨[(0, ph (.row (.int .u8)))], []⟩, [⟨1, ⟨[(0, .w (.c (.full (.int .u8))))], []⟩, List Int, fun x => x.1.1, fun r => ((r, ()), ()), fun _ => rfl⟩], fun x => slices_Clip_byte_byte x.1.1⟩
open slices_Clip_byte_byte in
theorem slices_Clip_byte_byte.ok : FunOK Tryz.prog 135 (slices_Clip_byte_byte.d) := funR ⟨Tryz.prog, 9, F, [], [], []⟩ Tryz.f135 (by kernel_rfl) (by kernel_rfl) (by kernel_rfl) (Fok) trivial noL (by kernel_rfl) (fun x => by kernel_rfl)

namespace codec_AppendVarint
noncomputable abbrev K := cBody Tryz.f125
noncomputable abbrev F (n : Nat) : List (Nat × FragD) := [(135, slices_Clip_byte_byte.d)]
theorem Fok (n : Nat) : AllF Tryz.prog (F n) := ⟨slices_Clip_byte_byte.ok, trivial⟩
noncomputable def s0 (n : Nat) (t5 : Int) (o0 : List Int) : Option ((Int × List Int) ⊕ (Int × List Int)) :=
bif decide (t5 ≥ 128) then
ck (room (o0.length + 1) 1) <|
some (.inl (Int.fdiv t5 128, (o0 ++ [bOr .u8 (W .u8 t5) 128])))
else
some (.inr (t5, o0))
noncomputable def l0 (n : Nat) : Nat → Int → List Int → Option (Int × List Int)
| 0, _, _ => none
| k + 1, t5, o0 => (s0 n t5 o0).bind fun z => sm z (fun z => l0 n k z.1 z.2) some
noncomputable def L0 (n : Nat) : LoopD := ⟨[(0, po 0), (5, ph (.int .u64))], [], [.row 5 (.int .u8)], Int × List Int, fun x => (x.1.2.1, x.2.1), fun r => (((), r.1, ()), (r.2, ())), fun _ => rfl, ⟨2, ⟨[(0, po 1), (5, ph (.int .u64))], [.gone, .row 5 (.int .u8)]⟩, Int × List Int, fun x => (x.1.2.1, x.2.2.1), fun r => (((), r.1, ()), ((), r.2, ())), fun _ => rfl⟩, [], fun x => s0 n x.1.2.1 x.2.1, []⟩
set_option maxRecDepth 1000000 in
theorem T0 (n : Nat) : FragOKL n Tryz.prog 30 (atN K 400 120) ((L0 n).loopD fun x => l0 n n x.1.2.1 x.2.1) := loopL (L0 n) 60 (by kernel_rfl) (fragK ⟨Tryz.prog, 30, F n, [], [], []⟩ (Fok n) trivial noL 120 (by kernel_rfl) (fun x => by kernel_rfl)) (fun k x => l0 n k x.1.2.1 x.2.1) (fun x => by kernel_rfl) (fun k x => by kernel_rfl) n
noncomputable abbrev q0 (n : Nat) : List (Nat × FragD) := (60, ((L0 n).loopD fun x => l0 n n x.1.2.1 x.2.1)) :: []
theorem Q0 (n : Nat) : AllL n Tryz.prog 30 K (q0 n) := ⟨T0 n, trivial⟩
end codec_AppendVarint
open codec_AppendVarint in
noncomputable def codec_AppendVarint (n : Nat) (t0 : List Int) (t1 : Int) : Option (List Int) :=
let v2 := bXor .u64 (W .u64 (W .i64 (t1 * 2))) (W .u64 (Int.fdiv t1 9223372036854775808));
(slices_Clip_byte_byte t0).bind fun z3 =>
bif decide (v2 ≥ 128) then
ck (room (z3.length + 1) 1) <|
(l0 n n (Int.fdiv v2 128) (z3 ++ [bOr .u8 (W .u8 v2) 128])).bind fun z6 =>
ck (room (z6.2.length + 1) 1) <|
some (z6.2 ++ [W .u8 z6.1])
else
ck (room (z3.length + 1) 1) <|
some (z3 ++ [W .u8 v2])
noncomputable def codec_AppendVarint.d (n : Nat) : FragD := ⟨⟨[(0, ph (.row (.int .u8))), (1, pi)], []⟩, [⟨1, ⟨[(0, po 0)], [.row 5 (.int .u8)]⟩, List Int, fun x => x.2.1, fun r => (((), ()), (r, ())), fun _ => rfl⟩], fun x => codec_AppendVarint n x.1.1 x.1.2.1⟩
open codec_AppendVarint in
set_option maxRecDepth 1000000 in
theorem codec_AppendVarint.ok (n : Nat) : FunOK Tryz.prog 125 (codec_AppendVarint.d n) := funR ⟨Tryz.prog, 30, F n, [], (q0 n), []⟩ Tryz.f125 (by kernel_rfl) (by kernel_rfl) (by kernel_rfl) (Fok n) trivial (Q0 n) (by kernel_rfl) (fun x => by kernel_rfl)

namespace codec_appendBytes
noncomputable abbrev F (n : Nat) : List (Nat × FragD) := [(125, codec_AppendVarint.d n)]
theorem Fok (n : Nat) : AllF Tryz.prog (F n) := ⟨codec_AppendVarint.ok n, trivial⟩
end codec_appendBytes
open codec_appendBytes in
noncomputable def codec_appendBytes (n : Nat) (t0 : List Int) (t1 : List Int) : Option (List Int) :=
(codec_AppendVarint n t0 (t1.length : Int)).bind fun z1 =>
ck (room (z1.length + t1.length) 1) <|
some (z1 ++ t1)
noncomputable def codec_appendBytes.d (n : Nat) : FragD := ⟨⟨[(0, ph (.row (.int .u8))), (1, ph (.row (.int .u8)))], []⟩, [⟨1, ⟨[(0, po 0)], [.row 5 (.int .u8)]⟩, List Int, fun x => x.2.1, fun r => (((), ()), (r, ())), fun _ => rfl⟩], fun x => codec_appendBytes n x.1.1 x.1.2.1⟩
open codec_appendBytes in
set_option maxRecDepth 1000000 in
theorem codec_appendBytes.ok (n : Nat) : FunOK Tryz.prog 124 (codec_appendBytes.d n) := funR ⟨Tryz.prog, 11, F n, [], [], []⟩ Tryz.f124 (by kernel_rfl) (by kernel_rfl) (by kernel_rfl) (Fok n) trivial noL (by kernel_rfl) (fun x => by kernel_rfl)

namespace codec_EncodeEntry
noncomputable abbrev F (n : Nat) : List (Nat × FragD) := [(123, codec_validEntry.d), (125, codec_AppendVarint.d n), (124, codec_appendBytes.d n)]
theorem Fok (n : Nat) : AllF Tryz.prog (F n) := ⟨codec_validEntry.ok, codec_AppendVarint.ok n, codec_appendBytes.ok n, trivial⟩
end codec_EncodeEntry
open codec_EncodeEntry in
noncomputable def codec_EncodeEntry (n : Nat) (t0 : S41) : Option (Int × List Int) :=
(codec_validEntry t0).bind fun z1 =>
bif !z1 then
some (1, ([] : List Int))
else
(codec_AppendVarint n ([] : List Int) t0.1).bind fun z2 =>
ck (decide (t0.2.1.size ≤ 9223372036854775807)) <|
(codec_appendBytes n z2 (bytesOf t0.2.1)).bind fun z3 =>
(codec_appendBytes n z3 t0.2.2).bind fun z4 =>
some (0, z4)
noncomputable def codec_EncodeEntry.d (n : Nat) : FragD := ⟨⟨[(0, pst c41)], []⟩, [⟨1, ⟨[(0, .tup [.c (.sl 0), .c (.h (.int .i64))])], [.row 5 (.int .u8)]⟩, Int × List Int, fun x => (x.1.1.2.1, x.2.1), fun r => ((((), r.1, ()), ()), (r.2, ())), fun _ => rfl⟩], fun x => codec_EncodeEntry n x.1.1⟩
open codec_EncodeEntry in
set_option maxRecDepth 1000000 in
theorem codec_EncodeEntry.ok (n : Nat) : FunOK Tryz.prog 109 (codec_EncodeEntry.d n) := funR ⟨Tryz.prog, 19, F n, [], [], []⟩ Tryz.f109 (by kernel_rfl) (by kernel_rfl) (by kernel_rfl) (Fok n) trivial noL (by kernel_rfl) (fun x => by kernel_rfl)

namespace quorum_Leader
noncomputable abbrev F : List (Nat × FragD) := [(61, quorum_group_possible.d)]
theorem Fok : AllF Tryz.prog (F) := ⟨quorum_group_possible.ok, trivial⟩
end quorum_Leader
open quorum_Leader in
noncomputable def quorum_Leader (t0 : Int) (t1 : Int) : Option Int :=
(quorum_group_possible t0).bind fun z1 =>
bif !z1 then
some (-1)
else
bif decide (t1 < 0) then
some (-1)
else
ck (!decide (t0 = 0)) <|
some (t1.tmod t0)
noncomputable def quorum_Leader.d : FragD := ⟨⟨[(0, pi), (1, pi)], []⟩, [⟨1, ⟨[(0, pi)], []⟩, Int, fun x => x.1.1, fun r => ((r, ()), ()), fun _ => rfl⟩], fun x => quorum_Leader x.1.1 x.1.2.1⟩
open quorum_Leader in
theorem quorum_Leader.ok : FunOK Tryz.prog 110 (quorum_Leader.d) := funR ⟨Tryz.prog, 15, F, [], [], []⟩ Tryz.f110 (by kernel_rfl) (by kernel_rfl) (by kernel_rfl) (Fok) trivial noL (by kernel_rfl) (fun x => by kernel_rfl)

namespace replica_machine_position
noncomputable abbrev F : List (Nat × FragD) := []
theorem Fok : AllF Tryz.prog (F) := trivial
end replica_machine_position
open replica_machine_position in
noncomputable def replica_machine_position (o0 : S56) : Option Int :=
some (o0.2.2.2.2.2.length : Int)
noncomputable def replica_machine_position.d : FragD := ⟨⟨[(0, pp 0)], [.stb 130 c56]⟩, [⟨1, ⟨[(0, pi)], [.same]⟩, Int, fun x => x.1.1, fun r => ((r, ()), ((), ())), fun _ => rfl⟩], fun x => replica_machine_position x.2.1⟩
open replica_machine_position in
theorem replica_machine_position.ok : FunOK Tryz.prog 111 (replica_machine_position.d) := funR ⟨Tryz.prog, 9, F, [], [], []⟩ Tryz.f111 (by kernel_rfl) (by kernel_rfl) (by kernel_rfl) (Fok) trivial noL (by kernel_rfl) (fun x => by kernel_rfl)

namespace replica_machine_sent_1
noncomputable abbrev F : List (Nat × FragD) := [(111, replica_machine_position.d)]
theorem Fok : AllF Tryz.prog (F) := ⟨replica_machine_position.ok, trivial⟩
end replica_machine_sent_1
open replica_machine_sent_1 in
noncomputable def replica_machine_sent_1 (t0 : S43) (o0 : Int) (o2 : S56) : Option Bool :=
bif t0.1 == o0 then
bif t0.2.2.1 == o2.2.2.1 then
(replica_machine_position o2).bind fun z1 =>
some (t0.2.2.2.1 == z1)
else
some false
else
some false
noncomputable def replica_machine_sent_1.d : FragD := ⟨⟨[(0, pst c43), (1, pp 0), (2, pp 1)], [.stb 3 (.int .i64), .blk 128 [.ptr 2 0], .stb 130 c56]⟩, [⟨1, ⟨[(0, pb)], [.same, .same, .same]⟩, Bool, fun x => x.1.1, fun r => ((r, ()), ((), (), (), ())), fun _ => rfl⟩], fun x => replica_machine_sent_1 x.1.1 x.2.1 x.2.2.2.1⟩
open replica_machine_sent_1 in
theorem replica_machine_sent_1.ok : FunOK Tryz.prog 126 (replica_machine_sent_1.d) := funR ⟨Tryz.prog, 26, F, [], [], []⟩ Tryz.f126 (by kernel_rfl) (by kernel_rfl) (by kernel_rfl) (Fok) trivial noL (by kernel_rfl) (fun x => by kernel_rfl)

namespace api_Message_117
noncomputable abbrev K := cBody Tryz.f117
noncomputable abbrev F (n : Nat) : List (Nat × FragD) := [(126, replica_machine_sent_1.d)]
theorem Fok (n : Nat) : AllF Tryz.prog (F n) := ⟨replica_machine_sent_1.ok, trivial⟩
noncomputable def s0 (n : Nat) (t8 : Int) (t0 : List S43) (t7 : Int) (o0 : Int) (o2 : S56) : Option ((Int × Int × S56) ⊕ ((Int × Int × S56) ⊕ (Int × S56))) :=
bif decide (t8 < t7) then
ck (inb t8 t0.length) <|
(replica_machine_sent_1 ((t0.getD t8.toNat z43).1, ((t0.getD t8.toNat z43).2).1, (((t0.getD t8.toNat z43).2).2).1, ((((t0.getD t8.toNat z43).2).2).2).1, (((((t0.getD t8.toNat z43).2).2).2).2).1, ((((((t0.getD t8.toNat z43).2).2).2).2).2).1, (((((((t0.getD t8.toNat z43).2).2).2).2).2).2)) o0 o2).bind fun z1 =>
bif z1 then
some (.inr (.inl (t8, o0, o2)))
else
some (.inl (W .i64 (t8 + 1), o0, o2))
else
some (.inr (.inr (o0, o2)))
noncomputable def l0 (n : Nat) : Nat → Int → List S43 → Int → Int → S56 → Option ((Int × Int × S56) ⊕ (Int × S56))
| 0, _, _, _, _, _ => none
| k + 1, t8, t0, t7, o0, o2 => (s0 n t8 t0 t7 o0 o2).bind fun z => sm z (fun z => l0 n k z.1 t0 t7 z.2.1 z.2.2) some
noncomputable def L0 (n : Nat) : LoopD := ⟨[(1, .w (.c (.fn 126 [] [(0, 0), (1, 0)]))), (8, pi)], [(0, ph (.row c43)), (7, pi)], [.stb 3 (.int .i64), .blk 128 [.ptr 2 0], .stb 130 c56], Int × Int × S56, fun x => (x.1.2.1, x.2.1, x.2.2.2.1), fun r => (((), r.1, ()), (r.2.1, ((), ()), r.2.2, ())), fun _ => rfl, ⟨1, ⟨[(4, pi)], [.stb 3 (.int .i64), .blk 128 [.ptr 2 0], .stb 130 c56]⟩, Int × Int × S56, fun x => (x.1.1, x.2.1, x.2.2.2.1), fun r => ((r.1, ()), (r.2.1, ((), ()), r.2.2, ())), fun _ => rfl⟩, [⟨2, ⟨[], [.stb 3 (.int .i64), .blk 128 [.ptr 2 0], .stb 130 c56]⟩, Int × S56, fun x => (x.2.1, x.2.2.2.1), fun r => ((), (r.1, ((), ()), r.2, ())), fun _ => rfl⟩], fun x => s0 n x.1.2.1 x.1.2.2.1 x.1.2.2.2.1 x.2.1 x.2.2.2.1, [0, 1, 2]⟩
theorem T0 (n : Nat) : FragOK Tryz.prog 19 (atN K 400 26) ((L0 n).loopD fun x => l0 n n x.1.2.1 x.1.2.2.1 x.1.2.2.2.1 x.2.1 x.2.2.2.1) := loopR (L0 n) 26 (by kernel_rfl) (by kernel_rfl) (fragK ⟨Tryz.prog, 19, F n, [], [], []⟩ (Fok n) trivial noL 52 (by kernel_rfl) (fun x => by kernel_rfl)) (fun k x => l0 n k x.1.2.1 x.1.2.2.1 x.1.2.2.2.1 x.2.1 x.2.2.2.1) (fun x => by kernel_rfl) (fun k x => by kernel_rfl) n
noncomputable abbrev r0 (n : Nat) : List (Nat × FragD) := (26, ((L0 n).loopD fun x => l0 n n x.1.2.1 x.1.2.2.1 x.1.2.2.2.1 x.2.1 x.2.2.2.1)) :: []
theorem R0 (n : Nat) : AllFr Tryz.prog 19 K (r0 n) := ⟨T0 n, trivial⟩
end api_Message_117
open api_Message_117 in
noncomputable def api_Message_117 (n : Nat) (t0 : List S43) (o0 : Int) (o2 : S56) : Option (Int × Int × S56) :=
(l0 n n 0 t0 (t0.length : Int) o0 o2).bind fun z2 =>
sm z2 (fun z3 =>
some (z3.1, z3.2.1, z3.2.2)) fun z4 =>
some ((-1), z4.1, z4.2)
noncomputable def api_Message_117.d (n : Nat) : FragD := ⟨⟨[(0, ph (.row c43)), (1, .w (.c (.fn 126 [] [(0, 0), (1, 0)])))], [.stb 3 (.int .i64), .blk 128 [.ptr 2 0], .stb 130 c56]⟩, [⟨1, ⟨[(0, pi)], [.stb 3 (.int .i64), .blk 128 [.ptr 2 0], .stb 130 c56]⟩, Int × Int × S56, fun x => (x.1.1, x.2.1, x.2.2.2.1), fun r => ((r.1, ()), (r.2.1, ((), ()), r.2.2, ())), fun _ => rfl⟩], fun x => api_Message_117 n x.1.1 x.2.1 x.2.2.2.1⟩
open api_Message_117 in
theorem api_Message_117.ok (n : Nat) : FunOK Tryz.prog 117 (api_Message_117.d n) := funR ⟨Tryz.prog, 19, F n, (r0 n), [], []⟩ Tryz.f117 (by kernel_rfl) (by kernel_rfl) (by kernel_rfl) (Fok n) (R0 n) noL (by kernel_rfl) (fun x => by kernel_rfl)

namespace api_Message_99
noncomputable abbrev F (n : Nat) : List (Nat × FragD) := [(117, api_Message_117.d n)]
theorem Fok (n : Nat) : AllF Tryz.prog (F n) := ⟨api_Message_117.ok n, trivial⟩
end api_Message_99
open api_Message_99 in
noncomputable def api_Message_99 (n : Nat) (t0 : List S43) (o0 : Int) (o2 : S56) : Option (Bool × Int × S56) :=
(api_Message_117 n t0 o0 o2).bind fun z1 =>
some (decide (z1.1 ≥ 0), z1.2.1, z1.2.2)
noncomputable def api_Message_99.d (n : Nat) : FragD := ⟨⟨[(0, ph (.row c43)), (1, .w (.c (.fn 126 [] [(0, 0), (1, 0)])))], [.stb 3 (.int .i64), .blk 128 [.ptr 2 0], .stb 130 c56]⟩, [⟨1, ⟨[(0, pb)], [.stb 3 (.int .i64), .blk 128 [.ptr 2 0], .stb 130 c56]⟩, Bool × Int × S56, fun x => (x.1.1, x.2.1, x.2.2.2.1), fun r => ((r.1, ()), (r.2.1, ((), ()), r.2.2, ())), fun _ => rfl⟩], fun x => api_Message_99 n x.1.1 x.2.1 x.2.2.2.1⟩
open api_Message_99 in
theorem api_Message_99.ok (n : Nat) : FunOK Tryz.prog 99 (api_Message_99.d n) := funR ⟨Tryz.prog, 9, F n, [], [], []⟩ Tryz.f99 (by kernel_rfl) (by kernel_rfl) (by kernel_rfl) (Fok n) trivial noL (by kernel_rfl) (fun x => by kernel_rfl)

namespace replica_machine_sent
noncomputable abbrev F (n : Nat) : List (Nat × FragD) := [(99, api_Message_99.d n)]
theorem Fok (n : Nat) : AllF Tryz.prog (F n) := ⟨api_Message_99.ok n, trivial⟩
end replica_machine_sent
open replica_machine_sent in
noncomputable def replica_machine_sent (n : Nat) (t1 : Int) (o0 : S56) : Option (Bool × S56) :=
(api_Message_99 n o0.2.2.2.2.1 t1 o0).bind fun z1 =>
some (z1.1, z1.2.2)
noncomputable def replica_machine_sent.d (n : Nat) : FragD := ⟨⟨[(0, pp 0), (1, pi)], [.stb 130 c56]⟩, [⟨1, ⟨[(0, pb)], [.stb 130 c56]⟩, Bool × S56, fun x => (x.1.1, x.2.1), fun r => ((r.1, ()), (r.2, ())), fun _ => rfl⟩], fun x => replica_machine_sent n x.1.2.1 x.2.1⟩
open replica_machine_sent in
theorem replica_machine_sent.ok (n : Nat) : FunOK Tryz.prog 112 (replica_machine_sent.d n) := funR ⟨Tryz.prog, 12, F n, [], [], []⟩ Tryz.f112 (by kernel_rfl) (by kernel_rfl) (by kernel_rfl) (Fok n) trivial noL (by kernel_rfl) (fun x => by kernel_rfl)

namespace replica_machine_slot
noncomputable abbrev F : List (Nat × FragD) := [(111, replica_machine_position.d)]
theorem Fok : AllF Tryz.prog (F) := ⟨replica_machine_position.ok, trivial⟩
end replica_machine_slot
open replica_machine_slot in
noncomputable def replica_machine_slot (t1 : Int) (o0 : S56) : Option S109 :=
(replica_machine_position o0).bind fun z1 =>
some (t1, z1)
noncomputable def replica_machine_slot.d : FragD := ⟨⟨[(0, pp 0), (1, pi)], [.stb 130 c56]⟩, [⟨1, ⟨[(0, pst c109)], [.same]⟩, S109, fun x => x.1.1, fun r => ((r, ()), ((), ())), fun _ => rfl⟩], fun x => replica_machine_slot x.1.2.1 x.2.1⟩
open replica_machine_slot in
theorem replica_machine_slot.ok : FunOK Tryz.prog 114 (replica_machine_slot.d) := funR ⟨Tryz.prog, 9, F, [], [], []⟩ Tryz.f114 (by kernel_rfl) (by kernel_rfl) (by kernel_rfl) (Fok) trivial noL (by kernel_rfl) (fun x => by kernel_rfl)


namespace quorum_bare
noncomputable abbrev F : List (Nat × FragD) := []
theorem Fok : AllF Tryz.prog (F) := trivial
end quorum_bare
open quorum_bare in
noncomputable def quorum_bare (t0 : S43) : Option Bool :=
bif t0.2.2.2.2.2.1 == 0 then
bif (t0.2.2.2.2.2.2.1.toList == (⟨#[]⟩ : ByteArray).toList) then
some ((t0.2.2.2.2.2.2.2.length : Int) == 0)
else
some false
else
some false
noncomputable def quorum_bare.d : FragD := ⟨⟨[(0, pst c43)], []⟩, [⟨1, ⟨[(0, pb)], []⟩, Bool, fun x => x.1.1, fun r => ((r, ()), ()), fun _ => rfl⟩], fun x => quorum_bare x.1.1⟩
open quorum_bare in
theorem quorum_bare.ok : FunOK Tryz.prog 129 (quorum_bare.d) := funR ⟨Tryz.prog, 20, F, [], [], []⟩ Tryz.f129 (by kernel_rfl) (by kernel_rfl) (by kernel_rfl) (Fok) trivial noL (by kernel_rfl) (fun x => by kernel_rfl)

namespace quorum_group_valid
noncomputable abbrev K := cBody Tryz.f116
noncomputable abbrev F (n : Nat) : List (Nat × FragD) := [(61, quorum_group_possible.d), (109, codec_EncodeEntry.d n), (110, quorum_Leader.d), (115, codec_Checksum.d), (129, quorum_bare.d)]
theorem Fok (n : Nat) : AllF Tryz.prog (F n) := ⟨quorum_group_possible.ok, codec_EncodeEntry.ok n, quorum_Leader.ok, codec_Checksum.ok, quorum_bare.ok, trivial⟩
noncomputable def j0 (n : Nat) (t0 : Int) (o0 : S43) : Option (Unit ⊕ Bool) :=
(quorum_group_possible t0).bind fun z1 =>
bif !z1 then
some (.inr false)
else
bif decide (o0.2.1 < 0) then
some (.inr false)
else
bif decide (o0.2.1 ≥ t0) then
some (.inr false)
else
bif decide (o0.2.2.1 < 0) then
some (.inr false)
else
bif (decide (o0.2.2.1 > 1048576)) then
some (.inr false)
else
bif decide (o0.2.2.2.1 < 0) then
some (.inr false)
else
bif (decide (o0.2.2.2.1 ≥ 1000)) then
some (.inr false)
else
some (.inl ())
noncomputable def D0 (n : Nat) : FragD := ⟨⟨[(0, pi), (3, pp 0)], [.stb 43 c43]⟩, [⟨0, ⟨[], [.same]⟩, Unit, fun _ => (), fun _ => ((), ((), ())), fun _ => rfl⟩, ⟨1, ⟨[(4, pb)], [.same]⟩, Bool, fun x => x.1.1, fun r => ((r, ()), ((), ())), fun _ => rfl⟩], fun x => j0 n x.1.1 x.2.1⟩
set_option maxRecDepth 1000000 in
theorem T0 (n : Nat) : FragOK Tryz.prog 88 (atN K 400 6) (D0 n) := fragR ⟨Tryz.prog, 88, F n, [], [], []⟩ (Fok n) trivial noL 6 (by kernel_rfl) (fun x => by kernel_rfl)
noncomputable abbrev r0 (n : Nat) : List (Nat × FragD) := (6, D0 n) :: []
theorem R0 (n : Nat) : AllFr Tryz.prog 88 K (r0 n) := ⟨T0 n, trivial⟩
noncomputable def j1 (n : Nat) (t42 : Int) : Option Bool :=
bif t42 == 2 then
some (t42 == 2)
else
some (t42 == 3)
noncomputable def D1 (n : Nat) : FragD := ⟨⟨[(42, pi)], []⟩, [⟨0, ⟨[(69, pb)], []⟩, Bool, fun x => x.1.1, fun r => ((r, ()), ()), fun _ => rfl⟩], fun x => j1 n x.1.1⟩
set_option maxRecDepth 1000000 in
theorem T1 (n : Nat) : FragOK Tryz.prog 88 (atN K 400 470) (D1 n) := fragR ⟨Tryz.prog, 88, F n, (r0 n), [], []⟩ (Fok n) (R0 n) noL 470 (by kernel_rfl) (fun x => by kernel_rfl)
noncomputable abbrev r1 (n : Nat) : List (Nat × FragD) := (470, D1 n) :: (r0 n)
theorem R1 (n : Nat) : AllFr Tryz.prog 88 K (r1 n) := ⟨T1 n, R0 n⟩
end quorum_group_valid
open quorum_group_valid in
noncomputable def quorum_group_valid (n : Nat) (t0 : Int) (t1 : S43) : Option Bool :=
(j0 n t0 t1).bind fun z4 =>
sm z4 (fun z5 =>
bif t1.1 == 1 then
(codec_EncodeEntry n t1.2.2.2.2.2).bind fun z7 =>
bif z7.1 == 0 then
(quorum_Leader t0 t1.2.2.1).bind fun z8 =>
bif t1.2.1 == z8 then
(codec_Checksum z7.2).bind fun z9 =>
some (z9 == t1.2.2.2.2.1)
else
some false
else
some false
else
(j1 n t1.1).bind fun z10 =>
bif z10 then
(quorum_bare t1).bind fun z11 =>
some z11
else
bif t1.1 == 4 then
(quorum_bare t1).bind fun z12 =>
bif z12 then
bif t1.2.2.2.1 == 0 then
some (t1.2.2.2.2.1 == 0)
else
some false
else
some false
else
some false) fun z6 =>
some z6
noncomputable def quorum_group_valid.d (n : Nat) : FragD := ⟨⟨[(0, pi), (1, pst c43)], []⟩, [⟨1, ⟨[(0, pb)], []⟩, Bool, fun x => x.1.1, fun r => ((r, ()), ()), fun _ => rfl⟩], fun x => quorum_group_valid n x.1.1 x.1.2.1⟩
open quorum_group_valid in
set_option maxRecDepth 1000000 in
theorem quorum_group_valid.ok (n : Nat) : FunOK Tryz.prog 116 (quorum_group_valid.d n) := funR ⟨Tryz.prog, 88, F n, (r1 n), [], []⟩ Tryz.f116 (by kernel_rfl) (by kernel_rfl) (by kernel_rfl) (Fok n) (R1 n) noL (by kernel_rfl) (fun x => by kernel_rfl)

namespace quorum_Size
noncomputable abbrev F : List (Nat × FragD) := [(61, quorum_group_possible.d), (37, quorum_MaxFaulty.d)]
theorem Fok : AllF Tryz.prog (F) := ⟨quorum_group_possible.ok, quorum_MaxFaulty.ok, trivial⟩
end quorum_Size
open quorum_Size in
noncomputable def quorum_Size (t0 : Int) : Option Int :=
(quorum_group_possible t0).bind fun z1 =>
bif !z1 then
some 0
else
(quorum_MaxFaulty t0).bind fun z2 =>
some (W .i64 (t0 - z2))
noncomputable def quorum_Size.d : FragD := ⟨⟨[(0, pi)], []⟩, [⟨1, ⟨[(0, pi)], []⟩, Int, fun x => x.1.1, fun r => ((r, ()), ()), fun _ => rfl⟩], fun x => quorum_Size x.1.1⟩
open quorum_Size in
theorem quorum_Size.ok : FunOK Tryz.prog 137 (quorum_Size.d) := funR ⟨Tryz.prog, 10, F, [], [], []⟩ Tryz.f137 (by kernel_rfl) (by kernel_rfl) (by kernel_rfl) (Fok) trivial noL (by kernel_rfl) (fun x => by kernel_rfl)

namespace quorum_Valid
noncomputable abbrev F (n : Nat) : List (Nat × FragD) := [(116, quorum_group_valid.d n)]
theorem Fok (n : Nat) : AllF Tryz.prog (F n) := ⟨quorum_group_valid.ok n, trivial⟩
end quorum_Valid
open quorum_Valid in
noncomputable def quorum_Valid (n : Nat) (t0 : S43) (t1 : Int) : Option Bool :=
(quorum_group_valid n t1 t0).bind fun z1 =>
some z1
noncomputable def quorum_Valid.d (n : Nat) : FragD := ⟨⟨[(0, pst c43), (1, pi)], []⟩, [⟨1, ⟨[(0, pb)], []⟩, Bool, fun x => x.1.1, fun r => ((r, ()), ()), fun _ => rfl⟩], fun x => quorum_Valid n x.1.1 x.1.2.1⟩
open quorum_Valid in
set_option maxRecDepth 1000000 in
theorem quorum_Valid.ok (n : Nat) : FunOK Tryz.prog 98 (quorum_Valid.d n) := funR ⟨Tryz.prog, 8, F n, [], [], []⟩ Tryz.f98 (by kernel_rfl) (by kernel_rfl) (by kernel_rfl) (Fok n) trivial noL (by kernel_rfl) (fun x => by kernel_rfl)
end Go.Proofs.YtfecniimkgkmfaaGreat
namespace Go.Proofs.YtfecniimkgkmfaaGreat
open Go Go.RowKit Go.Proofs.YtfecniimkgkmfaaGreat.RW
open Go.Proofs.YtfecniimkgkmfaaGreat.AM hiding lk
set_option linter.unusedVariables false
set_option maxRecDepth 100000

structure Q30 where
  f0 : Int
  f1 : ByteArray
  f2 : List Int
def qz30 : Q30 := ⟨0, (⟨#[]⟩ : ByteArray), []⟩
def qt30 : Ty Q30 := Ty.iso (Ty.pair (Ty.int .i64) (Ty.pair Ty.string (Ty.slice (Ty.int .u8)))) (fun x => (x.f0, x.f1, x.f2))
structure Q32 where
  f0 : Int
  f1 : Int
  f2 : Int
  f3 : Int
  f4 : Int
  f5 : Q30
def qz32 : Q32 := ⟨0, 0, 0, 0, 0, qz30⟩
def qt32 : Ty Q32 := Ty.iso (Ty.pair (Ty.int .i64) (Ty.pair (Ty.int .i64) (Ty.pair (Ty.int .i64) (Ty.pair (Ty.int .i64) (Ty.pair (Ty.int .u32) qt30))))) (fun x => (x.f0, x.f1, x.f2, x.f3, x.f4, x.f5))
theorem qt32_open {I : Imm} {x : Q32} {cs : List Value} (h : qt32.K I x cs) : ∃ (A_5_2 : Option Addr) (c_5_2 : Nat), cs = [.int .i64 x.f0, .int .i64 x.f1, .int .i64 x.f2, .int .i64 x.f3, .int .u32 x.f4, .int .i64 x.f5.f0, .string x.f5.f1, .slice A_5_2 x.f5.f2.length c_5_2] ∧ x.f5.f2.length ≤ c_5_2 ∧ Rd (Ty.int .u8) I A_5_2 x.f5.f2 := by
  obtain ⟨_, _, rfl, rfl, ⟨_, _, rfl, rfl, ⟨_, _, rfl, rfl, ⟨_, _, rfl, rfl, ⟨_, _, rfl, rfl, ⟨_, _, rfl, rfl, ⟨_, _, rfl, rfl, ⟨A_5_2, c_5_2, rfl, l_5_2, r_5_2⟩⟩⟩⟩⟩⟩⟩⟩ := h
  exact ⟨A_5_2, c_5_2, rfl, l_5_2, r_5_2⟩
theorem qt32_at {I : Imm} {A : Option Addr} {xs : List Q32} (h : Rd qt32 I A xs) (i : Int) (h0 : 0 ≤ i) (h1 : i < (xs.length : Int)) : ∃ g o, A = some ⟨g, o, none⟩ ∧ ∃ (A_5_2 : Option Addr) (c_5_2 : Nat), ((xs.getD i.toNat qz32).f5.f2).length ≤ c_5_2 ∧ Rd (Ty.int .u8) I A_5_2 ((xs.getD i.toNat qz32).f5.f2) ∧  (∀ j u, [.int .i64 (xs.getD i.toNat qz32).f0, .int .i64 (xs.getD i.toNat qz32).f1, .int .i64 (xs.getD i.toNat qz32).f2, .int .i64 (xs.getD i.toNat qz32).f3, .int .u32 (xs.getD i.toNat qz32).f4, .int .i64 (xs.getD i.toNat qz32).f5.f0, .string (xs.getD i.toNat qz32).f5.f1, .slice A_5_2 (xs.getD i.toNat qz32).f5.f2.length c_5_2][j]? = some u → I ⟨g, o + i.toNat * 8 + j, none⟩ = some u) := by
  obtain ⟨g, o, c, e, hk, hc⟩ := h.get qz32 i h0 h1
  obtain ⟨A_5_2, c_5_2, rfl, l_5_2, r_5_2⟩ := qt32_open hk
  exact ⟨g, o, e, A_5_2, c_5_2, l_5_2, r_5_2, hc⟩
structure Q24 where
  f0 : Int
  f1 : Int
def qz24 : Q24 := ⟨0, 0⟩
def qt24 : Ty Q24 := Ty.iso (Ty.pair (Ty.int .i64) (Ty.int .i64)) (fun x => (x.f0, x.f1))
/-- The two ways to tell a message. -/
def Q30.p (x : Q30) : S41 := (x.f0, x.f1, x.f2)
def Q32.p (x : Q32) : S43 := (x.f0, x.f1, x.f2, x.f3, x.f4, x.f5.p)
noncomputable def quorum_Size.f (n : Int) : Option Int := quorum_Size n
def quorum_Size.Post (I : Imm) (w : World) (r : Int) (v : Value) (w' : World) : Prop := ∃ (J : Imm), v = .int .i64 r ∧ Got w w' I J []
theorem quorum_Size.calls (I0 : Imm) (a0 : Int) (w : World) (hI : I0.at_ w) (r : Int) (h : quorum_Size.f a0 = some r) :
    Calls Tryz.prog 137 [.int .i64 a0].toArray w fun e w' => ∃ v, e = .returned v ∧ quorum_Size.Post I0 w r v w' := by
  refine (FunOK.calls (fn := Tryz.f137) (by kernel_rfl) quorum_Size.ok rfl (a0, ()) h hI (vs := [.int .i64 a0]) (Nat.le_of_ble_eq_true (by kernel_rfl)) rfl (fun t av ht => ?_)).mono ?_
  · match t, ht with
    | 0, ht => cases ht; exact ⟨_, rfl, rfl, rfl⟩
  · rintro e w' ⟨v, rfl, J, π', hg, hv⟩
    obtain ⟨hv, _⟩ := hv _ rfl
    exact ⟨v, rfl, J, hv, hg⟩
noncomputable def quorum_group_valid.f (k : Nat) (n : Int) (m : Q32) : Option Bool := quorum_group_valid k n m.p
def quorum_group_valid.Post (I : Imm) (w : World) (r : Bool) (v : Value) (w' : World) : Prop := ∃ (J : Imm), v = .bool r ∧ Got w w' I J []
theorem quorum_group_valid.calls (k : Nat) (I0 : Imm) (a0 : Int) (a1 : Q32) (Ap1_5_2 : Option Addr) (cp1_5_2 : Nat) (w : World) (hI : I0.at_ w) (hlp1_5_2 : a1.f5.f2.length ≤ cp1_5_2) (hrp1_5_2 : Rd (Ty.int .u8) I0 Ap1_5_2 a1.f5.f2) (r : Bool) (h : quorum_group_valid.f k a0 a1 = some r) :
    Calls Tryz.prog 116 [.int .i64 a0, .agg #[.int .i64 a1.f0, .int .i64 a1.f1, .int .i64 a1.f2, .int .i64 a1.f3, .int .u32 a1.f4, .int .i64 a1.f5.f0, .string a1.f5.f1, .slice Ap1_5_2 a1.f5.f2.length cp1_5_2]].toArray w fun e w' => ∃ v, e = .returned v ∧ quorum_group_valid.Post I0 w r v w' := by
  refine (FunOK.calls (fn := Tryz.f116) (by kernel_rfl) (quorum_group_valid.ok k) rfl (a0, (a1.p, ())) h hI (vs := [.int .i64 a0, .agg #[.int .i64 a1.f0, .int .i64 a1.f1, .int .i64 a1.f2, .int .i64 a1.f3, .int .u32 a1.f4, .int .i64 a1.f5.f0, .string a1.f5.f1, .slice Ap1_5_2 a1.f5.f2.length cp1_5_2]]) (Nat.le_of_ble_eq_true (by kernel_rfl)) rfl (fun t av ht => ?_)).mono ?_
  · match t, ht with
    | 0, ht => cases ht; exact ⟨_, rfl, rfl, rfl⟩
    | 1, ht =>
      cases ht
      exact ⟨_, rfl, _, rfl, ⟨rfl, rfl⟩, ⟨rfl, rfl⟩, ⟨rfl, rfl⟩, ⟨rfl, rfl⟩, ⟨rfl, rfl⟩, ⟨rfl, rfl⟩, ⟨rfl, rfl⟩, ⟨_, _, rfl, hlp1_5_2, (fun e => by cases e), hrp1_5_2⟩, trivial⟩
  · rintro e w' ⟨v, rfl, J, π', hg, hv⟩
    obtain ⟨hv, _⟩ := hv _ rfl
    exact ⟨v, rfl, J, hv, hg⟩
noncomputable def quorum_Valid.f (k : Nat) (m : Q32) (n : Int) : Option Bool := quorum_Valid k m.p n
def quorum_Valid.Post (I : Imm) (w : World) (r : Bool) (v : Value) (w' : World) : Prop := ∃ (J : Imm), v = .bool r ∧ Got w w' I J []
theorem quorum_Valid.calls (k : Nat) (I0 : Imm) (a0 : Q32) (Ap0_5_2 : Option Addr) (cp0_5_2 : Nat) (a1 : Int) (w : World) (hI : I0.at_ w) (hlp0_5_2 : a0.f5.f2.length ≤ cp0_5_2) (hrp0_5_2 : Rd (Ty.int .u8) I0 Ap0_5_2 a0.f5.f2) (r : Bool) (h : quorum_Valid.f k a0 a1 = some r) :
    Calls Tryz.prog 98 [.agg #[.int .i64 a0.f0, .int .i64 a0.f1, .int .i64 a0.f2, .int .i64 a0.f3, .int .u32 a0.f4, .int .i64 a0.f5.f0, .string a0.f5.f1, .slice Ap0_5_2 a0.f5.f2.length cp0_5_2], .int .i64 a1].toArray w fun e w' => ∃ v, e = .returned v ∧ quorum_Valid.Post I0 w r v w' := by
  refine (FunOK.calls (fn := Tryz.f98) (by kernel_rfl) (quorum_Valid.ok k) rfl (a0.p, (a1, ())) h hI (vs := [.agg #[.int .i64 a0.f0, .int .i64 a0.f1, .int .i64 a0.f2, .int .i64 a0.f3, .int .u32 a0.f4, .int .i64 a0.f5.f0, .string a0.f5.f1, .slice Ap0_5_2 a0.f5.f2.length cp0_5_2], .int .i64 a1]) (Nat.le_of_ble_eq_true (by kernel_rfl)) rfl (fun t av ht => ?_)).mono ?_
  · match t, ht with
    | 0, ht =>
      cases ht
      exact ⟨_, rfl, _, rfl, ⟨rfl, rfl⟩, ⟨rfl, rfl⟩, ⟨rfl, rfl⟩, ⟨rfl, rfl⟩, ⟨rfl, rfl⟩, ⟨rfl, rfl⟩, ⟨rfl, rfl⟩, ⟨_, _, rfl, hlp0_5_2, (fun e => by cases e), hrp0_5_2⟩, trivial⟩
    | 1, ht => cases ht; exact ⟨_, rfl, rfl, rfl⟩
  · rintro e w' ⟨v, rfl, J, π', hg, hv⟩
    obtain ⟨hv, _⟩ := hv _ rfl
    exact ⟨v, rfl, J, hv, hg⟩
end Go.Proofs.YtfecniimkgkmfaaGreat
