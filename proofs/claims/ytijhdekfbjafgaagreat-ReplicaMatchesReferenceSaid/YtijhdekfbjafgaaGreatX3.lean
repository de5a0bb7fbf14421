/- Words of the walk, the functions' walks and plain laws, joined; no conditions beyond those that the theorems name. -/
import Derived.Test.YtijhdekfbjafgaaGreatX2
import Derived.LoopN
import Derived.Test.YtijhdekfbjafgaaGreatX1
import Derived.ChangeArms
import Derived.DataReads
import Derived.OpenShut
import Derived.WideShapes
import Derived.Test.YtijhdekfbjafgaaGreatProg
import Derived.RangeFuncRecord
import Derived.RangeFuncIn
import Derived.RangeFuncStops
import Derived.RangeFuncCalls
import Derived.OrdersIn
import Derived.OwnWalkIn
import Derived.TacticsIn
import Derived.Laws.StructEq
import Derived.RangeFuncLeaves
namespace Go.Proofs.YtijhdekfbjafgaaGreat.AM
open Go Go.RowKit Go.Proofs.YtijhdekfbjafgaaGreat.RW

section
variable {ρ β : Type} {P : Program} {B : Base} {I : Imm} {π : Pi} {w : World}

/-- The run of told steps: it comes to an end, and what comes behind goes on. -/
theorem Tr.run_ex {m : AMem} : ∀ {t : Tr ρ} {rs : List Nat} {κ : ρ → AMem → List Nat → Option β} {r : β}, t.run m rs κ = some r → ∃ v ws rs', Tr.Ex m t v ws rs' ∧ κ v ws (rs'.reverse ++ rs) = some r := by
 intro t
 induction t with
 | ret v ws => intro rs κ r h; exact ⟨v, ws, [], .ret _ _, h⟩
 | look o k ih =>
  intro rs κ r h
  simp only [Tr.run] at h
  obtain ⟨v, ws, rs', h1, h2⟩ := ih _ h
  exact ⟨v, ws, o :: rs', .look h1, by simpa using h2⟩
 | chk b t ih =>
  intro rs κ r h
  cases b with
  | false => cases h
  | true =>
   simp only [Tr.run, cond_true] at h
   obtain ⟨v, ws, rs', h1, h2⟩ := ih h
   exact ⟨v, ws, rs', .chk h1, h2⟩
 | ite b t e iht ihe =>
  intro rs κ r h
  cases b with
  | false =>
   simp only [Tr.run, cond_false] at h
   obtain ⟨v, ws, rs', h1, h2⟩ := ihe h
   exact ⟨v, ws, rs', .iteF h1, h2⟩
  | true =>
   simp only [Tr.run, cond_true] at h
   obtain ⟨v, ws, rs', h1, h2⟩ := iht h
   exact ⟨v, ws, rs', .iteT h1, h2⟩
 | opt α x k ih =>
  intro rs κ r h
  simp only [Tr.run] at h
  obtain ⟨y, hy, h⟩ := Option.bind_eq_some_iff.1 h
  obtain ⟨v, ws, rs', h1, h2⟩ := ih y h
  exact ⟨v, ws, rs', .opt y hy h1, h2⟩
 | sum α β x k l ihk ihl =>
  intro rs κ r h
  cases x with
  | inl y =>
   simp only [Tr.run] at h
   obtain ⟨v, ws, rs', h1, h2⟩ := ihk y h
   exact ⟨v, ws, rs', .inl y h1, h2⟩
  | inr y =>
   simp only [Tr.run] at h
   obtain ⟨v, ws, rs', h1, h2⟩ := ihl y h
   exact ⟨v, ws, rs', .inr y h1, h2⟩
 | fail => intro rs κ r h; cases h
/-- What was not looked at doesn't matter. -/
theorem Tr.Ex.other {m m' : AMem} {t : Tr ρ} {v : ρ} {ws : AMem} {rs : List Nat} (h : Tr.Ex m t v ws rs) : (∀ o ∈ rs, lk m' o = lk m o) → Tr.Ex m' t v ws rs := by
 induction h with
 | ret r ws => intro _; exact .ret r ws
 | look h ih => intro hm; exact .look (by rw [hm _ List.mem_cons_self]; exact ih (fun o ho => hm o (List.mem_cons_of_mem _ ho)))
 | chk h ih => intro hm; exact .chk (ih hm)
 | iteT h ih => intro hm; exact .iteT (ih hm)
 | iteF h ih => intro hm; exact .iteF (ih hm)
 | opt y hx h ih => intro hm; exact .opt y hx (ih hm)
 | inl y h ih => intro hm; exact .inl y (ih hm)
 | inr y h ih => intro hm; exact .inr y (ih hm)

/-- What is told of a frame's slots. -/
def SlR (π : Pi) (I : Imm) (sl : ASl) (a : Act) : Prop := ∀ t av, lk sl t = some av → ∃ y, a.tmps[t]? = some y ∧ relV π I av y
theorem SlR.ext {π π' : Pi} {I J : Imm} {sl : ASl} {a : Act} (hπ : π.le π') (hI : I.le J) (h : SlR π I sl a) : SlR π' J sl a := fun t av ht => by
 obtain ⟨y, h1, h2⟩ := h t av ht
 exact ⟨y, h1, h2.ext hπ hI⟩
theorem SlR.congr {sl sl' : ASl} {a : Act} (h : SlR π I sl a) (e : ∀ x, lk sl' x = lk sl x) : SlR π I sl' a := fun t av ht => h t av (by rw [← e]; exact ht)
def consD (d : Option Tmp) (v : AV) (sl : ASl) : ASl := match d with | none => sl | some d => (d, v) :: sl
theorem SlR.put {sl : ASl} {a : Act} {d : Option Tmp} {v : AV} {y : Value} (h : SlR π I sl a) (hv : relV π I v y) (hd : ∀ t, d = some t → t < a.tmps.size) : SlR π I (consD d v sl) (a.put d y) := by
 cases d with
 | none => exact h
 | some d =>
  intro t av ht
  simp only [consD] at ht
  rw [lk_cons] at ht
  split at ht
  ·rename_i e
   subst e
   injection ht with ht
   subst ht
   refine ⟨y, ?_, hv⟩
   simp only [Act.put]
   rw [Array.getElem?_setIfInBounds_self_of_lt (hd d rfl)]
  ·rename_i e
   obtain ⟨y', h1, h2⟩ := h t av ht
   refine ⟨y', ?_, h2⟩
   simp only [Act.put]
   rw [Array.getElem?_setIfInBounds_ne e]
   exact h1
theorem put_size (a : Act) (d : Option Tmp) (y : Value) : (a.put d y).tmps.size = a.tmps.size := by cases d <;> simp [Act.put]
theorem put_defers (a : Act) (d : Option Tmp) (y : Value) : (a.put d y).defers = a.defers := by cases d <;> rfl
theorem put_other (a : Act) {d : Option Tmp} (y : Value) {t : Nat} (h : d ≠ some t) : (a.put d y).tmps[t]? = a.tmps[t]? := by
 cases d with
 | none => rfl
 | some d =>
  simp only [Act.put]
  rw [Array.getElem?_setIfInBounds_ne (fun e => h (by rw [e]))]
theorem SlR.eval {sl : ASl} {a : Act} (h : SlR π I sl a) (x : Operand) (av : AV) (hx : evA sl x = some av) : relV π I av (a.eval x) := by
 cases x with
 | tmp t =>
  obtain ⟨y, h1, h2⟩ := h t av hx
  simp only [Act.eval]
  rw [Array.getD_eq_getD_getElem?, h1]
  exact h2
 | const v =>
  simp only [evA] at hx
  cases hb : okV v with
  | false => rw [hb] at hx; cases hx
  | true =>
   rw [hb] at hx
   injection hx with hx
   subst hx
   exact rel_back hb
 | func f =>
  injection hx with hx
  subst hx
  exact ⟨[], [], rfl, trivial, trivial⟩
 | global g => cases hx
theorem evA_congr {sl sl' : ASl} {x : Operand} (h : ∀ t, x = .tmp t → lk sl' t = lk sl t) : evA sl' x = evA sl x := by
 cases x with
 | tmp t => exact h t rfl
 | _ => rfl
/-- From what an operation does to its rule. -/
theorem Does.wp {o : Oper} {a : Act} {N : Value → World → Prop} {K : Act → World → Prop} {Q : Exit → Act → World → Prop} (h : Does P (execOp a.eval o) w N) (k : ∀ y w', N y w' → K (a.put o.dst y) w') : o.wp P a w K Q := by
 unfold Oper.wp
 rcases h with ⟨y, w', hr, hN⟩ | ⟨f, xs, hr, hc⟩
 ·rcases hr with hr | ⟨hr, rfl⟩
  ·rw [hr, Oper.upon_value]; exact k y w' hN
  ·rw [hr, Oper.upon_skip]; exact k _ w' hN
 ·rw [hr, Oper.upon_enter]
  refine hc.mono ?_
  rintro e w' ⟨y, rfl, hN⟩
  exact k y w' hN
theorem wanted_bool {ops : List Oper} {o : Oper} {j : Nat} {want b : Bool} {q : Oper} {t : Tmp} {tmps : Array Value} (hg : o.guard = some (j, want)) (hq : ops[j]? = some q) (ht : q.dst = some t) (hs : tmps[t]? = some (.bool b)) : Region.wanted o (yielded ops.toArray tmps) = (b == want) := by
 unfold Region.wanted
 rw [hg]
 have hy : yielded ops.toArray tmps j = some b := by
  unfold yielded
  simp [hq, ht, hs]
 simp only [hy]
 cases b <;> cases want <;> rfl
theorem wanted_undef {ops : List Oper} {o : Oper} {j : Nat} {want : Bool} {q : Oper} {t : Tmp} {tmps : Array Value} {l : Array Value} (hg : o.guard = some (j, want)) (hq : ops[j]? = some q) (ht : q.dst = some t) (hs : tmps[t]? = some (.tuple l)) : Region.wanted o (yielded ops.toArray tmps) = false := by
 unfold Region.wanted
 rw [hg]
 have hy : yielded ops.toArray tmps j = none := by
  unfold yielded
  simp [hq, ht, hs]
 simp only [hy]
 rfl

/-! ### what the run in the text's order says of each operation -/
structure Rec where
 d : Option Tmp
 v : AV
 ws : AMem
 rs : List Nat
 ex : Bool
def accS (R : Nat → Rec) (sl0 : ASl) (D : Nat → Bool) : Nat → ASl
 | 0 => sl0
 | k + 1 => if D k = true then consD (R k).d (R k).v (accS R sl0 D k) else accS R sl0 D k
def accM (R : Nat → Rec) (m0 : AMem) (D : Nat → Bool) : Nat → AMem
 | 0 => m0
 | k + 1 => if D k = true then (R k).ws ++ accM R m0 D k else accM R m0 D k
def allD : Nat → Bool := fun _ => true
theorem accS_congr {R R' : Nat → Rec} {sl0 : ASl} {D D' : Nat → Bool} : ∀ k, (∀ j, j < k → R j = R' j) → (∀ j, j < k → D j = D' j) → accS R sl0 D k = accS R' sl0 D' k
 | 0, _, _ => rfl
 | k + 1, h, hD => by simp only [accS]; rw [accS_congr k (fun j hj => h j (by omega)) (fun j hj => hD j (by omega)), h k (by omega), hD k (by omega)]
theorem accM_congr {R R' : Nat → Rec} {m0 : AMem} {D D' : Nat → Bool} : ∀ k, (∀ j, j < k → R j = R' j) → (∀ j, j < k → D j = D' j) → accM R m0 D k = accM R' m0 D' k
 | 0, _, _ => rfl
 | k + 1, h, hD => by simp only [accM]; rw [accM_congr k (fun j hj => h j (by omega)) (fun j hj => hD j (by omega)), h k (by omega), hD k (by omega)]

structure RecOK (E : Env) (ops : List Oper) (base : Nat) (R : Nat → Rec) (sl0 : ASl) (m0 : AMem) (i : Nat) (o : Oper) : Prop where
 op : ops[i]? = some o
 dst : (R i).d = o.dst
 dlt : ∀ d, o.dst = some d → d < E.n
 gnone : o.guard = none → (R i).ex = true
 gsome : ∀ j want, o.guard = some (j, want) → ∃ q t, ops[j]? = some q ∧ q.dst = some t ∧ ((∃ b, lk (accS R sl0 allD i) t = some (ac (.v (.bool b))) ∧ (R i).ex = (b == want)) ∨ (lk (accS R sl0 allD i) t = some (.tup []) ∧ (R i).ex = false))
 run : (R i).ex = true → Tr.Ex (accM R m0 allD i) (aop E.P E.fns (evA (accS R sl0 allD i)) o (base + 64 * i)) (R i).v (R i).ws (R i).rs
 skp : (R i).ex = false → (R i).v = undefA ∧ (R i).ws = []
theorem RecOK.congr {E : Env} {ops : List Oper} {base : Nat} {R R' : Nat → Rec} {sl0 : ASl} {m0 : AMem} {i : Nat} {o : Oper} (h : RecOK E ops base R sl0 m0 i o) (e : ∀ j, j ≤ i → R j = R' j) : RecOK E ops base R' sl0 m0 i o := by
 have e1 : accS R' sl0 allD i = accS R sl0 allD i := accS_congr i (fun j hj => (e j (by omega)).symm) (fun _ _ => rfl)
 have e2 : accM R' m0 allD i = accM R m0 allD i := accM_congr i (fun j hj => (e j (by omega)).symm) (fun _ _ => rfl)
 have e3 := e i (Nat.le_refl _)
 exact ⟨h.op, by rw [← e3]; exact h.dst, h.dlt, by rw [← e3]; exact h.gnone, by rw [← e3, e1]; exact h.gsome, by rw [← e3, e1, e2]; exact h.run, by rw [← e3]; exact h.skp⟩
/-- What the log keeps. -/
def LgOf (R : Nat → Rec) (lg : Lg) (n : Nat) : Prop := ∀ j, j < n → (R j).ex = true → (j, (R j).rs.reverse, (R j).ws.map (·.1)) ∈ lg

theorem putA_some {E : Env} {sl : ASl} {d : Option Tmp} {v : AV} {k : ASl → Option β} {r : β} (h : putA E sl d v k = some r) : (∀ t, d = some t → t < E.n) ∧ k (consD d v sl) = some r := by
 cases d with
 | none => exact ⟨fun t e => by (cases e), h⟩
 | some d =>
  simp only [putA] at h
  cases hb : Nat.blt d E.n with
  | false => rw [hb] at h; cases h
  | true =>
   rw [hb] at h
   refine ⟨fun t e => ?_, h⟩
   injection e with e
   subst e
   exact Nat.le_of_ble_eq_true hb
theorem consD_lk {d : Option Tmp} {v : AV} {sl sl' : ASl} (h : ∀ x, lk sl x = lk sl' x) (x : Nat) : lk (consD d v sl) x = lk (consD d v sl') x := by
 cases d with
 | none => exact h x
 | some d => simp only [consD]; rw [lk_cons, lk_cons, h x]
theorem lk_app_congr {m m' ws : AMem} (h : ∀ o, lk m o = lk m' o) (o : Nat) : lk (ws ++ m) o = lk (ws ++ m') o := by rw [lk_append, lk_append, h o]

theorem runOps_tr {E : Env} {ops : List Oper} {base : Nat} {sl0 : ASl} {m0 : AMem} {κ : ASl → AMem → Lg → Option β} {r : β} : ∀ (l : List Oper) (i : Nat) (sl : ASl) (m : AMem) (lg : Lg) (R : Nat → Rec), i ≤ ops.length → l = ops.drop i →
  (∀ x, lk sl x = lk (accS R sl0 allD i) x) → (∀ o, lk m o = lk (accM R m0 allD i) o) → (∀ j, j < i → ∃ o, RecOK E ops base R sl0 m0 j o) → LgOf R lg i → runOps E ops base l i sl m lg κ = some r →
  ∃ R' slF mF lgF, (∀ x, lk slF x = lk (accS R' sl0 allD ops.length) x) ∧ (∀ o, lk mF o = lk (accM R' m0 allD ops.length) o) ∧ (∀ j, j < ops.length → ∃ o, RecOK E ops base R' sl0 m0 j o) ∧ LgOf R' lgF ops.length ∧ κ slF mF lgF = some r := by
 intro l
 induction l with
 | nil =>
  intro i sl m lg R hle hl hs hm hR hlg h
  have hi : ops.length ≤ i := by simpa using hl.symm
  obtain rfl : i = ops.length := by omega
  exact ⟨R, sl, m, lg, hs, hm, hR, hlg, h⟩
 | cons o rest ih =>
  intro i sl m lg R hle hl hs hm hR hlg h
  have hil : i < ops.length := by
   have := congrArg List.length hl
   simp at this
   omega
  have hoi : ops[i]? = some o := by
   rw [List.drop_eq_getElem_cons hil] at hl
   injection hl with h1 h2
   rw [List.getElem?_eq_getElem hil, ← h1]
  have hrest : rest = ops.drop (i + 1) := by
   rw [List.drop_eq_getElem_cons hil] at hl
   injection hl
  -- one step of whichever kind
  have step : ∀ (rec : Rec) (sl2 : ASl) (m2 : AMem) (lg2 : Lg), (let R2 : Nat → Rec := fun j => if j = i then rec else R j
    RecOK E ops base R2 sl0 m0 i o) → (∀ x, lk sl2 x = lk (consD rec.d rec.v sl) x) → (∀ o, lk m2 o = lk (rec.ws ++ m) o) → (∀ p ∈ lg, p ∈ lg2) → (rec.ex = true → (i, rec.rs.reverse, rec.ws.map (·.1)) ∈ lg2) → runOps E ops base rest (i + 1) sl2 m2 lg2 κ = some r →
    ∃ R' slF mF lgF, (∀ x, lk slF x = lk (accS R' sl0 allD ops.length) x) ∧ (∀ o, lk mF o = lk (accM R' m0 allD ops.length) o) ∧ (∀ j, j < ops.length → ∃ o, RecOK E ops base R' sl0 m0 j o) ∧ LgOf R' lgF ops.length ∧ κ slF mF lgF = some r := by
   intro rec sl2 m2 lg2 hrec hs2 hm2 hlg2 hlgi h2
   have hRlt : ∀ j, j < i → R j = (fun j => if j = i then rec else R j) j := fun j hj => by simp only; rw [if_neg (by omega)]
   refine ih (i + 1) sl2 m2 lg2 (fun j => if j = i then rec else R j) (by omega) hrest (fun x => ?_) (fun q => ?_) (fun j hj => ?_) (fun j hj hex => ?_) h2
   ·rw [hs2]
    simp only [accS, allD, if_true]
    rw [← accS_congr i hRlt (fun _ _ => rfl)]
    exact consD_lk hs x
   ·rw [hm2]
    simp only [accM, allD, if_true]
    rw [← accM_congr i hRlt (fun _ _ => rfl)]
    exact lk_app_congr hm q
   ·rcases Nat.lt_succ_iff_lt_or_eq.1 hj with hj | rfl
    ·obtain ⟨o', ho'⟩ := hR j hj
     exact ⟨o', ho'.congr (fun k hk => hRlt k (by omega))⟩
    ·exact ⟨o, hrec⟩
   ·simp only at hex ⊢
    rcases Nat.lt_succ_iff_lt_or_eq.1 hj with hj | rfl
    ·rw [if_neg (by omega)] at hex ⊢
     exact hlg2 _ (hlg j hj hex)
    ·rw [if_pos rfl] at hex ⊢
     exact hlgi hex
  have hev : ∀ (sl' : ASl), (∀ x, lk sl' x = lk sl x) → evA sl' = evA (accS R sl0 allD i) := fun sl' h' => by
   funext x
   exact evA_congr (fun t _ => by rw [h' t, hs t])
  have hacc : ∀ rec : Rec, accS (fun j => if j = i then rec else R j) sl0 allD i = accS R sl0 allD i := fun rec => accS_congr i (fun j hj => by rw [if_neg (by omega)]) (fun _ _ => rfl)
  have haccM : ∀ rec : Rec, accM (fun j => if j = i then rec else R j) m0 allD i = accM R m0 allD i := fun rec => accM_congr i (fun j hj => by rw [if_neg (by omega)]) (fun _ _ => rfl)
  have goS : ∀ (sl' : ASl) (hg1 : o.guard = none → true = true) (hg2 : ∀ j want, o.guard = some (j, want) → ∃ q t, ops[j]? = some q ∧ q.dst = some t ∧ ((∃ b, lk (accS R sl0 allD i) t = some (ac (.v (.bool b))) ∧ true = (b == want)) ∨ (lk (accS R sl0 allD i) t = some (.tup []) ∧ true = false))), (∀ x, lk sl' x = lk sl x) →
    ((aop E.P E.fns (evA sl') o (base + 64 * i)).run m [] fun v ws rs => putA E sl' o.dst v fun sl => runOps E ops base rest (i + 1) sl (ws ++ m) ((i, rs, ws.map (·.1)) :: lg) κ) = some r →
    ∃ R' slF mF lgF, (∀ x, lk slF x = lk (accS R' sl0 allD ops.length) x) ∧ (∀ o, lk mF o = lk (accM R' m0 allD ops.length) o) ∧ (∀ j, j < ops.length → ∃ o, RecOK E ops base R' sl0 m0 j o) ∧ LgOf R' lgF ops.length ∧ κ slF mF lgF = some r := by
   intro sl' hg1 hg2 hsl' h1
   obtain ⟨v, ws, rs, hex, h2⟩ := Tr.run_ex h1
   obtain ⟨hd, h3⟩ := putA_some h2
   refine step ⟨o.dst, v, ws, rs, true⟩ _ _ _ ⟨hoi, by simp, hd, by simp, ?_, ?_, by simp⟩ (fun x => consD_lk hsl' x) (fun _ => rfl) (fun p hp => List.mem_cons_of_mem _ hp) (fun _ => ?_) h3
   ·simpa only [hacc, if_true] using hg2
   ·intro _
    simp only [hacc, haccM, if_true]
    rw [hev sl' hsl'] at hex
    exact hex.other (fun q _ => (hm q).symm)
   ·simp
  have skS : ∀ (sl' : ASl) (hg1 : o.guard = none → false = true) (hg2 : ∀ j want, o.guard = some (j, want) → ∃ q t, ops[j]? = some q ∧ q.dst = some t ∧ ((∃ b, lk (accS R sl0 allD i) t = some (ac (.v (.bool b))) ∧ false = (b == want)) ∨ (lk (accS R sl0 allD i) t = some (.tup []) ∧ false = false))), (∀ x, lk sl' x = lk sl x) →
    (putA E sl' o.dst undefA fun sl => runOps E ops base rest (i + 1) sl m lg κ) = some r →
    ∃ R' slF mF lgF, (∀ x, lk slF x = lk (accS R' sl0 allD ops.length) x) ∧ (∀ o, lk mF o = lk (accM R' m0 allD ops.length) o) ∧ (∀ j, j < ops.length → ∃ o, RecOK E ops base R' sl0 m0 j o) ∧ LgOf R' lgF ops.length ∧ κ slF mF lgF = some r := by
   intro sl' hg1 hg2 hsl' h1
   obtain ⟨hd, h3⟩ := putA_some h1
   refine step ⟨o.dst, undefA, [], [], false⟩ _ _ _ ⟨hoi, by simp, hd, by simpa using hg1, ?_, by simp, by simp⟩ (fun x => consD_lk hsl' x) (fun _ => rfl) (fun p hp => hp) (fun e => by cases e) h3
   simpa only [hacc, if_true] using hg2
  simp only [runOps] at h
  split at h
  ·rename_i hg
   exact goS sl (fun _ => rfl) (fun j want e => by rw [hg] at e; cases e) (fun _ => rfl) h
  ·rename_i j want hg
   split at h
   ·cases h
   ·rename_i q hq
    split at h
    ·cases h
    ·rename_i t ht
     split at h
     ·rename_i b hb
      have hsame : ∀ bb : Bool, bb = b → ∀ x, lk ((t, ac (.v (.bool bb))) :: sl) x = lk sl x := fun bb e x => by
       rw [lk_cons]
       split
       ·rename_i e2; subst e2; rw [hb, e]; rfl
       ·rfl
      have hb' := hs t
      rw [hb] at hb'
      cases b with
      | true =>
       simp only [cond_true] at h
       cases want with
       | true => exact goS _ (fun _ => rfl) (fun j' want' e => by rw [hg] at e; injection e with e; injection e with e1 e2; subst e1; subst e2; exact ⟨q, t, hq, ht, .inl ⟨true, hb'.symm, rfl⟩⟩) (hsame true rfl) h
       | false => exact skS _ (fun e => by rw [hg] at e; cases e) (fun j' want' e => by rw [hg] at e; injection e with e; injection e with e1 e2; subst e1; subst e2; exact ⟨q, t, hq, ht, .inl ⟨true, hb'.symm, rfl⟩⟩) (hsame true rfl) h
      | false =>
       simp only [cond_false] at h
       cases want with
       | true => exact skS _ (fun e => by rw [hg] at e; cases e) (fun j' want' e => by rw [hg] at e; injection e with e; injection e with e1 e2; subst e1; subst e2; exact ⟨q, t, hq, ht, .inl ⟨false, hb'.symm, rfl⟩⟩) (hsame false rfl) h
       | false => exact goS _ (fun _ => rfl) (fun j' want' e => by rw [hg] at e; injection e with e; injection e with e1 e2; subst e1; subst e2; exact ⟨q, t, hq, ht, .inl ⟨false, hb'.symm, rfl⟩⟩) (hsame false rfl) h
     ·rename_i hb
      have hb' := hs t
      rw [hb] at hb'
      exact skS sl (fun e => by rw [hg] at e; cases e) (fun j' want' e => by rw [hg] at e; injection e with e; injection e with e1 e2; subst e1; subst e2; exact ⟨q, t, hq, ht, .inr ⟨hb'.symm, rfl⟩⟩) (fun _ => rfl) h
     ·cases h

/-! ### in the text's order -/
theorem seq_ok {E : Env} (hfns : ∀ g d, (g, d) ∈ E.fns → FunOK E.P g d) {ops : List Oper} {base : Nat} {κ : ASl → AMem → Lg → Option β} {r : β} {Q : Exit → Act → World → Prop} : ∀ (l : List Oper) (i : Nat) (sl : ASl) (m : AMem) (lg : Lg) (I : Imm) (π : Pi) (a : Act) (w : World), runOps E ops base l i sl m lg κ = some r →
  SlR π I sl a → SA B I π (lk m) w → a.tmps.size = E.n →
  (∀ sl' m' lg' I' π' a' w', κ sl' m' lg' = some r → π.le π' → I.le I' → SlR π' I' sl' a' → SA B I' π' (lk m') w' → a'.tmps.size = a.tmps.size → a'.defers = a.defers → (∀ t, (∀ o ∈ l, o.dst ≠ some t) → a'.tmps[t]? = a.tmps[t]?) → Q .normal a' w') → wpList E.P ops.toArray Q l a w := by
 intro l
 induction l with
 | nil =>
  intro i sl m lg I π a w h hs hm hn hk
  exact hk sl m lg I π a w h (Pi.le_refl _) (Imm.le_refl _) hs hm rfl rfl (fun _ _ => rfl)
 | cons o rest ih =>
  intro i sl m lg I π a w h hs hm hn hk
  -- behind the operation
  have next : ∀ (v : AV) (y : Value) (sl' : ASl) (ws : AMem) (lg' : Lg) (I' : Imm) (π' : Pi) (w' : World), (∀ x, lk sl' x = lk sl x) → (∀ t, o.dst = some t → t < E.n) → runOps E ops base rest (i + 1) (consD o.dst v sl') (ws ++ m) lg' κ = some r → π.le π' → I.le I' → SA B I' π' (lk (ws ++ m)) w' → relV π' I' v y → wpList E.P ops.toArray Q rest (a.put o.dst y) w' := by
   intro v y sl' ws lg' I' π' w' hsl hd h2 hπ hI hm' hv
   refine ih (i + 1) _ _ _ I' π' _ w' h2 (((hs.congr hsl).ext hπ hI).put hv (fun t e => by rw [hn]; exact hd t e)) hm' (by rw [put_size]; exact hn) (fun sl2 m2 lg2 I2 π2 a2 w2 k1 k2 k3 k4 k5 k6 k7 k8 => ?_)
   refine hk sl2 m2 lg2 I2 π2 a2 w2 k1 (Pi.le_trans hπ k2) (Imm.le_trans hI k3) k4 k5 (by rw [k6, put_size]) (by rw [k7, put_defers]) (fun t ht => ?_)
   rw [k8 t (fun o' ho' => ht o' (List.mem_cons_of_mem _ ho')), put_other a y (ht o List.mem_cons_self)]
  have goS : ∀ sl' : ASl, (∀ x, lk sl' x = lk sl x) → ((aop E.P E.fns (evA sl') o (base + 64 * i)).run m [] fun v ws rs => putA E sl' o.dst v fun sl => runOps E ops base rest (i + 1) sl (ws ++ m) ((i, rs, ws.map (·.1)) :: lg) κ) = some r → o.wp E.P a w (fun a' w' => wpList E.P ops.toArray Q rest a' w') Q := by
   intro sl' hsl h1
   obtain ⟨v, ws, rs, hex, h2⟩ := Tr.run_ex h1
   obtain ⟨hd, h3⟩ := putA_some h2
   refine Does.wp (aop_ok hfns hm (fun x _ av hx => (hs.congr hsl).eval x av hx) hex) (fun y w' ⟨π', I', k1, k2, k3, k4⟩ => ?_)
   exact next v y sl' ws _ I' π' w' hsl hd h3 k1 k2 k3 k4
  have skS : ∀ sl' : ASl, (∀ x, lk sl' x = lk sl x) → (putA E sl' o.dst undefA fun sl => runOps E ops base rest (i + 1) sl m lg κ) = some r → wpList E.P ops.toArray Q rest (a.put o.dst undef) w := by
   intro sl' hsl h1
   obtain ⟨hd, h3⟩ := putA_some h1
   exact next undefA undef sl' [] lg I π w hsl hd h3 (Pi.le_refl _) (Imm.le_refl _) hm ⟨[], rfl, trivial⟩
  simp only [wpList]
  simp only [runOps] at h
  split at h
  ·rename_i hg
   rw [if_pos (by unfold Region.wanted; rw [hg])]
   exact .inl (goS sl (fun _ => rfl) h)
  ·rename_i j want hg
   split at h
   ·cases h
   ·rename_i q hq
    split at h
    ·cases h
    ·rename_i t ht
     split at h
     ·rename_i b hb
      obtain ⟨y, hy, hrel⟩ := hs t _ hb
      have hy2 : a.tmps[t]? = some (.bool b) := by rw [hy, hrel.1]
      have hwant := wanted_bool hg hq ht hy2
      have hsame : ∀ bb : Bool, bb = b → ∀ x, lk ((t, ac (.v (.bool bb))) :: sl) x = lk sl x := fun bb e x => by
       rw [lk_cons]
       split
       ·rename_i e2; subst e2; rw [hb, e]; rfl
       ·rfl
      cases b with
      | true =>
       simp only [cond_true] at h
       cases want with
       | true => rw [if_pos (by rw [hwant]; rfl)]; exact .inl (goS _ (hsame true rfl) h)
       | false => rw [if_neg (by rw [hwant]; decide)]; exact skS _ (hsame true rfl) h
      | false =>
       simp only [cond_false] at h
       cases want with
       | true => rw [if_neg (by rw [hwant]; decide)]; exact skS _ (hsame false rfl) h
       | false => rw [if_pos (by rw [hwant]; rfl)]; exact .inl (goS _ (hsame false rfl) h)
     ·rename_i hb
      obtain ⟨y, hy, ys, hrel, _⟩ := hs t _ hb
      rw [hrel] at hy
      rw [if_neg (by rw [wanted_undef hg hq ht hy]; decide)]
      exact skS sl (fun _ => rfl) h
     ·cases h
end
end Go.Proofs.YtijhdekfbjafgaaGreat.AM
namespace Go.Proofs.YtijhdekfbjafgaaGreat.AM
open Go Go.RowKit Go.Proofs.YtijhdekfbjafgaaGreat.RW

section
variable {β : Type} {P : Program} {B : Base} {I : Imm} {π : Pi} {w : World}

theorem lk_consD {d : Option Tmp} {v : AV} {sl : ASl} {x : Nat} : lk (consD d v sl) x = if d = some x then some v else lk sl x := by
 cases d with
 | none => simp [consD]
 | some d =>
  simp only [consD]
  rw [lk_cons]
  by_cases h : d = x
  ·rw [if_pos h, if_pos (by rw [h])]
  ·rw [if_neg h, if_neg (fun e => h (by injection e))]
theorem lk_keys {l : AMem} {q : Nat} (h : q ∉ l.map (·.1)) : lk l q = none := by
 induction l with
 | nil => rfl
 | cons p l ih =>
  obtain ⟨j, a⟩ := p
  simp only [List.map_cons, List.mem_cons, not_or] at h
  rw [lk_cons, if_neg (fun e => h.1 e.symm)]
  exact ih h.2
theorem any_mem {l : List Nat} {q : Nat} (h : l.any (Nat.beq q) = false) : q ∉ l := by
 intro hm
 rw [List.any_eq_false] at h
 exact h q hm (by simp)

structure Drw (E : Env) (ops : List Oper) (base : Nat) (R : Nat → Rec) (sl0 : ASl) (m0 : AMem) : Prop where
 ok : ∀ j, j < ops.length → ∃ o, RecOK E ops base R sl0 m0 j o
 rd : ∀ i o, ops[i]? = some o → readsOk ops (ancs ops []) ops.length i o = true
 low : ∀ i o, ops[i]? = some o → ∀ e ∈ o.after, Region.binds .any e = true → e.on < i
 dst : ∀ i j, i < ops.length → j < ops.length → i ≠ j → ∀ d, (R i).d = some d → (R j).d ≠ some d
 conf : ∀ i j, i < ops.length → j < i → (R i).ex = true → (R j).ex = true → behind (ancs ops []) i j = true ∨ ((∀ q ∈ (R i).ws.map (·.1), q ∉ (R j).rs ∧ q ∉ (R j).ws.map (·.1)) ∧ ∀ q ∈ (R j).ws.map (·.1), q ∉ (R i).rs)

theorem Drw.of {E : Env} {ops : List Oper} {base : Nat} {R : Nat → Rec} {sl0 : ASl} {m0 : AMem} {lg : Lg} (hok : ∀ j, j < ops.length → ∃ o, RecOK E ops base R sl0 m0 j o) (hlg : LgOf R lg ops.length) (hd : drawOk ops (ancs ops []) ops.length = true) (hl : lgOk ops lg = true) : Drw E ops base R sl0 m0 := by
 unfold drawOk at hd
 simp only [Bool.and_eq_true, decide_eq_true_eq, List.all_eq_true, List.mem_range] at hd
 obtain ⟨⟨⟨_, hops⟩, hdst⟩, _⟩ := hd
 have hop : ∀ i o, ops[i]? = some o → readsOk ops (ancs ops []) ops.length i o = true ∧ ∀ e ∈ o.after, Region.binds .any e = true → e.on < i := fun i o ho => by
  have := hops i (List.getElem?_eq_some_iff.1 ho).1
  rw [ho] at this
  simp only [Bool.and_eq_true, List.all_eq_true, Bool.or_eq_true, Bool.not_eq_true', decide_eq_true_eq] at this
  refine ⟨this.1.1, fun e he hb => ?_⟩
  rcases this.2 e (by simpa using he) with h1 | h1
  ·rw [hb] at h1; cases h1
  ·exact h1
 refine ⟨hok, fun i o ho => (hop i o ho).1, fun i o ho => (hop i o ho).2, fun i j hi hj hne d hdi hdj => ?_, fun i j hi hji hei hej => ?_⟩
 ·obtain ⟨o, ho⟩ := hok i hi
  obtain ⟨o', ho'⟩ := hok j hj
  unfold dstsOk at hdst
  simp only [List.all_eq_true, List.mem_range, Bool.or_eq_true, beq_iff_eq, bne_iff_ne] at hdst
  have h1 : dstOf ops i = some d := by unfold dstOf; rw [ho.op]; show o.dst = some d; rw [← ho.dst]; exact hdi
  have h2 : dstOf ops j = some d := by unfold dstOf; rw [ho'.op]; show o'.dst = some d; rw [← ho'.dst]; exact hdj
  rcases hdst i hi j hj with (h3 | h3) | h3
  ·exact hne h3
  ·rw [h1] at h3; cases h3
  ·exact h3 (h1.trans h2.symm)
 ·have h1 := hlg i hi hei
  have h2 := hlg j (by omega) hej
  unfold lgOk at hl
  simp only [List.all_eq_true] at hl
  have h3 := hl _ h2 _ h1
  rw [show Nat.blt j i = true from Nat.ble_eq_true_of_le hji] at h3
  simp only [cond_true, Bool.or_eq_true, Bool.and_eq_true, List.all_eq_true, Bool.not_eq_true'] at h3
  rcases h3 with h3 | ⟨h3, h4⟩
  ·exact .inl h3
  ·refine .inr ⟨fun q hq => ?_, fun q hq => ?_⟩
   ·have := h3 q hq
    refine ⟨fun hm => any_mem this.1 (by simpa using hm), any_mem this.2⟩
   ·exact fun hm => any_mem (h4 q hq) (by simpa using hm)

section
variable {E : Env} {ops : List Oper} {base : Nat} {R : Nat → Rec} {sl0 : ASl} {m0 : AMem} (H : Drw E ops base R sl0 m0) {D : Nat → Bool} {i : Nat} {o : Oper}
include H
theorem Drw.slot (ho : ops[i]? = some o) (hi : D i = false) (hb : ∀ j, behind (ancs ops []) i j = true → D j = true) (hf : ∀ j, j < ops.length → behind (ancs ops []) j i = true → D j = false) {x : Nat} (hx : x ∈ readTmps ops o) : lk (accS R sl0 D ops.length) x = lk (accS R sl0 allD i) x := by
 have hil : i < ops.length := (List.getElem?_eq_some_iff.1 ho).1
 have hr := H.rd i o ho
 unfold readsOk at hr
 rw [List.all_eq_true] at hr
 have hrx := hr x hx
 rw [List.all_eq_true] at hrx
 have key : ∀ k, k ≤ ops.length → lk (accS R sl0 D k) x = lk (accS R sl0 allD (min k i)) x := by
  intro k
  induction k with
  | zero => intro _; rw [Nat.zero_min]; rfl
  | succ k ih =>
   intro hk
   have ihk := ih (by omega)
   obtain ⟨ok, hok⟩ := H.ok k (by omega)
   have hdk : dstOf ops k = (R k).d := by unfold dstOf; rw [hok.op]; exact hok.dst.symm
   have h1 := hrx k (List.mem_range.2 (by omega))
   simp only [accS]
   by_cases hki : k < i
   ·rw [show min (k + 1) i = k + 1 by omega]
    rw [show min k i = k by omega] at ihk
    simp only [accS, allD, if_true]
    rw [lk_consD]
    by_cases hd : (R k).d = some x
    ·rw [hdk, hd] at h1
     simp only [bne_self_eq_false, Bool.false_or, if_pos hki] at h1
     rw [if_pos (hb k h1), lk_consD, if_pos hd, if_pos hd]
    ·rw [if_neg hd]
     split
     ·rw [lk_consD, if_neg hd]; exact ihk
     ·exact ihk
   ·rw [show min (k + 1) i = i by omega]
    rw [show min k i = i by omega] at ihk
    by_cases hd : (R k).d = some x
    ·rw [hdk, hd] at h1
     simp only [bne_self_eq_false, Bool.false_or, if_neg hki] at h1
     rw [if_neg (by rw [hf k (by omega) h1]; decide)]
     exact ihk
    ·split
     ·rw [lk_consD, if_neg hd]; exact ihk
     ·exact ihk
 have := key ops.length (Nat.le_refl _)
 rwa [show min ops.length i = i by omega] at this
theorem Drw.wsNone {k : Nat} (hk : k < ops.length) (h : (R k).ex = false) : (R k).ws = [] := by
 obtain ⟨ok, hok⟩ := H.ok k hk
 exact (hok.skp h).2
theorem Drw.mem (hil : i < ops.length) (hi : D i = false) (hex : (R i).ex = true) (hb : ∀ j, behind (ancs ops []) i j = true → D j = true) (hf : ∀ j, j < ops.length → behind (ancs ops []) j i = true → D j = false) {q : Nat} (hq : q ∈ (R i).rs) : lk (accM R m0 D ops.length) q = lk (accM R m0 allD i) q := by
 have key : ∀ k, k ≤ ops.length → lk (accM R m0 D k) q = lk (accM R m0 allD (min k i)) q := by
  intro k
  induction k with
  | zero => intro _; rw [Nat.zero_min]; rfl
  | succ k ih =>
   intro hk
   have ihk := ih (by omega)
   simp only [accM]
   by_cases hki : k < i
   ·rw [show min (k + 1) i = k + 1 by omega]
    rw [show min k i = k by omega] at ihk
    simp only [accM, allD, if_true]
    rw [lk_append]
    by_cases hm : q ∈ (R k).ws.map (·.1)
    ·have hek : (R k).ex = true := by
      cases he : (R k).ex with
      | true => rfl
      | false => rw [H.wsNone (by omega) he] at hm; simp at hm
     rcases H.conf i k hil hki hex hek with h1 | ⟨_, h1⟩
     ·rw [if_pos (hb k h1), lk_append, ihk]
     ·exact absurd hq (h1 q hm)
    ·rw [lk_keys hm]
     split
     ·rw [lk_append, lk_keys hm]; exact ihk
     ·exact ihk
   ·rw [show min (k + 1) i = i by omega]
    rw [show min k i = i by omega] at ihk
    by_cases hm : q ∈ (R k).ws.map (·.1)
    ·have hDk : D k = false := by
      by_cases e : k = i
      ·rw [e]; exact hi
      ·have hek : (R k).ex = true := by
        cases he : (R k).ex with
        | true => rfl
        | false => rw [H.wsNone (by omega) he] at hm; simp at hm
       rcases H.conf k i (by omega) (by omega) hek hex with h1 | ⟨h1, _⟩
       ·exact hf k (by omega) h1
       ·exact absurd hq (h1 q hm).1
     rw [if_neg (by rw [hDk]; decide)]
     exact ihk
    ·split
     ·rw [lk_append, lk_keys hm]; exact ihk
     ·exact ihk
 have := key ops.length (Nat.le_refl _)
 rwa [show min ops.length i = i by omega] at this
theorem Drw.slot' {D' : Nat → Bool} (hil : i < ops.length) (hi : D i = false) (hD : ∀ j, j ≠ i → D' j = D j) (hDi : D' i = true) (x : Nat) : lk (accS R sl0 D' ops.length) x = lk (consD (R i).d (R i).v (accS R sl0 D ops.length)) x := by
 have key : ∀ k, k ≤ ops.length → lk (accS R sl0 D' k) x = if i < k then lk (consD (R i).d (R i).v (accS R sl0 D k)) x else lk (accS R sl0 D k) x := by
  intro k
  induction k with
  | zero => intro _; rw [if_neg (by omega)]; rfl
  | succ k ih =>
   intro hk
   have ihk := ih (by omega)
   simp only [accS]
   by_cases e : k = i
   ·subst e
    rw [if_neg (show ¬ k < k by omega)] at ihk
    rw [if_pos hDi, if_pos (show k < k + 1 by omega), hi, if_neg (show ¬ false = true by decide), lk_consD, lk_consD, ihk]
   ·rw [hD k e]
    by_cases hki : i < k
    ·rw [if_pos hki] at ihk
     rw [if_pos (show i < k + 1 by omega)]
     split
     ·rw [lk_consD, lk_consD, lk_consD, ihk, lk_consD]
      by_cases h1 : (R k).d = some x
      ·rw [if_pos h1, if_pos h1]
       by_cases h2 : (R i).d = some x
       ·exact absurd h1 (H.dst i k hil (by omega) (fun e2 => e e2.symm) x h2)
       ·rw [if_neg h2]
      ·rw [if_neg h1, if_neg h1]
     ·exact ihk
    ·rw [if_neg hki] at ihk
     rw [if_neg (show ¬ i < k + 1 by omega)]
     split
     ·rw [lk_consD, lk_consD, ihk]
     ·exact ihk
 have := key ops.length (Nat.le_refl _)
 rwa [if_pos hil] at this
theorem Drw.mem' {D' : Nat → Bool} (hil : i < ops.length) (hi : D i = false) (hex : (R i).ex = true ∨ (R i).ws = []) (hf : ∀ j, j < ops.length → behind (ancs ops []) j i = true → D j = false) (hD : ∀ j, j ≠ i → D' j = D j) (hDi : D' i = true) (q : Nat) : lk (accM R m0 D' ops.length) q = lk ((R i).ws ++ accM R m0 D ops.length) q := by
 have key : ∀ k, k ≤ ops.length → lk (accM R m0 D' k) q = if i < k then lk ((R i).ws ++ accM R m0 D k) q else lk (accM R m0 D k) q := by
  intro k
  induction k with
  | zero => intro _; rw [if_neg (by omega)]; rfl
  | succ k ih =>
   intro hk
   have ihk := ih (by omega)
   simp only [accM]
   by_cases e : k = i
   ·subst e
    rw [if_neg (show ¬ k < k by omega)] at ihk
    rw [if_pos hDi, if_pos (show k < k + 1 by omega), hi, if_neg (show ¬ false = true by decide), lk_append, lk_append, ihk]
   ·rw [hD k e]
    by_cases hki : i < k
    ·rw [if_pos hki] at ihk
     rw [if_pos (show i < k + 1 by omega)]
     split
     ·rename_i hDk
      rw [lk_append, ihk, lk_append, lk_append, lk_append]
      by_cases h1 : q ∈ (R k).ws.map (·.1)
      ·by_cases h2 : q ∈ (R i).ws.map (·.1)
       ·exfalso
        have hei : (R i).ex = true := by
         rcases hex with h3 | h3
         ·exact h3
         ·rw [h3] at h2; simp at h2
        have hek : (R k).ex = true := by
         cases he : (R k).ex with
         | true => rfl
         | false => rw [H.wsNone (by omega) he] at h1; simp at h1
        rcases H.conf k i (by omega) hki hek hei with h3 | ⟨h3, _⟩
        ·rw [hf k (by omega) h3] at hDk; cases hDk
        ·exact (h3 q h1).2 h2
       ·rw [lk_keys h2]; rfl
      ·rw [lk_keys h1]; rfl
     ·exact ihk
    ·rw [if_neg hki] at ihk
     rw [if_neg (show ¬ i < k + 1 by omega)]
     split
     ·rw [lk_append, lk_append, ihk]
     ·exact ihk
 have := key ops.length (Nat.le_refl _)
 rwa [if_pos hil] at this
end

theorem drawn_ok {E : Env} (hfns : ∀ g d, (g, d) ∈ E.fns → FunOK E.P g d) {ops : List Oper} {base : Nat} {R : Nat → Rec} {sl0 : ASl} {m0 : AMem} (H : Drw E ops base R sl0 m0) {Q : Exit → Act → World → Prop} {a0 : Act}
  (hk : ∀ I' π' a' w', SlR π' I' (accS R sl0 allD ops.length) a' → SA B I' π' (lk (accM R m0 allD ops.length)) w' → π.le π' → I.le I' → a'.tmps.size = E.n → a'.defers = a0.defers → (∀ t, (∀ o ∈ ops, o.dst ≠ some t) → a'.tmps[t]? = a0.tmps[t]?) → Q .normal a' w') :
  ∀ (fuel : Nat) (listed : Array Bool) (a : Act) (w : World) (I' : Imm) (π' : Pi), listed.size = ops.length → Closed ops (lstOf listed) → SlR π' I' (accS R sl0 (fun j => listed.getD j false) ops.length) a → SA B I' π' (lk (accM R m0 (fun j => listed.getD j false) ops.length)) w →
   π.le π' → I.le I' → a.tmps.size = E.n → a.defers = a0.defers → (∀ t, (∀ o ∈ ops, o.dst ≠ some t) → a.tmps[t]? = a0.tmps[t]?) → cntF (fun i => !listed.getD i false) ops.length ≤ fuel → wpAny E.P .any ops.toArray Q fuel listed a w := by
 have hgt : ∀ (l : Array Bool), l.size = ops.length → ∀ i, i < ops.length → l.getD i true = l.getD i false := fun l hl i hi => by
  rw [Array.getD_eq_getD_getElem?, Array.getD_eq_getD_getElem?, Array.getElem?_eq_getElem (by rw [hl]; exact hi)]
  rfl
 have fin : ∀ (listed : Array Bool) (a : Act) (w : World) (I' : Imm) (π' : Pi), (∀ i, i < ops.length → listed.getD i false = true) → SlR π' I' (accS R sl0 (fun j => listed.getD j false) ops.length) a → SA B I' π' (lk (accM R m0 (fun j => listed.getD j false) ops.length)) w → π.le π' → I.le I' → a.tmps.size = E.n → a.defers = a0.defers → (∀ t, (∀ o ∈ ops, o.dst ≠ some t) → a.tmps[t]? = a0.tmps[t]?) → Q .normal a w := by
  intro listed a w I' π' hall hs hm h1 h2 h3 h4 h5
  rw [accS_congr ops.length (fun _ _ => rfl) (D' := allD) (fun j hj => hall j hj)] at hs
  rw [accM_congr ops.length (fun _ _ => rfl) (D' := allD) (fun j hj => hall j hj)] at hm
  exact hk I' π' a w hs hm h1 h2 h3 h4 h5
 have noready : ∀ (listed : Array Bool), listed.size = ops.length → Region.ready .any ops.toArray listed = [] → ∀ i, i < ops.length → listed.getD i false = true := by
  intro listed hsz hr
  have key : ∀ n i, i < n → i < ops.length → listed.getD i false = true := by
   intro n
   induction n with
   | zero => intro i hi; omega
   | succ n ih =>
    intro i hi hil
    rcases Nat.lt_succ_iff_lt_or_eq.1 hi with hi | rfl
    ·exact ih i hi hil
    ·cases hc : listed.getD i false with
     | true => rfl
     | false =>
      exfalso
      have ho : ops[i]? = some ops[i] := List.getElem?_eq_getElem hil
      have : i ∈ Region.ready .any ops.toArray listed := by
       refine mem_ready.2 ⟨by rw [hgt listed hsz i hil]; exact hc, ops[i], by simp, fun e he hb => ?_⟩
       have hlt := H.low i _ ho e he hb
       exact ih e.on hlt (by omega)
      rw [hr] at this
      cases this
  exact fun i hi => key (i + 1) i (by omega) hi
 intro fuel
 induction fuel with
 | zero =>
  intro listed a w I' π' hsz hcl hs hm h1 h2 h3 h4 h5 hcnt
  have hall : ∀ i, i < ops.length → listed.getD i false = true := fun i hi => by
   have := cntF_zero (f := fun i => !listed.getD i false) ops.length (Nat.le_zero.1 hcnt) i hi
   simpa using this
  refine ⟨?_, fin listed a w I' π' hall hs hm h1 h2 h3 h4 h5⟩
  rw [List.eq_nil_iff_forall_not_mem]
  intro j hj
  obtain ⟨k1, o, ho, _⟩ := mem_ready.1 hj
  have hjl : j < ops.length := by
   have := (Array.getElem?_eq_some_iff.1 ho).1
   simpa using this
  rw [hgt listed hsz j hjl, hall j hjl] at k1
  cases k1
 | succ fuel ih =>
  intro listed a w I' π' hsz hcl hs hm h1 h2 h3 h4 h5 hcnt
  refine ⟨fun hr => fin listed a w I' π' (noready listed hsz hr) hs hm h1 h2 h3 h4 h5, fun i hi => ?_⟩
  obtain ⟨k1, o, hoi, k2⟩ := mem_ready.1 hi
  have ho : ops[i]? = some o := by simpa using hoi
  have hil : i < ops.length := (List.getElem?_eq_some_iff.1 ho).1
  have hni : listed.getD i false = false := by rw [← hgt listed hsz i hil]; exact k1
  have hed : ∀ e ∈ o.after, Region.binds .any e = true → lstOf listed e.on := fun e he hb => k2 e he hb
  have hb : ∀ j, behind (ancs ops []) i j = true → listed.getD j false = true := fun j hj => behind_listed hcl rfl i j hj (fun o' ho' => by rw [ho] at ho'; injection ho' with ho'; subst ho'; exact hed)
  have hf : ∀ j, j < ops.length → behind (ancs ops []) j i = true → listed.getD j false = false := fun j _ hj => by
   cases hc : listed.getD j false with
   | false => rfl
   | true =>
    have : lstOf listed i := behind_listed hcl rfl j i hj (fun o' ho' => hcl j o' hc ho')
    unfold lstOf at this
    rw [hni] at this
    cases this
  obtain ⟨o', hok⟩ := H.ok i hil
  have hoo : o' = o := by
   have := hok.op
   rw [ho] at this
   injection this with this
   exact this.symm
  subst hoo
  have hisz : i < listed.size := by omega
  have hcl' : Closed ops (lstOf (listed.setIfInBounds i true)) := fun j o2 hj ho2 e he hb2 => by
   rw [lstOf_set hisz] at hj ⊢
   rcases hj with hj | rfl
   ·exact .inl (hcl j o2 hj ho2 e he hb2)
   ·rw [ho] at ho2
    injection ho2 with ho2
    subst ho2
    exact .inl (hed e he hb2)
  have hDne : ∀ j, j ≠ i → (listed.setIfInBounds i true).getD j false = listed.getD j false := fun j hj => by
   simp only [Array.getD_eq_getD_getElem?, Array.getElem?_setIfInBounds_ne (fun h => hj h.symm)]
  have hDi : (listed.setIfInBounds i true).getD i false = true := (lstOf_set hisz).2 (.inr rfl)
  have hcnt' : cntF (fun j => !(listed.setIfInBounds i true).getD j false) ops.length ≤ fuel := by
   have : cntF (fun j => !(listed.setIfInBounds i true).getD j false) ops.length < cntF (fun j => !listed.getD j false) ops.length := by
    refine cntF_lt (i := i) (by rw [hni]; rfl) (by rw [hDi]; rfl) (fun j hj => by rw [hDne j hj]) _ hil
   omega
  have hslot : ∀ x ∈ readTmps ops o', lk (accS R sl0 (fun j => listed.getD j false) ops.length) x = lk (accS R sl0 allD i) x := fun x hx => H.slot ho hni hb hf hx
  -- behind the operation
  have next : ∀ (y : Value) (w' : World) (I2 : Imm) (π2 : Pi), ((R i).ex = true ∨ (R i).ws = []) → π'.le π2 → I'.le I2 → SA B I2 π2 (lk ((R i).ws ++ accM R m0 (fun j => listed.getD j false) ops.length)) w' → relV π2 I2 (R i).v y → wpAny E.P .any ops.toArray Q fuel (listed.setIfInBounds i true) (a.put o'.dst y) w' := by
   intro y w' I2 π2 hex q1 q2 q3 q4
   refine ih _ _ w' I2 π2 (by simp [hsz]) hcl' ?_ (q3.congr (fun q => (H.mem' hil hni hex hf hDne hDi q).symm)) (Pi.le_trans h1 q1) (Imm.le_trans h2 q2) (by rw [put_size]; exact h3) (by rw [put_defers]; exact h4) (fun t ht => ?_) hcnt'
   ·have := (hs.ext q1 q2).put (d := o'.dst) q4 (fun t e => by rw [h3]; exact hok.dlt t e)
    exact this.congr (fun x => by rw [H.slot' hil hni hDne hDi x, hok.dst])
   ·rw [put_other a y (ht o' (List.mem_of_getElem? ho))]
    exact h5 t ht
  have hwant : Region.wanted o' (yielded ops.toArray a.tmps) = (R i).ex := by
   cases hg : o'.guard with
   | none => unfold Region.wanted; rw [hg, hok.gnone hg]
   | some jw =>
    obtain ⟨j, want⟩ := jw
    obtain ⟨q, t, e1, e2, e3⟩ := hok.gsome j want hg
    have hxt : t ∈ readTmps ops o' := by
     unfold readTmps guardTmp dstOf
     rw [hg]
     simp only [e1, Option.bind_some, e2]
     exact List.mem_append_right _ (by simp)
    rcases e3 with ⟨b, e3, e4⟩ | ⟨e3, e4⟩
    ·rw [← hslot t hxt] at e3
     obtain ⟨y, hy, hrel⟩ := hs t _ e3
     rw [wanted_bool hg e1 e2 (by rw [hy, hrel.1]), e4]
    ·rw [← hslot t hxt] at e3
     obtain ⟨y, hy, ys, hrel, _⟩ := hs t _ e3
     rw [hrel] at hy
     rw [wanted_undef hg e1 e2 hy, e4]
  unfold wpOp
  rw [show ops.toArray[i]? = some o' from hoi]
  simp only
  cases hex : (R i).ex with
  | true =>
   rw [if_pos (by rw [hwant, hex])]
   refine .inl ?_
   have hrun := (hok.run hex).other (m' := accM R m0 (fun j => listed.getD j false) ops.length) (fun q hq => H.mem hil hni hex hb hf hq)
   refine Does.wp (aop_ok hfns hm (σ := a.eval) (fun x hx av hav => ?_) hrun) (fun y w' ⟨π2, I2, q1, q2, q3, q4⟩ => next y w' I2 π2 (.inl hex) q1 q2 q3 q4)
   refine hs.eval x av ?_
   rw [← hav]
   exact evA_congr (fun t et => hslot t (by
    unfold readTmps
    refine List.mem_append_left _ (List.mem_filterMap.2 ⟨x, by simpa using hx, ?_⟩)
    rw [et]))
  | false =>
   rw [if_neg (by rw [hwant, hex]; decide)]
   obtain ⟨e1, e2⟩ := hok.skp hex
   exact next undef w I' π' (.inr e2) (Pi.le_refl _) (Imm.le_refl _) (by rw [e2]; exact hm) (by rw [e1]; exact ⟨[], rfl, trivial⟩)
end
end Go.Proofs.YtijhdekfbjafgaaGreat.AM
namespace Go.Proofs.YtijhdekfbjafgaaGreat.AM
open Go Go.RowKit Go.Proofs.YtijhdekfbjafgaaGreat.RW

/-- A piece of code does what its contract tells. -/
def FragOKC (C : (Exit → Act → World → Prop) → Act → World → Prop) (n : Nat) (c : Code) (d : FragD) : Prop :=
 ∀ x y q z, d.g x = some y → outD d.outs y = some ⟨q, z⟩ → ∀ (I : Imm) (π : Pi) (a : Act) (w : World),
  SlR π I (instSl id d.pin.sl x.1) a → SA ⟨w, fpS π (lk (instOb id d.pin.ob 0 x.2)), I⟩ I π (lk (instOb id d.pin.ob 0 x.2)) w → a.tmps.size = n → ∀ Q : Exit → Act → World → Prop,
  (∀ I' π' a' w', π.le π' → I.le I' → SlR π' I' (instSl id q.p.sl (q.of z).1) a' → SA ⟨w, fpS π (lk (instOb id d.pin.ob 0 x.2)), I⟩ I' π' (lk (instOb id q.p.ob 0 (q.of z).2 ++ instOb id d.pin.ob 0 x.2)) w' → a'.tmps.size = a.tmps.size → a'.defers = a.defers → (∀ t, t ∉ wr c → a'.tmps[t]? = a.tmps[t]?) → Q (ofK q.k) a' w') →
  C Q a w
def FragOK (P : Program) (n : Nat) (c : Code) (d : FragD) : Prop := FragOKC (fun Q a w => c.wp P Q a w) n c d
/-- The rounds of a loop, by a contract. -/
def FragOKL (k : Nat) (P : Program) (n : Nat) (b : Code) (d : FragD) : Prop := FragOKC (fun Q a w => Code.rounds P b Q k a w) n (.loop b) d

section
variable {β : Type} {P : Program} {B : Base} {I : Imm} {π : Pi} {w : World}

theorem SA.drew {M : Nat → Option AObj} (h : SA B I π M w) : SA B I π M { w with drawn := w.drawn + 1 } :=
 ⟨⟨h.evo.os, h.evo.tape, h.evo.output, h.evo.size, h.evo.blk⟩, h.dom, fun o => (h.res o).mono (Pi.le_refl _) (Imm.le_refl _) (fun _ _ => rfl), h.own, h.dis, fun a v ha => (look_of_block (w := w) rfl).trans (h.im a v ha), h.imX, h.le, h.inew⟩
theorem SA.restart {M : Nat → Option AObj} (h : SA B I π M w) : SA ⟨w, fpS π M, I⟩ I π M w :=
 ⟨Evo.refl _ _, h.dom, h.res, fun o k hk => ⟨(h.own o k hk).1, .inr ⟨o, hk⟩⟩, h.dis, h.im, h.imX, Imm.le_refl _, fun _ _ h => .inl h⟩
theorem SA.comp {M M' : Nat → Option AObj} {I' : Imm} {π' : Pi} {w' : World} (h : SA B I π M w) (k : SA ⟨w, fpS π M, I⟩ I' π' M' w') : SA B I' π' M' w' := by
 have hS : ∀ q, fpS π M q → B.w0.heap.size ≤ q ∨ B.S q := fun q ⟨i, hi⟩ => (h.own i q hi).2
 refine ⟨⟨k.evo.os.trans h.evo.os, k.evo.tape.trans h.evo.tape, k.evo.output.trans h.evo.output, Nat.le_trans h.evo.size k.evo.size, fun q hq hn => ?_⟩, k.dom, k.res, fun o q hq => ?_, k.dis, k.im, k.imX, Imm.le_trans h.le k.le, fun a v ha => ?_⟩
 ·rw [k.evo.blk q (Nat.lt_of_lt_of_le hq h.evo.size) (fun hf => by
   rcases hS q hf with h1 | h1
   ·omega
   ·exact hn h1)]
  exact h.evo.blk q hq hn
 ·have := k.own o q hq
  refine ⟨this.1, ?_⟩
  rcases this.2 with h1 | h1
  ·exact .inl (Nat.le_trans h.evo.size h1)
  ·exact hS q h1
 ·rcases k.inew a v ha with h1 | h1 | h1
  ·exact h.inew a v h1
  ·exact .inr (.inl (Nat.le_trans h.evo.size h1))
  ·exact .inr (hS _ h1)

theorem wr_region {id : Nat} {ops : Array Oper} {draw : Bool} {t : Nat} (h : t ∉ wr (.region id ops draw)) : ∀ o ∈ ops.toList, o.dst ≠ some t := by
 intro o ho e
 refine h ?_
 simp only [wr]
 exact List.mem_append_left _ (List.mem_filterMap.2 ⟨o, ho, e⟩)
theorem region_ok {E : Env} (hfns : ∀ g d, (g, d) ∈ E.fns → FunOK E.P g d) {id : Nat} {ops : Array Oper} {draw : Bool} {st : ASt} {κ : ASt → Option β} {r : β} (h : runRegion E ops.toList draw st κ = some r) {a : Act}
  (hs : SlR π I st.sl a) (hm : SA B I π (lk st.m) w) (hn : a.tmps.size = E.n) {Q : Exit → Act → World → Prop}
  (hk : ∀ st' I' π' a' w', κ st' = some r → π.le π' → I.le I' → SlR π' I' st'.sl a' → SA B I' π' (lk st'.m) w' → a'.tmps.size = a.tmps.size → a'.defers = a.defers → (∀ t, t ∉ wr (.region id ops draw) → a'.tmps[t]? = a.tmps[t]?) → Q .normal a' w') : (Code.region id ops draw).wp E.P Q a w := by
 unfold runRegion at h
 cases draw with
 | false =>
  rw [show ops = ops.toList.toArray by simp]
  refine wp_region_lit (seq_ok hfns _ _ _ _ _ I π a w h hs hm hn (fun sl' m' lg' I' π' a' w' k1 k2 k3 k4 k5 k6 k7 k8 => ?_))
  simp only [Bool.not_false, Bool.true_or, cond_true] at k1
  exact hk _ I' π' a' w' k1 k2 k3 k4 k5 k6 k7 (fun t ht => k8 t (wr_region ht))
 | true =>
  obtain ⟨R, slF, mF, lgF, e1, e2, e3, e4, e5⟩ := runOps_tr ops.toList 0 st.sl st.m [] (fun _ => ⟨none, undefA, [], [], false⟩) (Nat.zero_le _) (by simp) (fun _ => rfl) (fun _ => rfl) (fun j hj => by omega) (fun j hj => by omega) h
  generalize hok : (!true || (E.P.follows .mixedOrders && drawOk ops.toList (ancs ops.toList []) ops.toList.length && lgOk ops.toList lgF)) = b at e5
  cases b with
  | false => cases e5
  | true =>
   simp only [Bool.not_true, Bool.false_or, Bool.and_eq_true] at hok
   obtain ⟨⟨hmo, hd⟩, hl⟩ := hok
   simp only [cond_true] at e5
   have H := Drw.of e3 e4 hd hl
   refine wp_region_any hmo ?_
   have hops : ops = ops.toList.toArray := by simp
   have hD : (fun j => (Array.replicate ops.size false).getD j false) = fun _ => false := by
    funext j
    rw [Array.getD_eq_getD_getElem?]
    by_cases hj : j < ops.size
    ·simp [hj]
    ·simp [hj]
   have hS0 : ∀ n, accS R st.sl (fun _ => false) n = st.sl := by
    intro n
    induction n with
    | zero => rfl
    | succ n ih => simp only [accS]; exact ih
   have hM0 : ∀ n, accM R st.m (fun _ => false) n = st.m := by
    intro n
    induction n with
    | zero => rfl
    | succ n ih => simp only [accM]; exact ih
   rw [show wpAny E.P .any ops Q ops.size (Array.replicate ops.size false) a { w with drawn := w.drawn + 1 } = wpAny E.P .any ops.toList.toArray Q ops.size (Array.replicate ops.size false) a { w with drawn := w.drawn + 1 } by rw [← hops]]
   refine drawn_ok (B := B) (I := I) (π := π) hfns H (a0 := a) (fun I' π' a' w' k1 k2 k3 k4 k5 k6 k7 => ?_) ops.size _ a _ I π (by simp) ?_ ?_ ?_ (Pi.le_refl _) (Imm.le_refl _) hn rfl (fun _ _ => rfl) ?_
   ·exact hk ⟨slF, mF, st.nx + 64 * ops.toList.length⟩ I' π' a' w' e5 k3 k4 (k1.congr e1) (k2.congr (fun o => (e2 o).symm)) (by rw [k5, hn]) k6 (fun t ht => k7 t (wr_region ht))
   ·intro i o hi
    have : (fun j => (Array.replicate ops.size false).getD j false) i = false := by rw [hD]
    unfold lstOf at hi
    simp only at this
    rw [this] at hi
    cases hi
   ·rw [hD, hS0]; exact hs
   ·rw [hD, hM0]; exact hm.drew
   ·have : (fun i => !(Array.replicate ops.size false).getD i false) = fun _ => true := by
     funext i
     rw [congrFun hD i]
     rfl
    rw [this]
    have hc : ∀ n, cntF (fun _ => true) n = n := by
     intro n
     induction n with
     | zero => rfl
     | succ n ih => simp only [cntF, ih, if_true]
    rw [hc]
    simp

/-! ### paths -/
theorem atN_step (K : Code) (n p : Nat) (hp : 1 ≤ p) : atN K (n + 1) (2 * p) = cL (atN K n p) ∧ atN K (n + 1) (2 * p + 1) = cR (atN K n p) := by
 constructor
 ·unfold atN
  rw [show Nat.ble (2 * p) 1 = false by cases e : Nat.ble (2 * p) 1 with | false => rfl | true => have := Nat.le_of_ble_eq_true e; omega, show 2 * p % 2 = 0 by omega, show 2 * p / 2 = p by omega]
  cases n <;> rfl
 ·unfold atN
  rw [show Nat.ble (2 * p + 1) 1 = false by cases e : Nat.ble (2 * p + 1) 1 with | false => rfl | true => have := Nat.le_of_ble_eq_true e; omega, show (2 * p + 1) % 2 = 1 by omega, show (2 * p + 1) / 2 = p by omega]
  cases n <;> rfl
theorem atN_more (K : Code) : ∀ (n p : Nat), p < 2 ^ n → ∀ m, n ≤ m → atN K m p = atN K n p := by
 intro n
 induction n with
 | zero =>
  intro p hp m _
  have : p = 0 := by simpa using hp
  subst this
  cases m <;> rfl
 | succ n ih =>
  intro p hp m hm
  obtain ⟨m, rfl⟩ : ∃ m', m = m' + 1 := ⟨m - 1, by omega⟩
  have h2 : p / 2 < 2 ^ n := by
   have : p < 2 ^ n * 2 := by rwa [Nat.pow_succ] at hp
   omega
  unfold atN
  rw [ih (p / 2) h2 m (by omega)]
/-- The code at place p is c. -/
def At (K : Code) (p : Nat) (c : Code) : Prop := 1 ≤ p ∧ ∃ n, p < 2 ^ n ∧ atN K n p = c
theorem At.left {K : Code} {p : Nat} {c : Code} (h : At K p c) : At K (2 * p) (cL c) := by
 obtain ⟨h1, n, h2, rfl⟩ := h
 exact ⟨by omega, n + 1, by rw [Nat.pow_succ]; omega, (atN_step K n p h1).1⟩
theorem At.right {K : Code} {p : Nat} {c : Code} (h : At K p c) : At K (2 * p + 1) (cR c) := by
 obtain ⟨h1, n, h2, rfl⟩ := h
 exact ⟨by omega, n + 1, by rw [Nat.pow_succ]; omega, (atN_step K n p h1).2⟩
theorem At.top (K : Code) : At K 1 K := ⟨Nat.le_refl _, 1, by decide, rfl⟩
theorem At.mk {K : Code} {p : Nat} (h1 : 1 ≤ p) (h : p < 2 ^ 400) : At K p (atN K 400 p) := ⟨h1, 400, h, rfl⟩
theorem At.uniq {K : Code} {p : Nat} {c : Code} (h : At K p c) (hp : p < 2 ^ 400) : c = atN K 400 p := by
 obtain ⟨_, n, h2, rfl⟩ := h
 rw [← atN_more K n p h2 (max n 400) (Nat.le_max_left _ _), ← atN_more K 400 p hp (max n 400) (Nat.le_max_right _ _)]
def FrsOK (E : Env) (K : Code) : Prop := (∀ q d, lk E.frs q = some d → ∀ c, At K q c → FragOK E.P E.n c d) ∧ ∃ k, ∀ q d, lk E.lps q = some d → ∀ b, At K q (.loop b) → FragOKL k E.P E.n b d

theorem lk_filter {α : Type} {S : List Nat} {l : List (Nat × α)} {t : Nat} {v : α} (h : lk (l.filter fun q => !S.any (Nat.beq q.1)) t = some v) : lk l t = some v ∧ t ∉ S := by
 induction l with
 | nil => cases h
 | cons p l ih =>
  obtain ⟨j, a⟩ := p
  rw [List.filter_cons] at h
  split at h
  ·rename_i hs
   rw [lk_cons] at h ⊢
   split at h
   ·rename_i e
    subst e
    rw [if_pos rfl]
    refine ⟨h, fun hm => ?_⟩
    simp only [Bool.not_eq_true', List.any_eq_false] at hs
    exact hs _ hm (by simp)
   ·rename_i e
    rw [if_neg e]
    exact ih h
  ·rename_i hs
   obtain ⟨h1, h2⟩ := ih h
   rw [lk_cons]
   split
   ·rename_i e
    subst e
    exfalso
    simp only [Bool.not_eq_true', Bool.not_eq_false, List.any_eq_true] at hs
    obtain ⟨y, hy, e⟩ := hs
    have e := Nat.eq_of_beq_eq_true e
    subst e
    exact h2 hy
   ·exact ⟨h1, h2⟩
/-- A piece of code whose contract is known. -/
theorem frag_ok {n : Nat} {C : (Exit → Act → World → Prop) → Act → World → Prop} {frs : List (Nat × FragD)} {p : Nat} {c : Code} {st : ASt} {κ : Nat → ASt → Option β} {dflt : Option β} {r : β} (hfr : ∀ d, lk frs p = some d → FragOKC C n c d) (h : frag frs p c st κ dflt = some r) {a : Act}
  (hs : SlR π I st.sl a) (hm : SA B I π (lk st.m) w) (hn : a.tmps.size = n) {Q : Exit → Act → World → Prop}
  (hk : ∀ k st' I' π' a' w', κ k st' = some r → π.le π' → I.le I' → SlR π' I' st'.sl a' → SA B I' π' (lk st'.m) w' → a'.tmps.size = a.tmps.size → a'.defers = a.defers → (∀ t, t ∉ wr c → a'.tmps[t]? = a.tmps[t]?) → Q (ofK k) a' w') (hd : dflt = some r → C Q a w) : C Q a w := by
 unfold frag at h
 split at h
 ·rename_i d hlk
  obtain ⟨rr, ws, rs, hex, h2⟩ := Tr.run_ex h
  obtain ⟨x, s, J, y, q, z, nc, hg, ho, hv, hnew, hle, rfl, rfl⟩ := frTr_ok hex hm
  refine hfr d hlk x y q z hg ho J (view s d.pin.ob.length π) a w (fun t av ht => ?_) (hv.start hle.2.1) hn Q (fun I' π' a' w' k1 k2 k3 k4 k5 k6 k7 => ?_)
  ·obtain ⟨av0, q1, q2⟩ := hv.slot t av ht
   obtain ⟨u, q3, q4⟩ := hs t av0 q1
   exact ⟨u, q3, q2 J (Imm.le_refl _) u (q4.ext (Pi.le_refl _) hv.le)⟩
  ·obtain ⟨π3, q1, q2, q3⟩ := hv.back hnew hle.1 hle.2.1 hle.2.2 k1 k2 k4
   refine hk q.k _ I' π3 a' w' h2 q1 (Imm.le_trans hv.le k2) (fun t av ht => ?_) q3 k5 k6 k7
   simp only at ht
   rw [lk_append] at ht
   cases hl : lk (instSl (tau s d.pin.ob.length st.nx) q.p.sl (q.of z).1) t with
   | some av1 =>
    rw [hl] at ht
    injection ht with ht
    subst ht
    obtain ⟨av', q4, q5⟩ := ren_Sl (J := I') q2 hl
    obtain ⟨u, q6, q7⟩ := k3 t av' q4
    exact ⟨u, q6, q5 u q7⟩
   | none =>
    rw [hl] at ht
    obtain ⟨q4, q5⟩ := lk_filter ht
    obtain ⟨u, q6, q7⟩ := hs t av q4
    exact ⟨u, by rw [k7 t q5]; exact q6, q7.ext q1 (Imm.le_trans hv.le k2)⟩
 ·exact hd h

theorem run_ok {E : Env} (hfns : ∀ g d, (g, d) ∈ E.fns → FunOK E.P g d) {K : Code} (hfrs : FrsOK E K) : ∀ (c : Code) (p : Nat) (st : ASt) (κ : Nat → ASt → Option β) (r : β), At K p c → run E c p st κ = some r → ∀ (I : Imm) (π : Pi) (a : Act) (w : World),
  SlR π I st.sl a → SA B I π (lk st.m) w → a.tmps.size = E.n → ∀ Q : Exit → Act → World → Prop,
  (∀ k st' I' π' a' w', κ k st' = some r → π.le π' → I.le I' → SlR π' I' st'.sl a' → SA B I' π' (lk st'.m) w' → a'.tmps.size = a.tmps.size → a'.defers = a.defers → (∀ t, t ∉ wr c → a'.tmps[t]? = a.tmps[t]?) → Q (ofK k) a' w') → c.wp E.P Q a w := by
 intro c
 induction c with
 | skip =>
  intro p st κ r hp h I π a w hs hm hn Q hk
  exact wp_skip (hk 0 st I π a w h (Pi.le_refl _) (Imm.le_refl _) hs hm rfl rfl (fun _ _ => rfl))
 | region id ops draw =>
  intro p st κ r hp h I π a w hs hm hn Q hk
  have h : frag E.frs p (.region id ops draw) st κ (runRegion E ops.toList draw st fun st => κ 0 st) = some r := h
  exact frag_ok (C := fun Q a w => Code.wp E.P _ Q a w) (fun d hd => hfrs.1 p d hd _ hp) h hs hm hn hk (fun h => region_ok hfns h hs hm hn (fun st' I' π' a' w' k1 => hk 0 st' I' π' a' w' k1))
 | seq x y ihx ihy =>
  intro p st κ r hp h I π a w hs hm hn Q hk
  have h : frag E.frs p (.seq x y) st κ (run E x (2 * p) st fun e st => match e with | 0 => run E y (2 * p + 1) st κ | e + 1 => κ (e + 1) st) = some r := h
  refine frag_ok (C := fun Q a w => Code.wp E.P _ Q a w) (fun d hd => hfrs.1 p d hd _ hp) h hs hm hn hk (fun h => wp_seq ?_)
  refine ihx (2 * p) st _ r hp.left h I π a w hs hm hn _ (fun k st' I' π' a' w' k1 k2 k3 k4 k5 k6 k7 k8 => ?_)
  have hwr : ∀ t, t ∉ wr (.seq x y) → t ∉ wr x ∧ t ∉ wr y := fun t ht => ⟨fun h => ht (by simp only [wr]; exact List.mem_append_left _ h), fun h => ht (by simp only [wr]; exact List.mem_append_right _ h)⟩
  cases k with
  | zero =>
   show y.wp E.P Q a' w'
   refine ihy (2 * p + 1) st' κ r hp.right k1 I' π' a' w' k4 k5 (by rw [k6]; exact hn) Q (fun k st2 I2 π2 a2 w2 q1 q2 q3 q4 q5 q6 q7 q8 => ?_)
   exact hk k st2 I2 π2 a2 w2 q1 (Pi.le_trans k2 q2) (Imm.le_trans k3 q3) q4 q5 (q6.trans k6) (q7.trans k7) (fun t ht => (q8 t (hwr t ht).2).trans (k8 t (hwr t ht).1))
  | succ k =>
   have := hk (k + 1) st' I' π' a' w' k1 k2 k3 k4 k5 k6 k7 (fun t ht => k8 t (hwr t ht).1)
   cases k <;> exact this
 | cond o x y ihx ihy =>
  intro p st κ r hp h I π a w hs hm hn Q hk
  have h : frag E.frs p (.cond o x y) st κ (match evA st.sl o with | some (.w (.c (.v (.bool t)))) => bif t then run E x (2 * p) st κ else run E y (2 * p + 1) st κ | _ => none) = some r := h
  refine frag_ok (C := fun Q a w => Code.wp E.P _ Q a w) (fun d hd => hfrs.1 p d hd _ hp) h hs hm hn hk (fun h => ?_)
  split at h
  ·rename_i t ht
   have he : a.eval o = .bool t := (hs.eval o _ ht).1
   have hwr : ∀ t, t ∉ wr (.cond o x y) → t ∉ wr x ∧ t ∉ wr y := fun t ht => ⟨fun h => ht (by simp only [wr]; exact List.mem_append_left _ h), fun h => ht (by simp only [wr]; exact List.mem_append_right _ h)⟩
   cases t with
   | true => exact wp_cond_true he (ihx (2 * p) st κ r hp.left h I π a w hs hm hn Q (fun k st' I' π' a' w' k1 k2 k3 k4 k5 k6 k7 k8 => hk k st' I' π' a' w' k1 k2 k3 k4 k5 k6 k7 (fun t ht => k8 t (hwr t ht).1)))
   | false => exact wp_cond_false he (ihy (2 * p + 1) st κ r hp.right h I π a w hs hm hn Q (fun k st' I' π' a' w' k1 k2 k3 k4 k5 k6 k7 k8 => hk k st' I' π' a' w' k1 k2 k3 k4 k5 k6 k7 (fun t ht => k8 t (hwr t ht).2)))
  ·cases h
 | block id x ihx =>
  intro p st κ r hp h I π a w hs hm hn Q hk
  have h : frag E.frs p (.block id x) st κ (run E x (2 * p) st fun e st => κ (bif Nat.beq e (id + 2) then 0 else e) st) = some r := h
  refine frag_ok (C := fun Q a w => Code.wp E.P _ Q a w) (fun d hd => hfrs.1 p d hd _ hp) h hs hm hn hk (fun h => wp_block ?_)
  refine ihx (2 * p) st _ r hp.left h I π a w hs hm hn _ (fun k st' I' π' a' w' k1 k2 k3 k4 k5 k6 k7 k8 => ?_)
  have hq := hk _ st' I' π' a' w' k1 k2 k3 k4 k5 k6 k7 k8
  match k, hq with
  | 0, hq => exact hq
  | 1, hq => exact hq
  | k + 2, hq =>
   show (if k = id then Q .normal a' w' else Q (.exit k) a' w')
   cases hb : Nat.beq (k + 2) (id + 2) with
   | true =>
    have := Nat.eq_of_beq_eq_true hb
    rw [hb] at hq
    rw [if_pos (by omega)]
    exact hq
   | false =>
    rw [hb] at hq
    rw [if_neg (fun e => by rw [e, Nat.beq_refl] at hb; cases hb)]
    exact hq
 | loop x ihx =>
  intro p st κ r hp h I π a w hs hm hn Q hk
  have h : frag E.frs p (.loop x) st κ (unroll (run E x (2 * p)) (fun st => frag E.lps p (.loop x) st κ none) κ ((lk E.unr p).getD 0) st) = some r := h
  refine frag_ok (C := fun Q a w => Code.wp E.P _ Q a w) (fun d hd => hfrs.1 p d hd _ hp) h hs hm hn hk (fun h => ?_)
  obtain ⟨k0, hlps⟩ := hfrs.2
  have key : ∀ (m : Nat) (st' : ASt) (I' : Imm) (π' : Pi) (a' : Act) (w' : World), unroll (run E x (2 * p)) (fun st => frag E.lps p (.loop x) st κ none) κ m st' = some r → π.le π' → I.le I' → SlR π' I' st'.sl a' → SA B I' π' (lk st'.m) w' → a'.tmps.size = a.tmps.size → a'.defers = a.defers → (∀ t, t ∉ wr (.loop x) → a'.tmps[t]? = a.tmps[t]?) → Code.rounds E.P x Q (k0 + 1 + m) a' w' := by
   intro m
   induction m with
   | zero =>
    intro st' I' π' a' w' h k2 k3 k4 k5 k6 k7 k8
    show x.wp E.P (Exit.then (Code.rounds E.P x Q k0) Q) a' w'
    refine ihx (2 * p) st' _ r hp.left h I' π' a' w' k4 k5 (by rw [k6]; exact hn) _ (fun k st2 I2 π2 a2 w2 q1 q2 q3 q4 q5 q6 q7 q8 => ?_)
    cases k with
    | zero =>
     exact frag_ok (C := fun Q a w => Code.rounds E.P x Q k0 a w) (fun d hd => hlps p d hd _ hp) q1 q4 q5 (by rw [q6, k6]; exact hn) (Q := Q) (fun k st3 I3 π3 a3 w3 l1 l2 l3 l4 l5 l6 l7 l8 => hk k st3 I3 π3 a3 w3 l1 (Pi.le_trans k2 (Pi.le_trans q2 l2)) (Imm.le_trans k3 (Imm.le_trans q3 l3)) l4 l5 (l6.trans (q6.trans k6)) (l7.trans (q7.trans k7)) (fun t ht => (l8 t ht).trans ((q8 t ht).trans (k8 t ht)))) (fun h => by cases h)
    | succ k =>
     have := hk (k + 1) st2 I2 π2 a2 w2 q1 (Pi.le_trans k2 q2) (Imm.le_trans k3 q3) q4 q5 (q6.trans k6) (q7.trans k7) (fun t ht => (q8 t ht).trans (k8 t ht))
     cases k <;> exact this
   | succ m ihm =>
    intro st' I' π' a' w' h k2 k3 k4 k5 k6 k7 k8
    show x.wp E.P (Exit.then (Code.rounds E.P x Q (k0 + 1 + m)) Q) a' w'
    refine ihx (2 * p) st' _ r hp.left h I' π' a' w' k4 k5 (by rw [k6]; exact hn) _ (fun k st2 I2 π2 a2 w2 q1 q2 q3 q4 q5 q6 q7 q8 => ?_)
    cases k with
    | zero => exact ihm st2 I2 π2 a2 w2 q1 (Pi.le_trans k2 q2) (Imm.le_trans k3 q3) q4 q5 (q6.trans k6) (q7.trans k7) (fun t ht => (q8 t ht).trans (k8 t ht))
    | succ k =>
     have := hk (k + 1) st2 I2 π2 a2 w2 q1 (Pi.le_trans k2 q2) (Imm.le_trans k3 q3) q4 q5 (q6.trans k6) (q7.trans k7) (fun t ht => (q8 t ht).trans (k8 t ht))
     cases k <;> exact this
  exact wp_loop_rounds _ (key _ st I π a w h (Pi.le_refl _) (Imm.le_refl _) hs hm rfl rfl (fun _ _ => rfl))
 | rangeFunc f ps x y _ _ => intro p st κ r hp h; cases h
 | exit id =>
  intro p st κ r hp h I π a w hs hm hn Q hk
  exact wp_exit (hk (id + 2) st I π a w h (Pi.le_refl _) (Imm.le_refl _) hs hm rfl rfl (fun _ _ => rfl))
 | scope x _ => intro p st κ r hp h; cases h
 | label l =>
  intro p st κ r hp h I π a w hs hm hn Q hk
  exact wp_label (hk 0 st I π a w h (Pi.le_refl _) (Imm.le_refl _) hs hm rfl rfl (fun _ _ => rfl))
 | goto l => intro p st κ r hp h; cases h
 | ret =>
  intro p st κ r hp h I π a w hs hm hn Q hk
  exact wp_ret (hk 1 st I π a w h (Pi.le_refl _) (Imm.le_refl _) hs hm rfl rfl (fun _ _ => rfl))
 | refuse why => intro p st κ r hp h; cases h
end
end Go.Proofs.YtijhdekfbjafgaaGreat.AM
namespace Go.Proofs.YtijhdekfbjafgaaGreat.AM
open Go Go.RowKit Go.Proofs.YtijhdekfbjafgaaGreat.RW

section
variable {β : Type} {P : Program} {B : Base} {I : Imm} {π : Pi} {w : World}

/-! ### the memory grows in front -/
section
variable {E : Env} {Pm : AMem → Prop}
open Classical in
noncomputable def gd (Pm : AMem → Prop) (κ : Nat → ASt → Option β) : Nat → ASt → Option β := fun k st => if Pm st.m then κ k st else none
theorem gd_pos {κ : Nat → ASt → Option β} {k : Nat} {st : ASt} (h : Pm st.m) : gd Pm κ k st = κ k st := if_pos h
theorem gd_congr {κ κ' : Nat → ASt → Option β} (h : ∀ k st, Pm st.m → κ k st = κ' k st) : gd Pm κ = gd Pm κ' := by
 funext k st
 unfold gd
 by_cases hp : Pm st.m
 ·rw [if_pos hp, if_pos hp, h k st hp]
 ·rw [if_neg hp, if_neg hp]
theorem frag_inv (hP : ∀ ws m, Pm m → Pm (ws ++ m)) {frs : List (Nat × FragD)} {p : Nat} {c : Code} {st : ASt} {κ : Nat → ASt → Option β} {d1 d2 : Option β} (h : Pm st.m) (hd : d1 = d2) : frag frs p c st κ d1 = frag frs p c st (gd Pm κ) d2 := by
 unfold frag
 split
 ·congr 1
  funext r ws _
  exact (gd_pos (st := ⟨_, ws ++ st.m, _⟩) (hP ws st.m h)).symm
 ·exact hd
open Classical in
theorem runOps_inv (hP : ∀ ws m, Pm m → Pm (ws ++ m)) {ops : List Oper} {base : Nat} {κ : ASl → AMem → Lg → Option β} : ∀ (rest : List Oper) (i : Nat) (sl : ASl) (m : AMem) (lg : Lg), Pm m → runOps E ops base rest i sl m lg κ = runOps E ops base rest i sl m lg (fun sl m lg => if Pm m then κ sl m lg else none)
 | [], i, sl, m, lg, h => by simp only [runOps]; rw [if_pos h]
 | o :: rest, i, sl, m, lg, h => by
  have hgo : ∀ sl, ((aop E.P E.fns (evA sl) o (base + 64 * i)).run m [] fun v ws rs => putA E sl o.dst v fun sl => runOps E ops base rest (i + 1) sl (ws ++ m) ((i, rs, ws.map (·.1)) :: lg) κ) = ((aop E.P E.fns (evA sl) o (base + 64 * i)).run m [] fun v ws rs => putA E sl o.dst v fun sl => runOps E ops base rest (i + 1) sl (ws ++ m) ((i, rs, ws.map (·.1)) :: lg) (fun sl m lg => if Pm m then κ sl m lg else none)) := fun sl => by
   congr 1
   funext v ws rs
   congr 1
   funext sl
   exact runOps_inv hP rest (i + 1) sl (ws ++ m) _ (hP ws m h)
  have hsk : ∀ sl, (putA E sl o.dst undefA fun sl => runOps E ops base rest (i + 1) sl m lg κ) = (putA E sl o.dst undefA fun sl => runOps E ops base rest (i + 1) sl m lg (fun sl m lg => if Pm m then κ sl m lg else none)) := fun sl => by
   congr 1
   funext sl
   exact runOps_inv hP rest (i + 1) sl m lg h
  unfold runOps
  simp only [hgo, hsk]
theorem unroll_inv (hP : ∀ ws m, Pm m → Pm (ws ++ m)) {rb : ASt → (Nat → ASt → Option β) → Option β} {l1 l2 : ASt → Option β} {κ : Nat → ASt → Option β} (hrb : ∀ st F, Pm st.m → rb st F = rb st (gd Pm F)) (hl : ∀ st, Pm st.m → l1 st = l2 st) : ∀ (n : Nat) (st : ASt), Pm st.m → unroll rb l1 κ n st = unroll rb l2 (gd Pm κ) n st
 | 0, st, h => by
  unfold unroll
  refine Eq.trans (hrb st _ h) (Eq.trans (congrArg (rb st) (gd_congr fun k st h => ?_)) (hrb st _ h).symm)
  cases k with
  | zero => exact hl st h
  | succ k => exact (gd_pos h).symm
 | n + 1, st, h => by
  unfold unroll
  refine Eq.trans (hrb st _ h) (Eq.trans (congrArg (rb st) (gd_congr fun k st h => ?_)) (hrb st _ h).symm)
  cases k with
  | zero => exact unroll_inv hP hrb hl n st h
  | succ k => exact (gd_pos h).symm
theorem run_inv (hP : ∀ ws m, Pm m → Pm (ws ++ m)) : ∀ (c : Code) (p : Nat) (st : ASt) (κ : Nat → ASt → Option β), Pm st.m → run E c p st κ = run E c p st (gd Pm κ) := by
 intro c
 induction c with
 | skip => intro p st κ h; exact (gd_pos h).symm
 | region id ops draw =>
  intro p st κ h
  refine frag_inv (c := .region id ops draw) hP h ?_
  unfold runRegion
  refine Eq.trans (runOps_inv hP _ _ _ _ _ h) (Eq.trans (congrArg (runOps E ops.toList st.nx ops.toList 0 st.sl st.m []) (funext fun sl => funext fun m => funext fun lg => ?_)) (runOps_inv hP ops.toList 0 st.sl st.m [] h).symm)
  by_cases hm : Pm m
  ·rw [if_pos hm, if_pos hm]
   show (bif _ then κ 0 _ else none) = bif _ then gd Pm κ 0 _ else none
   rw [gd_pos (st := ⟨sl, m, _⟩) hm]
  ·rw [if_neg hm, if_neg hm]
 | seq x y ihx ihy =>
  intro p st κ h
  refine frag_inv (c := .seq x y) hP h ?_
  refine Eq.trans (ihx (2 * p) st _ h) (Eq.trans (congrArg (run E x (2 * p) st) (gd_congr fun k st h => ?_)) (ihx (2 * p) st _ h).symm)
  cases k with
  | zero => exact ihy _ _ _ h
  | succ k => exact (gd_pos h).symm
 | cond o x y ihx ihy =>
  intro p st κ h
  refine frag_inv (c := .cond o x y) hP h ?_
  split
  ·rename_i t _
   cases t with
   | true => exact ihx _ _ _ h
   | false => exact ihy _ _ _ h
  ·rfl
 | block id x ihx =>
  intro p st κ h
  refine frag_inv (c := .block id x) hP h ?_
  exact Eq.trans (ihx (2 * p) st _ h) (Eq.trans (congrArg (run E x (2 * p) st) (gd_congr fun k st h => (gd_pos h).symm)) (ihx (2 * p) st _ h).symm)
 | loop x ihx =>
  intro p st κ h
  refine frag_inv (c := .loop x) hP h ?_
  exact unroll_inv hP (fun st F h => ihx _ st F h) (fun st h => frag_inv hP h rfl) _ st h
 | rangeFunc f ps x y _ _ => intro p st κ h; rfl
 | exit id => intro p st κ h; exact (gd_pos h).symm
 | scope x _ => intro p st κ h; rfl
 | label l => intro p st κ h; exact (gd_pos h).symm
 | goto l => intro p st κ h; rfl
 | ret => intro p st κ h; exact (gd_pos h).symm
 | refuse why => intro p st κ h; rfl
end

/-! ### ways out, read off -/
theorem trMap_ok {α β : Type} {f : α → β} {m : AMem} : ∀ {t : Tr α} {v : β} {ws : AMem} {rs : List Nat}, Tr.Ex m (trMap f t) v ws rs → ∃ u, Tr.Ex m t u ws rs ∧ v = f u := by
 intro t
 induction t with
 | ret r ws0 => intro v ws rs h; simp only [trMap] at h; cases h; exact ⟨r, .ret _ _, rfl⟩
 | look o k ih => intro v ws rs h; simp only [trMap] at h; cases h with | look h => obtain ⟨u, h1, h2⟩ := ih _ h; exact ⟨u, .look h1, h2⟩
 | chk b t ih => intro v ws rs h; simp only [trMap] at h; cases h with | chk h => obtain ⟨u, h1, h2⟩ := ih h; exact ⟨u, .chk h1, h2⟩
 | ite b t e iht ihe =>
  intro v ws rs h
  simp only [trMap] at h
  cases h with
  | iteT h => obtain ⟨u, h1, h2⟩ := iht h; exact ⟨u, .iteT h1, h2⟩
  | iteF h => obtain ⟨u, h1, h2⟩ := ihe h; exact ⟨u, .iteF h1, h2⟩
 | opt α x k ih => intro v ws rs h; simp only [trMap] at h; cases h with | opt y hy h => obtain ⟨u, h1, h2⟩ := ih _ h; exact ⟨u, .opt y hy h1, h2⟩
 | sum α β x k l ihk ihl =>
  intro v ws rs h
  simp only [trMap] at h
  cases h with
  | inl y h => obtain ⟨u, h1, h2⟩ := ihk _ h; exact ⟨u, .inl y h1, h2⟩
  | inr y h => obtain ⟨u, h1, h2⟩ := ihl _ h; exact ⟨u, .inr y h1, h2⟩
 | fail => intro v ws rs h; simp only [trMap] at h; cases h
/-- Which pieces keep their places, which are gone. -/
def PreOk (K : Option (List Nat)) (obs : List PO) (un : List Nat) (d : OutD) (pre : List Nat) (s : Sg) : Prop := (K = some pre ∧ d.k = 0 ∧ d.p.ob.all PO.real = true ∧ obs.length ≤ d.p.ob.length) ∨ ((K = none ∨ d.k ≠ 0) ∧ pre = keep d.p obs.length ∧ (∀ i, i < obs.length → i ∈ pre ∨ lk s.b i = none) ∧ sameOk obs d.p un = true)
/-- What a way out tells, of the state it was read off. -/
theorem extTr_ok {K : Option (List Nat)} {obs : List PO} {un : List Nat} {m : AMem} {k : Nat} {sl : ASl} (h : SA B I π (lk m) w) : ∀ {os : List OutD} {y : OutI os} {ws : AMem} {rs : List Nat}, Tr.Ex m (extTr K obs un k sl os) y ws rs →
  ∃ q z x s J pre, outD os y = some ⟨q, z⟩ ∧ q.k = k ∧ q.of z = x ∧ Viewed B π w m I ⟨pre.map (fun i => (i, i)), []⟩ q.p sl x s J ∧ PreOk K obs un q pre s := by
 have hinj : ∀ pre : List Nat, Sg.inj ⟨pre.map (fun i => (i, i)), []⟩ := by
  intro pre i j o h1 h2
  have h1 := lk_mem' h1
  have h2 := lk_mem' h2
  simp only [List.mem_map, Prod.mk.injEq] at h1 h2
  obtain ⟨a, _, rfl, rfl⟩ := h1
  obtain ⟨b, _, rfl, e⟩ := h2
  exact e.symm
 have oneG : ∀ (d : OutD) (_ : K = none ∨ d.k ≠ 0) {z : d.R} {ws : AMem} {rs : List Nat}, Tr.Ex m (d.extG obs un sl) z ws rs → ∃ x s J pre, d.of z = x ∧ Viewed B π w m I ⟨pre.map (fun i => (i, i)), []⟩ d.p sl x s J ∧ PreOk K obs un d pre s := by
  intro d hd z ws rs hx
  unfold OutD.extG at hx
  obtain ⟨x, s, J, rs', h1, h2⟩ := pat_ok hx h rfl (hinj _)
  generalize hb : ((List.range obs.length).all _ && sameOk obs d.p un) = b at h1
  cases b with
  | false => cases h1
  | true =>
   cases h1
   rw [Bool.and_eq_true] at hb
   refine ⟨x, s, J, _, d.ok x, h2, .inr ⟨hd, rfl, fun i hi => ?_, hb.2⟩⟩
   have hb := hb.1
   rw [List.all_eq_true] at hb
   have := hb i (List.mem_range.2 hi)
   rw [Bool.or_eq_true] at this
   rcases this with h3 | h3
   ·obtain ⟨j, hj, e⟩ := List.any_eq_true.1 h3
    exact .inl (Nat.eq_of_beq_eq_true e ▸ hj)
   ·exact .inr (Option.isNone_iff_eq_none.1 h3)
 have one : ∀ (d : OutD) {z : d.R} {ws : AMem} {rs : List Nat}, Tr.Ex m (d.ext K obs un sl) z ws rs → ∃ x s J pre, d.of z = x ∧ Viewed B π w m I ⟨pre.map (fun i => (i, i)), []⟩ d.p sl x s J ∧ PreOk K obs un d pre s := by
  intro d z ws rs hx
  unfold OutD.ext at hx
  split at hx
  ·rename_i K0
   cases hb : Nat.beq d.k 0 with
   | false => rw [hb] at hx; exact oneG d (.inr fun e => by rw [e] at hb; cases hb) hx
   | true =>
    rw [hb] at hx
    simp only [cond_true] at hx
    obtain ⟨x, s, J, rs', h1, h2⟩ := pat_ok hx h rfl (hinj _)
    generalize hr : (d.p.ob.all PO.real && Nat.ble obs.length d.p.ob.length) = b2 at h1
    cases b2 with
    | false => cases h1
    | true =>
     rw [Bool.and_eq_true] at hr
     cases h1
     exact ⟨x, s, J, _, d.ok x, h2, .inl ⟨rfl, Nat.eq_of_beq_eq_true hb, hr.1, Nat.le_of_ble_eq_true hr.2⟩⟩
  ·exact oneG d (.inl rfl) hx
 intro os
 induction os with
 | nil => intro y ws rs hx; cases hx
 | cons d r ih =>
  cases r with
  | nil =>
   intro y ws rs hx
   simp only [extTr] at hx
   cases hb : Nat.beq k d.k with
   | false => rw [hb] at hx; cases hx
   | true =>
    rw [hb] at hx
    have hb := Nat.eq_of_beq_eq_true hb
    obtain ⟨x, s, J, pre, h1, h2⟩ := one d hx
    exact ⟨d, y, x, s, J, pre, rfl, hb.symm, h1, h2⟩
  | cons q r =>
   intro y ws rs hx
   simp only [extTr] at hx
   cases hb : Nat.beq k d.k with
   | true =>
    rw [hb] at hx
    have hb := Nat.eq_of_beq_eq_true hb
    obtain ⟨u, hu, rfl⟩ := trMap_ok hx
    obtain ⟨x, s, J, pre, h1, h2⟩ := one d hu
    exact ⟨d, u, x, s, J, pre, rfl, hb.symm, h1, h2⟩
   | false =>
    rw [hb] at hx
    obtain ⟨u, hu, rfl⟩ := trMap_ok hx
    obtain ⟨q', z, x, s, J, pre, h1, h2⟩ := ih hu
    exact ⟨q', z, x, s, J, pre, h1, h2⟩
theorem diag_lk {l : List Nat} {i : Nat} (h : i ∈ l) : lk (l.map fun i => (i, i)) i = some i := by
 induction l with
 | nil => cases h
 | cons a l ih =>
  rw [List.map_cons, lk_cons]
  by_cases e : a = i
  ·rw [if_pos e, e]
  ·rw [if_neg e]
   exact ih ((List.mem_cons.1 h).resolve_left (fun e2 => e e2.symm))
theorem ref_C {π2 π3 : Pi} {J : Imm} {p : PC} {x : p.I} {y : Value} (hR : ∀ j ∈ refsC p, ∀ q, π2 j = some q → π3 j = some q) (h : relC π2 J (p.inst id x) y) : relC π3 J (p.inst id x) y := by
 cases p with
 | h c => exact one_any π2 π3 (c := c) h
 | full c => exact h
 | sl i => obtain ⟨p, h1, h2⟩ := h; exact ⟨p, hR i (by simp [refsC]) _ h1, h2⟩
 | sb i n => obtain ⟨p, g, h1, h2⟩ := h; exact ⟨p, g, hR i (by simp [refsC]) _ h1, h2⟩
 | ptr i q => obtain ⟨p, g, h1, h2⟩ := h; exact ⟨p, g, hR i (by simp [refsC]) _ h1, h2⟩
 | fn f a b =>
  obtain ⟨xs, ys, h1, h2, h3⟩ := h
  have key : ∀ (l : List (Nat × Nat)) (ys : List Value), (∀ q ∈ l, q.1 ∈ refsC (.fn f a b)) → rl (relP π2) (l.map fun p => (id p.1, p.2)) ys → rl (relP π3) (l.map fun p => (id p.1, p.2)) ys := by
   intro l
   induction l with
   | nil => intro ys _ h; cases ys with | nil => trivial | cons _ _ => exact h.elim
   | cons q l ih =>
    intro ys hm h
    cases ys with
    | nil => exact h.elim
    | cons y ys =>
     obtain ⟨⟨p, g, e1, e2, e3⟩, h4⟩ := h
     exact ⟨⟨p, g, hR _ (hm q List.mem_cons_self) _ e1, e2, e3⟩, ih ys (fun q hq => hm q (List.mem_cons_of_mem _ hq)) h4⟩
  exact ⟨xs, ys, h1, key a xs (fun q hq => by simp only [refsC]; exact List.mem_append_left _ (List.mem_map_of_mem hq)) h2, key b ys (fun q hq => by simp only [refsC]; exact List.mem_append_right _ (List.mem_map_of_mem hq)) h3⟩
theorem ref_Cs {π2 π3 : Pi} {J : Imm} : ∀ {ps : List PC} {x : PCsI ps} {ys : List Value}, (∀ j ∈ ps.flatMap refsC, ∀ q, π2 j = some q → π3 j = some q) → rl (relC π2 J) (instCs id ps x) ys → rl (relC π3 J) (instCs id ps x) ys
 | [], _, [], _, _ => trivial
 | p :: ps, x, y :: ys, hR, h => by
  rw [List.flatMap_cons] at hR
  exact ⟨ref_C (fun j hj => hR j (List.mem_append_left _ hj)) h.1, ref_Cs (fun j hj => hR j (List.mem_append_right _ hj)) h.2⟩
 | [], _, _ :: _, _, h => h.elim
 | _ :: _, _, [], _, h => h.elim
theorem ref_O {π2 π3 : Pi} {J : Imm} {i : Nat} {p : PO} {x : p.I} (hi : ∀ q, π2 i = some q → π3 i = some q) (hR : ∀ j ∈ refsO p, ∀ q, π2 j = some q → π3 j = some q) (h : atO π2 J w i (some (p.inst id x))) : atO π3 J w i (some (p.inst id x)) := by
 cases p with
 | blk ty cs => obtain ⟨p, g, ys, h1, h2, h3, h4⟩ := h; exact ⟨p, g, ys, hi _ h1, h2, ref_Cs hR h3, h4⟩
 | stb ty c => obtain ⟨p, g, ys, h1, h2, h3, h4⟩ := h; exact ⟨p, g, ys, hi _ h1, h2, cells_any π2 π3 h3, h4⟩
 | row e c => obtain ⟨p, cs, h1, h2⟩ := h; exact ⟨p, cs, hi _ h1, h2⟩
 | frz c => obtain ⟨p, h1, h2⟩ := h; exact ⟨p, hi _ h1, h2⟩
 | gone => trivial
 | same => trivial
/-- The state at a way out, told by the pattern's numbers; the numbers of the start stay. -/
theorem Viewed.pre {m : AMem} {pre : List Nat} {p : Pat} {sl : ASl} {x : p.I} {s : Sg} {J : Imm} (h : Viewed B π w m I ⟨pre.map (fun i => (i, i)), []⟩ p sl x s J) {i : Nat} (hin : i ∈ pre) : lk s.b i = some i ∧ i < p.ob.length ∧ lk s.fz i = none ∧ view s p.ob.length π i = π i := by
 have hb := h.s0 i i (diag_lk hin)
 have hlt := h.lt i i hb
 refine ⟨hb, hlt.1, hlt.2, ?_⟩
 unfold view
 rw [if_pos hlt.1, hb]
 rfl
theorem Viewed.out {m m0 : AMem} {pre : List Nat} {p : Pat} {sl : ASl} {x : p.I} {s : Sg} {J : Imm} (h : Viewed B π w m I ⟨pre.map (fun i => (i, i)), []⟩ p sl x s J) (h0 : ∀ i, p.ob.length ≤ i → lk m0 i = none)
  (hS : ∀ i, p.ob[i]? = some .same → i ∈ pre ∧ lk m i = lk m0 i ∧ ∃ (po : PO) (z : po.I), lk m0 i = some (po.inst id z) ∧ ∀ j ∈ refsO po, j ∈ pre) :
  SA B J (view s p.ob.length π) (lk (instOb id p.ob 0 x.2 ++ m0)) w := by
 refine (h.sa_of (fun i => ?_)).2
 by_cases hi : i < p.ob.length
 ·rcases h.at hi with q | ⟨q, qs⟩ | ⟨o, q1, q2, q3, q4, q5⟩
  ·exact .inr (.inl (by rw [lk_append, q]; rfl))
  ·obtain ⟨k1, k2, po, z, k3, k4⟩ := hS i qs
   obtain ⟨j1, j2, j3, j4⟩ := h.pre k1
   have hM : lk (instOb id p.ob 0 x.2 ++ m0) i = some (po.inst id z) := by rw [lk_append, q]; exact k3
   have hlk : lk (s.fz ++ m) i = some (po.inst id z) := by rw [lk_append, j3, k2]; exact k3
   refine .inr (.inr ⟨i, j1, by rw [hM]; simp, by rw [hlk]; rfl, ?_, fun k hk => ?_⟩)
   ·rw [hM]
    have := h.sa.res i
    rw [hlk] at this
    exact ref_O (fun q hq => by rw [j4]; exact hq) (fun j hj q hq => by rw [(h.pre (k4 j hj)).2.2.2]; exact hq) this
   ·rw [hM] at hk
    rw [hlk]
    generalize po.inst id z = ob at hk
    cases ob with
    | blk ty cs => obtain ⟨p, e1, e2⟩ := hk; exact ⟨p, by rw [← j4]; exact e1, e2⟩
    | row e c l => obtain ⟨p, a, e1, e2⟩ := hk; exact ⟨p, a, by rw [← j4]; exact e1, e2⟩
    | frz c l => exact hk.elim
    | gone => exact hk.elim
  ·have hM : lk (instOb id p.ob 0 x.2 ++ m0) i = lk (instOb id p.ob 0 x.2) i := by
    rw [lk_append]
    cases hq : lk (instOb id p.ob 0 x.2) i with
    | none => exact absurd hq q2
    | some _ => rfl
   exact .inr (.inr ⟨o, q1, by rw [hM]; exact q2, q3, by rw [hM]; exact q4, fun k hk => by rw [hM] at hk; exact q5 k hk⟩)
 ·exact .inl ⟨by rw [lk_append, instOb_id_none (by omega)]; exact h0 i (by omega), by unfold view; rw [if_neg hi]⟩
/-- Which numbers of the start stay at a way out. -/
def outLe (K : Option (List Nat)) (n : Nat) (q : OutD) (π π' : Pi) : Prop :=
 (∃ K0, K = some K0 ∧ q.k = 0 ∧ ∀ i ∈ K0, ∀ p, π i = some p → π' i = some p) ∨ ((K = none ∨ q.k ≠ 0) ∧ ∀ i, i < n → (i ∈ keep q.p n ∧ (∀ p, π i = some p → π' i = some p)) ∨ (i ∉ keep q.p n ∧ π' i = none))
theorem Viewed.outLe {K : Option (List Nat)} {n : Nat} {m : AMem} {pre : List Nat} {q : OutD} {sl : ASl} {x : q.p.I} {s : Sg} {J : Imm} {obs : List PO} {un : List Nat} (hn : obs.length = n) (h : Viewed B π w m I ⟨pre.map (fun i => (i, i)), []⟩ q.p sl x s J) (hp : PreOk K obs un q pre s) {π0 : Pi} (hπ : π0.le π) :
  outLe K n q π0 (view s q.p.ob.length π) := by
 subst hn
 have h1 : ∀ i ∈ pre, ∀ pl, π0 i = some pl → view s q.p.ob.length π i = some pl := fun i hi pl hpl => by rw [(h.pre hi).2.2.2]; exact hπ i pl hpl
 rcases hp with ⟨h2, h3, _⟩ | ⟨h4, h2, h3, _⟩
 ·exact .inl ⟨pre, h2, h3, h1⟩
 ·refine .inr ⟨h4, fun i hi => ?_⟩
  subst h2
  by_cases hk : i ∈ keep q.p obs.length
  ·exact .inl ⟨hk, h1 i hk⟩
  ·refine .inr ⟨hk, ?_⟩
   have := (h3 i hi).resolve_left hk
   unfold view
   rw [this]
   split <;> rfl
theorem gone_of {p : Pat} {n i : Nat} (hi : i < n) (h : i ∉ keep p n) (x : ObI p.ob) : lk (instOb id p.ob 0 x) i = some .gone := by
 have h1 : p.ob[i]? = some .gone := by
  unfold keep at h
  rw [List.mem_filter] at h
  have h2 : ¬ (match p.ob[i]? with | some o => o.live | none => true) = true := fun e => h ⟨List.mem_range.2 hi, e⟩
  split at h2
  ·rename_i o ho
   rw [ho]
   cases o with
   | gone => rfl
   | _ => exact absurd rfl h2
  ·exact absurd rfl h2
 have hlt : i < p.ob.length := (List.getElem?_eq_some_iff.1 h1).1
 rcases instOb_get id p.ob 0 x i (Nat.zero_le _) (by omega) (fun a b _ _ _ _ e => e) with ⟨e, _⟩ | ⟨po, z, e, e2, _⟩
 ·rw [Nat.sub_zero, h1] at e; cases e
 ·rw [Nat.sub_zero, h1] at e
  injection e with e
  subst e
  exact e2
/-- What is gone may lie anywhere. -/
theorem SA.anywhere {M : Nat → Option AObj} {π' : Pi} (h : SA B I π M w) (hle : π.le π') (hg : ∀ i, π' i ≠ π i → M i = some .gone) : SA B I π' M w := by
 have hb : ∀ o k, fpO π' o (M o) k → fpO π o (M o) k := fun o k hk => fpO.back hle (h.res o) hk
 refine ⟨h.evo, fun o ho => ?_, fun o => (h.res o).mono hle (Imm.le_refl _) (fun _ _ => rfl), fun o k hk => h.own o k (hb o k hk), fun o o' hne k hk hk' => h.dis o o' hne k (hb o k hk) (hb o' k hk'), h.im, fun a v ha o hk => h.imX a v ha o (hb o _ hk), h.le, h.inew⟩
 have h1 := h.dom o ho
 cases he : π' o with
 | none => rfl
 | some p =>
  have := hg o (by rw [he, h1]; simp)
  rw [ho] at this
  cases this
theorem outLe.fix {n : Nat} {q : OutD} {π π' : Pi} {J : Imm} {x : ObI q.p.ob} {m0 : AMem} (h : Go.Proofs.YtijhdekfbjafgaaGreat.AM.outLe none n q π π') (h0 : ∀ i, n ≤ i → π i = none) (hm : SA B J π' (lk (instOb id q.p.ob 0 x ++ m0)) w) :
  ∃ πF, π.le πF ∧ π'.le πF ∧ SA B J πF (lk (instOb id q.p.ob 0 x ++ m0)) w := by
 have h := (h.resolve_left (fun ⟨_, e, _⟩ => by cases e)).2
 let πF : Pi := fun i => if i < n ∧ i ∉ keep q.p n then π i else π' i
 have hF1 : ∀ i, i < n → i ∉ keep q.p n → πF i = π i := fun i h1 h2 => if_pos ⟨h1, h2⟩
 have hF2 : ∀ i, ¬ (i < n ∧ i ∉ keep q.p n) → πF i = π' i := fun i h1 => if_neg h1
 have hle : π'.le πF := fun i p hi => by
  by_cases hc : i < n ∧ i ∉ keep q.p n
  ·rcases h i hc.1 with ⟨h1, _⟩ | ⟨_, h2⟩
   ·exact absurd h1 hc.2
   ·rw [hi] at h2; cases h2
  ·rw [hF2 i hc]; exact hi
 refine ⟨πF, fun i p hi => ?_, hle, hm.anywhere hle (fun i hne => ?_)⟩
 ·have hin : i < n := by
   refine Nat.lt_of_not_le fun hl => ?_
   rw [h0 i hl] at hi
   cases hi
  rcases h i hin with ⟨h1, h2⟩ | ⟨h1, _⟩
  ·rw [hF2 i (fun hc => hc.2 h1)]
   exact h2 p hi
  ·rw [hF1 i hin h1]
   exact hi
 ·by_cases hc : i < n ∧ i ∉ keep q.p n
  ·rw [lk_append, gone_of hc.1 hc.2 x]; rfl
  ·exact absurd (hF2 i hc) hne

/-- A piece of code does what its contract tells; a loop's round may hand pieces on under other numbers. -/
def FragOKK (K : Option (List Nat)) (P : Program) (n : Nat) (c : Code) (d : FragD) : Prop :=
 ∀ x y q z, d.g x = some y → outD d.outs y = some ⟨q, z⟩ → ∀ (I : Imm) (π : Pi) (a : Act) (w : World),
  SlR π I (instSl id d.pin.sl x.1) a → SA ⟨w, fpS π (lk (instOb id d.pin.ob 0 x.2)), I⟩ I π (lk (instOb id d.pin.ob 0 x.2)) w → a.tmps.size = n → ∀ Q : Exit → Act → World → Prop,
  (∀ I' π' a' w', outLe K d.pin.ob.length q π π' → I.le I' → SlR π' I' (instSl id q.p.sl (q.of z).1) a' → SA ⟨w, fpS π (lk (instOb id d.pin.ob 0 x.2)), I⟩ I' π' (lk (instOb id q.p.ob 0 (q.of z).2 ++ instOb id d.pin.ob 0 x.2)) w' → a'.tmps.size = a.tmps.size → a'.defers = a.defers → (∀ t, t ∉ wr c → a'.tmps[t]? = a.tmps[t]?) → Q (ofK q.k) a' w') →
  c.wp P Q a w
theorem FragOKK.ok {n : Nat} {c : Code} {d : FragD} (h : FragOKK none P n c d) : FragOK P n c d := by
 intro x y q z hg ho I π a w hs hm hn Q hk
 refine h x y q z hg ho I π a w hs hm hn Q (fun I' π' a' w' k1 k2 k3 k4 k5 k6 k7 => ?_)
 obtain ⟨πF, h1, h2, h3⟩ := k1.fix (fun i hi => hm.dom i (instOb_id_none hi)) k4
 exact hk I' πF a' w' h1 k2 (k3.ext h2 (Imm.le_refl _)) h3 k5 k6 k7
theorem instOb_len (τ : Nat → Nat) : ∀ {ps : List PO} {n : Nat} {x : ObI ps}, ps.all PO.real = true → (instOb τ ps n x).length = ps.length
 | [], _, _, _ => rfl
 | p :: ps, n, x, h => by
  rw [List.all_cons, Bool.and_eq_true] at h
  have hs : p.isSame = false := by
   have := h.1
   unfold PO.real at this
   cases hq : p.isSame with
   | false => rfl
   | true => rw [hq, Bool.and_eq_true] at this; cases this.2
  rw [instOb_real τ hs, List.length_cons, List.length_cons, instOb_len τ h.2]
/-- What a way out tells of the memory. -/
theorem Viewed.end_ {K : Option (List Nat)} {pin : Pat} {m l : AMem} {x0 : pin.I} {pre : List Nat} {q : OutD} {sl : ASl} {x : q.p.I} {s : Sg} {J : Imm} (hr : pin.ob.all PO.real = true) (hl : m = l ++ instOb id pin.ob 0 x0.2)
  (h : Viewed B π w m I ⟨pre.map (fun i => (i, i)), []⟩ q.p sl x s J) (hp : PreOk K pin.ob (unch m pin.ob.length) q pre s) : SA B J (view s q.p.ob.length π) (lk (instOb id q.p.ob 0 x.2 ++ instOb id pin.ob 0 x0.2)) w := by
 have hlen : pin.ob.length ≤ q.p.ob.length := by
  rcases hp with ⟨_, _, _, h1⟩ | ⟨_, _, _, h1⟩
  ·exact h1
  ·unfold sameOk at h1
   rw [Bool.and_eq_true, Bool.and_eq_true] at h1
   exact Nat.le_of_ble_eq_true h1.1.1
 refine h.out (fun i hi => instOb_id_none (by omega)) (fun i hi => ?_)
 rcases hp with ⟨_, _, h1, _⟩ | ⟨_, hpre, _, h1⟩
 ·cases real_at h1 hi
 ·unfold sameOk at h1
  rw [Bool.and_eq_true, Bool.and_eq_true, List.all_eq_true, List.all_eq_true] at h1
  obtain ⟨⟨_, h2⟩, h3⟩ := h1
  have hlt : i < pin.ob.length := by
   refine Nat.lt_of_not_le fun hge => ?_
   have h5 : (PO.same) ∈ q.p.ob.drop pin.ob.length := by
    refine List.mem_of_getElem? (i := i - pin.ob.length) ?_
    rw [List.getElem?_drop, show pin.ob.length + (i - pin.ob.length) = i by omega]
    exact hi
   cases h3 _ h5
  have h2 := h2 i (List.mem_range.2 hlt)
  rw [hi] at h2
  obtain ⟨po, z, e1, e2⟩ := instOb_id_some (x := x0.2) hr hlt
  simp only [e1, PO.isSame, Bool.not_true, Bool.false_or, Bool.and_eq_true, List.all_eq_true] at h2
  obtain ⟨h4, h5, h6⟩ := h2
  have hkeep : ∀ j, ((keep q.p pin.ob.length).any (Nat.beq j)) = true → j ∈ pre := fun j hj => by
   obtain ⟨j', h7, e⟩ := List.any_eq_true.1 hj
   rw [hpre]
   exact Nat.eq_of_beq_eq_true e ▸ h7
  refine ⟨?_, ?_, po, z, e2, fun j hj => hkeep j (h6 j hj)⟩
  ·rw [hpre]
   unfold keep
   rw [List.mem_filter]
   exact ⟨List.mem_range.2 hlt, by rw [hi]; rfl⟩
  ·obtain ⟨j, h7, e⟩ := List.any_eq_true.1 h4
   have e := Nat.eq_of_beq_eq_true e
   subst e
   unfold unch at h7
   rw [List.mem_filter] at h7
   have h8 := h7.2
   rw [hl, List.length_append, instOb_len id hr, Nat.add_sub_cancel, List.take_left', Bool.not_eq_true', List.any_eq_false] at h8
   ·rw [hl, lk_append]
    cases hq : lk l i with
    | none => rfl
    | some ob =>
     exfalso
     have : ∃ b ∈ l, b.1 = i := by
      clear hl h8
      induction l with
      | nil => cases hq
      | cons b l ih =>
       obtain ⟨j, a⟩ := b
       rw [lk_cons] at hq
       by_cases e : j = i
       ·exact ⟨_, List.mem_cons_self, e⟩
       ·rw [if_neg e] at hq
        obtain ⟨b, hb, e2⟩ := ih hq
        exact ⟨b, List.mem_cons_of_mem _ hb, e2⟩
     obtain ⟨b, hb, e⟩ := this
     have := h8 b hb
     rw [e, Nat.beq_refl] at this
     exact this rfl
   ·rfl

/-- A piece of code does what its run tells. -/
theorem frag_of_run (E : Env) {K : Code} {L : Option (List Nat)} (hfns : ∀ g d, (g, d) ∈ E.fns → FunOK E.P g d) (hfrs : FrsOK E K) {c : Code} {p : Nat} (hp : At K p c) {d : FragD} (hr : d.pin.ob.all PO.real = true) (h : ∀ x, frRun E L c p d x = d.g x) : FragOKK L E.P E.n c d := by
 intro x y q z hg ho I π a w hs hm hn Q hk
 have hrun := (h x).trans hg
 unfold frRun at hrun
 rw [run_inv (Pm := fun m => ∃ l, m = l ++ instOb id d.pin.ob 0 x.2) (fun ws m ⟨l, hl⟩ => ⟨ws ++ l, by rw [hl, List.append_assoc]⟩) c p _ _ ⟨[], rfl⟩] at hrun
 refine run_ok hfns hfrs c p _ _ y hp hrun I π a w hs hm hn Q (fun k st' I' π' a' w' k1 k2 k3 k4 k5 k6 k7 k8 => ?_)
 have hsf : ∃ l, st'.m = l ++ instOb id d.pin.ob 0 x.2 := by
  unfold gd at k1
  split at k1
  ·assumption
  ·cases k1
 rw [gd_pos hsf] at k1
 obtain ⟨lm, hlm⟩ := hsf
 obtain ⟨u, ws, rs, hex, h2⟩ := Tr.run_ex k1
 injection h2 with h2
 subst h2
 obtain ⟨q', z', x', s, J, pre, e1, e2, e3, hv, hp⟩ := extTr_ok k5 hex
 rw [ho] at e1
 injection e1 with e1
 cases e1
 have o2 := hv.end_ hr hlm hp
 have o1 := hv.outLe rfl hp k2
 subst e3
 rw [← e2]
 refine hk J (view s q.p.ob.length π') a' w' o1 (Imm.le_trans k3 hv.le) (fun t av ht => ?_) o2 k6 k7 k8
 obtain ⟨av0, q1, q2⟩ := hv.slot t av ht
 obtain ⟨v, q3, q4⟩ := k4 t av0 q1
 exact ⟨v, q3, q2 J (Imm.le_refl _) v (q4.ext (Pi.le_refl _) hv.le)⟩

/-! ### functions -/
theorem run_asAddr (A : Addr) (w : World) : (asAddr (.pointer (some A))).run P w = .ok A w := rfl
def resF (tmps : Array Value) : ResultVar → Sem Value
 | .tmp t => Pure.pure (tmps.getD t undef)
 | .cell q t => do loadVar t (← asAddr (tmps.getD q undef))
theorem resA_ok {m : AMem} {sl : ASl} {a : Act} (hs : SlR π I sl a) (hm : SA B I π (lk m) w) : ∀ {l : List ResultVar} {ws : List AW}, resA P sl m l = some ws →
  ∃ vs, (l.mapM (resF a.tmps)).run P w = .ok vs w ∧ rl (relW π I) ws vs
 | [], ws, h => by
  simp only [resA, Option.some.injEq] at h
  subst h
  exact ⟨[], rfl, trivial⟩
 | .tmp t :: r, ws, h => by
  simp only [resA] at h
  split at h
  ·rename_i x hx
   split at h
   ·rename_i l hl
    injection h with h
    subst h
    obtain ⟨vs, h1, h2⟩ := resA_ok hs hm hl
    obtain ⟨y, h3, h4⟩ := hs t _ hx
    refine ⟨y :: vs, ?_, h4, h2⟩
    rw [List.mapM_cons]
    simp only [resF, Sem.run_bind, Sem.run_pure, Result.andThen_ok, h1]
    rw [Array.getD_eq_getD_getElem?, h3]
    rfl
   ·cases h
  ·cases h
 | .cell q t :: r, ws, h => by
  simp only [resA] at h
  split at h
  ·rename_i o off hx
   split at h
   ·rename_i ty cs ho
    split at h
    ·rename_i x l hp hl
     injection h with h
     subst h
     obtain ⟨vs, h1, h2⟩ := resA_ok hs hm hl
     obtain ⟨y, h3, p, g, h4, h5, rfl⟩ := hs q _ hx
     obtain ⟨p', g', ys, k1, k2, k3, k4⟩ := atO_blk hm ho
     rw [h4] at k1
     injection k1 with k1
     subst k1
     rw [h5] at k2
     injection k2 with k2
     injection k2 with k2
     subst k2
     obtain ⟨y', q1, q2⟩ := load_part (P := P) hp k3 (rangeAt_blk k4)
     rw [Nat.zero_add] at q1
     refine ⟨y' :: vs, ?_, q2, h2⟩
     have q1 : (loadVar t ⟨g, off, none⟩).run P w = .ok y' w := by
      simpa only [Instr.loadAt, Instr.sureAddr, Sem.run_bind, Sem.run_pure, Result.andThen_ok] using q1
     rw [List.mapM_cons]
     have he : a.tmps.getD q undef = .pointer (some ⟨g, off, none⟩) := by rw [Array.getD_eq_getD_getElem?, h3]; rfl
     simp only [resF, he, Sem.run_bind, run_asAddr, Result.andThen_ok, q1, h1]
     rfl
    ·cases h
   ·cases h
  ·cases h
theorem results_ok {fn : Func} {m : AMem} {sl : ASl} {a : Act} (hs : SlR π I sl a) (hm : SA B I π (lk m) w) {ws : List AW} (h : resA P sl m fn.results.toList = some ws) : ∃ v, (results fn a.tmps).run P w = .ok v w ∧ relV π I (oneA ws) v := by
 obtain ⟨vs, h1, h2⟩ := resA_ok (P := P) hs hm h
 have hr : (results fn a.tmps).run P w = .ok (if h : vs.toArray.size = 1 then vs.toArray[0] else .tuple vs.toArray) w := by
  unfold results
  rw [Array.mapM_eq_mapM_toList, mapM_congr_list (g := resF a.tmps) fn.results.toList (fun x _ => by cases x <;> rfl)]
  simp only [Sem.run_bind, Sem.run_map, Sem.run_pure, h1, Result.andThen_ok]
 refine ⟨_, hr, ?_⟩
 match ws, vs, h2 with
 | [], [], _ => exact ⟨[], rfl, trivial⟩
 | [x], [y], h2 => exact h2.1
 | x :: x2 :: ws, y :: y2 :: vs, h2 =>
  have hne : ¬ (y :: y2 :: vs).toArray.size = 1 := by simp
  rw [dif_neg hne]
  exact ⟨_, rfl, h2⟩
/-- A function does what its run tells. -/
theorem fun_of_run (E : Env) {f : FuncId} {fn : Func} (hf : E.P.funcs[f]? = some fn) (hb : fn.body = some (cBody fn)) (hn : fn.ntmps = E.n) (hfns : ∀ g d, (g, d) ∈ E.fns → FunOK E.P g d) (hfrs : FrsOK E (cBody fn)) {d : FragD} (hr : d.pin.ob.all PO.real = true) (h : ∀ x, fnRun E fn d x = d.g x) : FunOK E.P f d := by
 intro x y q z hg ho I π w vs hlen _ hvs hm
 have hrun := (h x).trans hg
 unfold fnRun at hrun
 rw [run_inv (Pm := fun m => ∃ l, m = l ++ instOb id d.pin.ob 0 x.2) (fun ws m ⟨l, hl⟩ => ⟨ws ++ l, by rw [hl, List.append_assoc]⟩) (cBody fn) 1 _ _ ⟨[], rfl⟩] at hrun
 have hl := hlen fn hf
 refine calls_of_wp hf hb ?_
 refine run_ok hfns hfrs (cBody fn) 1 _ _ y (At.top _) hrun I π _ w (fun t av ht => ?_) hm ?_ _ (fun k st' I' π' a' w' k1 k2 k3 k4 k5 k6 k7 k8 => ?_)
 ·obtain ⟨v, h1, h2⟩ := hvs t av ht
  refine ⟨v, ?_, h2⟩
  rw [Array.getElem?_append_left (by simpa using (List.getElem?_eq_some_iff.1 h1).1), List.getElem?_toArray]
  exact h1
 ·simp only [Array.size_append, List.size_toArray, Array.size_replicate]
  omega
 ·have hsf : ∃ l, st'.m = l ++ instOb id d.pin.ob 0 x.2 := by
   unfold gd at k1
   split at k1
   ·assumption
   ·cases k1
  rw [gd_pos hsf] at k1
  obtain ⟨lm, hlm⟩ := hsf
  have fin : (match resA E.P st'.sl st'.m fn.results.toList with | some l => (extTr none d.pin.ob (unch st'.m d.pin.ob.length) 1 [(0, oneA l)] d.outs).run st'.m [] fun y _ _ => some y | none => none) = some y →
    a'.defers = [] ∧ ∃ v, (results fn a'.tmps).run E.P w' = .ok v w' ∧ (∃ v0, Ending.returned v = .returned v0 ∧ ∃ π' J, π.le π' ∧ I.le J ∧ SA ⟨w, fpS π (lk (instOb id d.pin.ob 0 x.2)), I⟩ J π' (lk (instOb id q.p.ob 0 (q.of z).2 ++ instOb id d.pin.ob 0 x.2)) w' ∧ ∀ av, lk (instSl id q.p.sl (q.of z).1) 0 = some av → relV π' J av v0) := by
   intro k1
   split at k1
   ·rename_i l hl
    obtain ⟨u, ws, rs, hex, h2⟩ := Tr.run_ex k1
    injection h2 with h2
    subst h2
    obtain ⟨q', z', x', s, J, pre, e1, e2, e3, hv, hp⟩ := extTr_ok k5 hex
    rw [ho] at e1
    injection e1 with e1
    cases e1
    have o2 := hv.end_ hr hlm hp
    obtain ⟨πF, o1, o3, o4⟩ := (hv.outLe rfl hp k2).fix (fun i hi => hm.dom i (instOb_id_none hi)) o2
    subst e3
    obtain ⟨v, r1, r2⟩ := results_ok k4 k5 hl
    refine ⟨k7, v, r1, v, rfl, πF, J, o1, Imm.le_trans k3 hv.le, o4, ?_⟩
    intro av hav
    obtain ⟨av0, q1, q2⟩ := hv.slot 0 av hav
    rw [lk_cons, if_pos rfl] at q1
    injection q1 with q1
    subst q1
    exact (q2 J (Imm.le_refl _) v (r2.ext (Pi.le_refl _) hv.le)).ext o3 (Imm.le_refl _)
   ·cases k1
  match k, k1 with
  | 0, k1 => exact fin k1
  | 1, k1 => exact fin k1
  | k + 2, k1 => cases k1
end
end Go.Proofs.YtijhdekfbjafgaaGreat.AM
namespace Go.Proofs.YtijhdekfbjafgaaGreat.AM
open Go Go.RowKit Go.Proofs.YtijhdekfbjafgaaGreat.RW

def joinSl : (vs cs : List (Nat × PV)) → SlI vs → SlI cs → SlI (vs ++ cs)
 | [], _, _, y => y
 | _ :: r, cs, x, y => (x.1, joinSl r cs x.2 y)
def ctxSl : (vs cs : List (Nat × PV)) → SlI (vs ++ cs) → SlI cs
 | [], _, x => x
 | _ :: r, cs, x => ctxSl r cs x.2
def varSl : (vs cs : List (Nat × PV)) → SlI (vs ++ cs) → SlI vs
 | [], _, _ => ()
 | _ :: r, cs, x => (x.1, varSl r cs x.2)
theorem inst_join (τ : Nat → Nat) : ∀ (vs cs : List (Nat × PV)) (x : SlI vs) (y : SlI cs), instSl τ (vs ++ cs) (joinSl vs cs x y) = instSl τ vs x ++ instSl τ cs y
 | [], _, _, _ => rfl
 | p :: r, cs, x, y => by
  show (p.1, p.2.inst τ x.1) :: instSl τ (r ++ cs) (joinSl r cs x.2 y) = _
  rw [inst_join τ r cs x.2 y]
  rfl
theorem join_split : ∀ (vs cs : List (Nat × PV)) (x : SlI (vs ++ cs)), joinSl vs cs (varSl vs cs x) (ctxSl vs cs x) = x
 | [], _, _ => rfl
 | p :: r, cs, x => by
  show (x.1, joinSl r cs (varSl r cs x.2) (ctxSl r cs x.2)) = x
  rw [join_split r cs x.2]
  rfl

/-- A loop: what its rounds hand on (vs, ob), what they only look at (cs), its ways out. -/
structure LoopD where
 vs : List (Nat × PV)
 cs : List (Nat × PV)
 ob : List PO
 R : Type
 to : SlI vs × ObI ob → R
 of : R → SlI vs × ObI ob
 ok : ∀ y, of (to y) = y
 q : OutD
 r : List OutD
 step : (SlI (vs ++ cs) × ObI ob) → Option (R ⊕ OutI (q :: r))
 K : List Nat
namespace LoopD
def pin (L : LoopD) : Pat := ⟨L.vs ++ L.cs, L.ob⟩
def bodyD (L : LoopD) : FragD := { pin := ⟨L.vs ++ L.cs, L.ob⟩, outs := ⟨0, ⟨L.vs, L.ob⟩, L.R, L.to, L.of, L.ok⟩ :: L.q :: L.r, g := L.step }
def loopD (L : LoopD) (G : (SlI (L.vs ++ L.cs) × ObI L.ob) → Option (OutI (L.q :: L.r))) : FragD := { pin := ⟨L.vs ++ L.cs, L.ob⟩, outs := L.q :: L.r, g := G }
def next (L : LoopD) (x : SlI (L.vs ++ L.cs) × ObI L.ob) (r : L.R) : SlI (L.vs ++ L.cs) × ObI L.ob := (joinSl L.vs L.cs (L.of r).1 (ctxSl L.vs L.cs x.1), (L.of r).2)
end LoopD

theorem keys_inst {τ : Nat → Nat} : ∀ {ps : List (Nat × PV)} {x : SlI ps} {t : Nat} {av : AV}, lk (instSl τ ps x) t = some av → t ∈ ps.map (·.1)
 | [], _, _, _, h => by cases h
 | p :: ps, x, t, av, h => by
  simp only [instSl] at h
  rw [lk_cons] at h
  split at h
  ·rename_i e
   exact List.mem_cons.2 (.inl e.symm)
  ·exact List.mem_cons_of_mem _ (keys_inst h)

def PC.flat : PC → Bool
 | .h _ => true
 | .full _ => true
 | _ => false
def PW.flat : PW → Bool
 | .c p => p.flat
 | .st _ => true
 | .agg l => l.all PC.flat
def PV.flat : PV → Bool
 | .w p => p.flat
 | .tup l => l.all PW.flat
section
variable {π2 π3 : Pi} {J : Imm}
theorem flat_C {p : PC} {x : p.I} {y : Value} (hp : p.flat = true) (h : relC π2 J (p.inst id x) y) : relC π3 J (p.inst id x) y := by
 cases p with
 | h c => exact one_any π2 π3 (c := c) h
 | full c => exact h
 | _ => cases hp
theorem flat_Cs : ∀ {ps : List PC} {x : PCsI ps} {ys : List Value}, ps.all PC.flat = true → rl (relC π2 J) (instCs id ps x) ys → rl (relC π3 J) (instCs id ps x) ys
 | [], _, [], _, _ => trivial
 | p :: ps, x, y :: ys, hp, h => by
  rw [List.all_cons, Bool.and_eq_true] at hp
  exact ⟨flat_C hp.1 h.1, flat_Cs hp.2 h.2⟩
 | [], _, _ :: _, _, h => h.elim
 | _ :: _, _, [], _, h => h.elim
theorem flat_W {p : PW} {x : p.I} {y : Value} (hp : p.flat = true) (h : relW π2 J (p.inst id x) y) : relW π3 J (p.inst id x) y := by
 cases p with
 | c p => exact flat_C hp h
 | st c => obtain ⟨ys, h1, h2⟩ := h; exact ⟨ys, h1, cells_any π2 π3 h2⟩
 | agg l => obtain ⟨ys, h1, h2⟩ := h; exact ⟨ys, h1, flat_Cs hp h2⟩
theorem flat_Ws : ∀ {ps : List PW} {x : PWsI ps} {ys : List Value}, ps.all PW.flat = true → rl (relW π2 J) (instWs id ps x) ys → rl (relW π3 J) (instWs id ps x) ys
 | [], _, [], _, _ => trivial
 | p :: ps, x, y :: ys, hp, h => by
  rw [List.all_cons, Bool.and_eq_true] at hp
  exact ⟨flat_W hp.1 h.1, flat_Ws hp.2 h.2⟩
 | [], _, _ :: _, _, h => h.elim
 | _ :: _, _, [], _, h => h.elim
theorem flat_V {p : PV} {x : p.I} {y : Value} (hp : p.flat = true) (h : relV π2 J (p.inst id x) y) : relV π3 J (p.inst id x) y := by
 cases p with
 | w p => exact flat_W hp h
 | tup l => obtain ⟨ys, h1, h2⟩ := h; exact ⟨ys, h1, flat_Ws hp h2⟩
theorem flat_Sl : ∀ {ps : List (Nat × PV)} {x : SlI ps} {t : Nat} {av : AV}, ps.all (fun p => p.2.flat) = true → lk (instSl id ps x) t = some av → ∀ y, relV π2 J av y → relV π3 J av y
 | [], _, _, _, _, h => by cases h
 | p :: ps, x, t, av, hp, h => by
  rw [List.all_cons, Bool.and_eq_true] at hp
  simp only [instSl] at h
  rw [lk_cons] at h
  split at h
  ·injection h with h
   subst h
   exact fun y hy => flat_V hp.1 hy
  ·exact flat_Sl hp.2 h
end
/-- Pieces that turn are gone at each way out. -/
def LoopD.outsOk (L : LoopD) : Bool := ((L.q :: L.r).all fun d => Nat.blt 0 d.k && (List.range L.ob.length).all fun i => L.K.any (Nat.beq i) || !(keep d.p L.ob.length).any (Nat.beq i)) && (L.ob.all PO.real && (L.q :: L.r).all fun d => Nat.ble L.ob.length d.p.ob.length && d.p.ob.all fun p => !p.isSame)
theorem lk_over {ps qs : List PO} {x : ObI ps} {y : ObI qs} (hs : ps.all (fun p => !p.isSame) = true) (hl : qs.length ≤ ps.length) (o : Nat) : lk (instOb id ps 0 x ++ instOb id qs 0 y) o = lk (instOb id ps 0 x) o := by
 rw [lk_append]
 by_cases ho : o < ps.length
 ·rcases instOb_get id ps 0 x o (Nat.zero_le _) (by omega) (fun a b _ _ _ _ e => e) with ⟨h1, _⟩ | ⟨p, z, _, h1, _⟩
  ·rw [List.all_eq_true] at hs
   cases hs _ (List.mem_of_getElem? h1)
  ·have h1 : lk (instOb id ps 0 x) o = _ := h1
   rw [h1]; rfl
 ·rw [instOb_id_none (by omega), instOb_id_none (by omega)]; rfl

theorem loop_ok {P : Program} {n : Nat} {b : Code} (L : LoopD) (hctx : L.cs.all (fun p => p.2.flat && !(wr b).any (Nat.beq p.1)) = true) (hex : L.outsOk = true) (hB : FragOKK (some L.K) P n b L.bodyD)
  (G : Nat → (SlI (L.vs ++ L.cs) × ObI L.ob) → Option (OutI (L.q :: L.r))) (h0 : ∀ x, G 0 x = none) (hs : ∀ k x, G (k + 1) x = (L.step x).bind fun z => match z with | .inl r => G k (L.next x r) | .inr y => some y) :
  ∀ k, FragOKL k P n b (L.loopD (G k)) := by
 unfold LoopD.outsOk at hex
 rw [Bool.and_eq_true, Bool.and_eq_true] at hex
 obtain ⟨hex, hreal, hov⟩ := hex
 have hreal' : L.ob.all (fun p => !p.isSame) = true := by
  rw [List.all_eq_true] at hreal ⊢
  exact fun p hp => ((Bool.and_eq_true _ _).mp (hreal p hp)).2
 have hov : ∀ d ∈ L.q :: L.r, L.ob.length ≤ d.p.ob.length ∧ d.p.ob.all (fun p => !p.isSame) = true := fun d hd => by
  rw [List.all_eq_true] at hov
  have := hov d hd
  rw [Bool.and_eq_true] at this
  exact ⟨Nat.le_of_ble_eq_true this.1, this.2⟩
 rw [List.all_eq_true] at hex
 have hpos : ∀ d ∈ L.q :: L.r, d.k ≠ 0 := fun d hd e => by
  have := hex d hd
  rw [Bool.and_eq_true, e] at this
  cases this.1
 have hnorm : ∀ d ∈ L.q :: L.r, ofK d.k ≠ .normal := fun d hd => by
  have := hpos d hd
  intro e
  match hk : d.k, this with
  | 1, _ => rw [hk] at e; cases e
  | k + 2, _ => rw [hk] at e; cases e
 have hkeep : ∀ d ∈ L.q :: L.r, ∀ i, i < L.ob.length → i ∈ keep d.p L.ob.length → i ∈ L.K := fun d hd i hi hk => by
  have := hex d hd
  rw [Bool.and_eq_true, List.all_eq_true] at this
  have := this.2 i (List.mem_range.2 hi)
  rw [Bool.or_eq_true] at this
  rcases this with h | h
  ·obtain ⟨j, hj, e⟩ := List.any_eq_true.1 h
   exact Nat.eq_of_beq_eq_true e ▸ hj
  ·simp only [Bool.not_eq_true', List.any_eq_false] at h
   exact absurd (Nat.beq_refl i) (h i hk)
 have hflat : L.cs.all (fun p => p.2.flat) = true := by
  rw [List.all_eq_true] at hctx ⊢
  exact fun p hp => (Bool.and_eq_true _ _ ▸ hctx p hp).1
 have hc : ∀ t ∈ L.cs.map (·.1), t ∉ wr b := fun t ht hm => by
  obtain ⟨p, hp, rfl⟩ := List.mem_map.1 ht
  rw [List.all_eq_true] at hctx
  have := hctx p hp
  simp only [Bool.and_eq_true, Bool.not_eq_true', List.any_eq_false] at this
  exact this.2 _ hm (by simp)
 intro k x y q z hg ho I π a w hsl hm hn Q hk
 obtain ⟨x02, hx0⟩ : ∃ x02, x02 = x.2 := ⟨_, rfl⟩
 show Code.rounds P b Q k a w
 have hdom : ∀ i, L.ob.length ≤ i → π i = none := fun i hi => hm.dom i (instOb_id_none hi)
 generalize hB0 : (⟨w, fpS π (lk (instOb id (L.loopD (G k)).pin.ob 0 x.2)), I⟩ : Base) = B0 at hm hk
 have rounds : ∀ k (x : SlI (L.vs ++ L.cs) × ObI L.ob) (I' : Imm) (π' : Pi) (a' : Act) (w' : World), G k x = some y → SlR π' I' (instSl id (L.vs ++ L.cs) x.1) a' → SA B0 I' π' (lk (instOb id L.ob 0 x.2)) w' → (∀ i ∈ L.K, ∀ p, π i = some p → π' i = some p) → I.le I' → a'.tmps.size = n → a'.defers = a.defers → (∀ t, t ∉ wr b → a'.tmps[t]? = a.tmps[t]?) → a'.tmps.size = a.tmps.size → Code.rounds P b Q k a' w' := by
  intro k
  induction k with
  | zero => intro x I' π' a' w' h; rw [h0] at h; cases h
  | succ k ih =>
   intro x I' π' a' w' h hsl hm h1 h2 h3 h4 h5 h6
   rw [hs] at h
   obtain ⟨u, hu, h⟩ := Option.bind_eq_some_iff.1 h
   show b.wp P (Exit.then (Code.rounds P b Q k) Q) a' w'
   cases u with
   | inl r =>
    refine hB x (.inl r) ⟨0, ⟨L.vs, L.ob⟩, L.R, L.to, L.of, L.ok⟩ r hu rfl I' π' a' w' hsl hm.restart h3 _ (fun I2 π2 a2 w2 k1 k2 k3 k4 k5 k6 k7 => ?_)
    show Code.rounds P b Q k a2 w2
    have k4 := k4.congr (fun o => lk_over (ps := L.ob) hreal' (Nat.le_refl _) o)
    have k1 : ∀ i ∈ L.K, ∀ p, π' i = some p → π2 i = some p := by
     rcases k1 with ⟨K0, e, _, k1⟩ | ⟨e | e, _⟩
     ·injection e with e
      subst e
      exact k1
     ·cases e
     ·exact absurd rfl e
    refine ih (L.next x r) I2 π2 a2 w2 h (fun t av ht => ?_) (hm.comp k4) (fun i hi p hp => k1 i hi p (h1 i hi p hp)) (Imm.le_trans h2 k2) (by rw [k5]; exact h3) (k6.trans h4) (fun t ht => (k7 t ht).trans (h5 t ht)) (k5.trans h6)
    have ht : lk (instSl id (L.vs ++ L.cs) (joinSl L.vs L.cs (L.of r).1 (ctxSl L.vs L.cs x.1))) t = some av := ht
    rw [inst_join, lk_append] at ht
    cases hl : lk (instSl id L.vs (L.of r).1) t with
    | some av1 =>
     rw [hl] at ht
     injection ht with ht
     subst ht
     exact k3 t av1 hl
    | none =>
     rw [hl] at ht
     -- what the rounds only look at
     have hx : lk (instSl id L.cs (ctxSl L.vs L.cs x.1)) t = some av := ht
     have hctxsl : ∃ y0, a'.tmps[t]? = some y0 ∧ relV π' I' av y0 := by
      have hxx := join_split L.vs L.cs x.1
      by_cases hv : lk (instSl id L.vs (varSl L.vs L.cs x.1)) t = none
      ·refine hsl t av ?_
       rw [← hxx, inst_join, lk_append, hv]
       exact hx
      ·exfalso
       obtain ⟨av2, hav2⟩ := Option.ne_none_iff_exists'.1 hv
       have hmem := keys_inst hav2
       -- the same slot would be told among the variables
       have hl2 : lk (instSl id L.vs (L.of r).1) t ≠ none := by
        have : ∀ (ps : List (Nat × PV)) (x : SlI ps), t ∈ ps.map (·.1) → lk (instSl id ps x) t ≠ none := by
         intro ps
         induction ps with
         | nil => intro x h; cases h
         | cons p ps ih =>
          intro x h
          simp only [instSl]
          rw [lk_cons]
          by_cases e : p.1 = t
          ·rw [if_pos e]; simp
          ·rw [if_neg e]
           exact ih x.2 ((List.mem_cons.1 h).resolve_left (fun e2 => e e2.symm))
        exact this L.vs _ hmem
       exact hl2 hl
     obtain ⟨y0, q1, q2⟩ := hctxsl
     exact ⟨y0, by rw [k7 t (hc t (keys_inst hx))]; exact q1, flat_Sl hflat hx y0 (q2.ext (Pi.le_refl _) k2)⟩
   | inr y' =>
    obtain rfl : y' = y := Option.some.inj h
    refine hB x (.inr y') q z hu ho I' π' a' w' hsl hm.restart h3 _ (fun I2 π2 a2 w2 k1 k2 k3 k4 k5 k6 k7 => ?_)
    have hqm : q ∈ L.q :: L.r := outD_mem ho
    have k4 := k4.congr (fun o => (lk_over (ps := q.p.ob) (hov q hqm).2 (hov q hqm).1 o).trans (lk_over (ps := q.p.ob) (qs := L.ob) (y := x02) (hov q hqm).2 (hov q hqm).1 o).symm)
    rw [hx0] at k4
    have k1 : outLe none L.ob.length q π π2 := by
     rcases k1 with ⟨K0, _, e, _⟩ | ⟨_, k1⟩
     ·exact absurd e (hpos q hqm)
     ·refine .inr ⟨.inl rfl, fun i hi => ?_⟩
      rcases k1 i hi with ⟨e1, e2⟩ | e
      ·exact .inl ⟨e1, fun p hp => e2 p (h1 i (hkeep q hqm i hi e1) p hp)⟩
      ·exact .inr e
    obtain ⟨πF, q1, q2, q3⟩ := k1.fix hdom (hm.comp k4)
    have hq := hk I2 πF a2 w2 q1 (Imm.le_trans h2 k2) (k3.ext q2 (Imm.le_refl _)) q3 (k5.trans h6) (k6.trans h4) (fun t ht => (k7 t ht).trans (h5 t ht))
    have hne := hnorm q hqm
    generalize ofK q.k = e at hq hne
    cases e with
    | normal => exact absurd rfl hne
    | _ => exact hq
 exact rounds k x I π a w hg hsl hm (fun _ _ _ h => h) (Imm.le_refl _) hn rfl (fun _ _ => rfl) rfl
end Go.Proofs.YtijhdekfbjafgaaGreat.AM
namespace Go.Proofs.YtijhdekfbjafgaaGreat.RW
open Go Go.RowKit

section
variable {P : Program} {c : Code} {Q : Exit → Act → World → Prop} {A : Fr} {K : List (Nat × Value)} {B : Base} {I : Imm} {nx : Nat} {L : List Blk} {X : List Res} {os : List Oper} {p : Nat}

/-- A run over known blocks; of the slots behind it, those that are still asked. -/
theorem RL.simP (R : List (Addr × Value)) (hR : RFacts B I X R) (n : Nat) (locs : List Loc) {K' : List (Nat × Value)} {nx' : Nat} {L' : List Blk}
  (h : (simOps P R os A ((os.drop p).take n) locs K nx L []).map (fun x => (K'.map (fun q => lookK x.1 q.1), x.2.1, x.2.2.1)) = some (K'.map (fun q => some q.2), nx', L'))
  (he : (simOps P R os A ((os.drop p).take n) locs K nx L []).map (fun x => x.2.2.2.map (·.1)) = (simOps P R os A ((os.drop p).take n) locs K nx L []).map (fun x => x.2.2.2.map (·.2)))
  (k : RL P os Q (p + n) A K' B I nx' L' X) : RL P os Q p A K B I nx L X := by
 cases hsim : simOps P R os A ((os.drop p).take n) locs K nx L [] with
 | none => rw [hsim] at h; cases h
 | some x =>
  have h1 := h
  rw [hsim] at h1
  simp only [Option.map_some, Option.some.injEq, Prod.mk.injEq] at h1
  obtain ⟨h2, h3, h4⟩ := h1
  refine RL.sim (K' := x.1) (nx' := nx') (L' := L') R hR n locs ?_ he ?_
  ·rw [hsim]
   simp only [Option.map_some, h3, h4]
  ·exact RL.sub h2 (.refl _) (.refl _) k

/-- A store of a whole element. -/
theorem RL.storeL {α : Type} {T e : TypeId} (sz : Nat) (xi : Nat) {S : Option Addr} {g : Nat} (hS : S = some ⟨g, 0, none⟩) (cap : Nat) (i : Int) (cs news : List Value) (v : Value) (dt : Ty α) (l : List α) (x : α)
  (hl : ready os p K none = true)
  (hx : execOp (evalK K) (os.getD p default) = (Instr.storeAt T (.pointer (some ⟨g, 0 + i.toNat * sz, none⟩)) v).bind fun _ => .pure .skip)
  (hz : (P.info? T).map (·.size) = some sz) (hd : dt.sz = sz) (hv : v.cells = news.toArray) (hk : dt.K I x news) (hX : X[xi]? = some (orow e sz S l.length cap cs)) (hr : Reps dt I l cs) (h0 : 0 ≤ i) (hi : i < (l.length : Int))
  (kk : ∀ cs', Reps dt I (l.set i.toNat x) cs' → RL P os Q (p + 1) A K B I nx L (X.set xi (orow e sz S (l.set i.toNat x).length cap cs'))) : RL P os Q p A K B I nx L X := by
 subst hd
 refine RL.storeRow dt.sz xi hS l.length cap i.toNat cs news v hl hx hz hv (dt.len hk) (fun u hu => dt.one hk u hu) hX (by omega) ?_
 have := kk _ (hr.set i.toNat x news (by omega) hk)
 rwa [List.length_set] at this
theorem Reps.getE {α : Type} {d : Ty α} {l : List α} {cs : List Value} (h : Reps d I l cs) (z : α) (i : Int) (h0 : 0 ≤ i) (h1 : i < (l.length : Int)) : ∃ c, d.K I (l.getD i.toNat z) c ∧ ∀ j u, c[j]? = some u → cs[i.toNat * d.sz + j]? = some u := by
 have hl : i.toNat < l.length := by omega
 obtain ⟨c, hk, hc⟩ := h.get i.toNat _ (List.getElem?_eq_getElem hl)
 refine ⟨c, ?_, hc⟩
 rw [List.getD_eq_getElem?_getD, List.getElem?_eq_getElem hl]
 exact hk
/-- One operation that is done and tells nothing. -/
theorem RL.oneS (N : World → Prop) (hl : ready os p K none = true)
  (h : ∀ w, Sat B I nx L X w → ∃ w', (execOp (evalK K) (os.getD p default)).run P w = .ok .skip w' ∧ N w')
  (k : ∀ w', N w' → ∀ a', Knows A K a' → wpList P os.toArray Q (os.drop (p + 1)) a' w') : RL P os Q p A K B I nx L X := by
 intro a w ha hs
 unfold ready at hl
 split at hl
 ·cases hl
 ·rename_i o ho
  simp only [Bool.and_eq_true, beq_iff_eq, List.all_eq_true] at hl
  obtain ⟨⟨hw, hk1, hk2⟩, hd⟩ := hl
  have hgo : os.getD p default = o := by rw [List.getD_eq_getElem?_getD, ho]; rfl
  rw [drop_get (by rw [ho]; rfl), hgo]
  simp only [wpList]
  rw [if_pos (wantedK_spec ha hw)]
  refine .inl ?_
  unfold Oper.wp
  rw [ha.exec hk1 (fun x hx => hk2 x (by simpa using hx))]
  obtain ⟨w', hr, hN⟩ := h w hs
  rw [hgo] at hr
  rw [hr]
  show wpList P os.toArray Q (os.drop (p + 1)) (a.put o.dst undef) w'
  rw [hd]
  exact k w' hN _ (ha.put none undef)
end
section
variable {I : Imm} {cs : List Value}
theorem scalar_own {α : Type} (z : α) {enc : α → Value} {h1 : ∀ x, (enc x).oneCell' = true} {l : List α} (h : Reps (Ty.scalar enc h1) I l cs) (i : Int) (h0 : 0 ≤ i) (h2 : i < (l.length : Int)) :
  ∀ j u, [enc (l.getD i.toNat z)][j]? = some u → cs[i.toNat * 1 + j]? = some u := by
 obtain ⟨c, hk, hc⟩ := h.getE z i h0 h2
 have hk' : c = [enc (l.getD i.toNat z)] := hk
 subst hk'
 exact hc
end
theorem Ty.int_own {k : IntKind} {I : Imm} {cs : List Value} {l : List Int} (h : Reps (Ty.int k) I l cs) (i : Int) (h0 : 0 ≤ i) (h2 : i < (l.length : Int)) : ∀ j u, [Value.int k (l.getD i.toNat 0)][j]? = some u → cs[i.toNat * 1 + j]? = some u := scalar_own 0 h i h0 h2
end Go.Proofs.YtijhdekfbjafgaaGreat.RW
namespace Go.Proofs.YtijhdekfbjafgaaGreat.RW
open Go Go.RowKit

/-- The whole memory, as cells that never turn. -/
def wImm (W : World) : Imm := look W
theorem wImm_at (W : World) : (wImm W).at_ W := fun _ _ h => h
/-- What reads as a datum of type t is told by d, with p. -/
def Opens (P : Program) {α : Type} (d : Ty α) (t : TypeId) (p : α → Prop) : Prop :=
 ∀ {H : Type} {enc : TypeId × Value → H} (W : World) (base : Nat) (sp : Nat → Bool) (held : Bool) (fuel : Nat) (cs : List Value) (x : DataW H × List MemPlace), DataW.trod enc P W base sp held fuel t cs = some x → ∃ a, d.K (wImm W) a cs ∧ p a

section
variable {P : Program} {α β : Type} {d : Ty α} {t e : TypeId} {p : α → Prop}
theorem opens_int {k : IntKind} (ht : P.underlying t = some (.int k)) : Opens P (Ty.int k) t (fun n => (Lit.int k n).wf = true) := by
 intro H enc W base sp held fuel cs x h
 obtain ⟨n, rfl, _, hw⟩ := DataW.trod_int ht h
 exact ⟨n, rfl, hw⟩
theorem opens_bool (ht : P.underlying t = some .bool) : Opens P Ty.bool t (fun _ => True) := by
 intro H enc W base sp held fuel cs x h
 obtain ⟨b, rfl, _⟩ := DataW.trod_bool ht h
 exact ⟨b, rfl, trivial⟩
theorem opens_string (ht : P.underlying t = some .string) : Opens P Ty.string t (fun s => s.size ≤ maxLen) := by
 intro H enc W base sp held fuel cs x h
 obtain ⟨s, rfl, _, hs⟩ := DataW.trod_string ht h
 exact ⟨s, rfl, hs⟩
theorem add_add {a : Addr} (h : a.spot = none) (n m : Nat) : (a.add n).add m = ⟨a.block, a.off + n + m, none⟩ := by
 obtain ⟨b, o, s⟩ := a
 obtain rfl : s = none := h
 unfold Addr.add
 split <;> split <;> simp_all
theorem opens_slice (ho : Opens P d e p) (ht : P.underlying t = some (.slice e)) (hsz : P.cellsOf e = d.sz) (hpos : 0 < d.sz) : Opens P (Ty.slice d) t (fun l => ∀ x ∈ l, p x) := by
 intro H enc W base sp held fuel cs x h
 rcases DataW.trod_slice ht h with ⟨rfl, _⟩ | ⟨a, len, cap, elems, rest, n, _, rfl, _, hb, hl, hm, hlen, hel, _, _⟩
 ·exact ⟨[], ⟨none, 0, rfl, Nat.le_refl _, Rd.nil _ _ _⟩, fun x hx => by cases hx⟩
 ·have hsp0 : 0 < len → a.spot = none := by
   intro hi
   have h1 := hel 0 hi
   rw [List.getElem?_eq_getElem (by rw [hlen]; exact hi), Option.bind_eq_some_iff] at h1
   obtain ⟨c, hc, hy⟩ := h1
   obtain ⟨_, hcl, hcell⟩ := World.cells?_some hc
   have h2 := hcell 0 (by rw [hsz]; exact hpos)
   have hlt : 0 < c.length := by rw [hcl, hsz]; exact hpos
   rw [List.getElem?_eq_getElem hlt, show (a.add (0 * P.cellsOf e)).add 0 = a from by simp [Addr.add]] at h2
   cases hsp : a.spot with
   | none => rfl
   | some s =>
    exfalso
    unfold World.cell? at h2
    split at h2
    ·rw [hsp] at h2; simp at h2
    ·cases h2
  have each : ∀ i, i < len → ∃ v c, d.K (wImm W) v c ∧ p v ∧ a.spot = none ∧ ∀ q u, c[q]? = some u → wImm W ⟨a.block, a.off + i * d.sz + q, none⟩ = some u := by
   intro i hi
   have h1 := hel i hi
   rw [List.getElem?_eq_getElem (by rw [hlen]; exact hi), Option.bind_eq_some_iff] at h1
   obtain ⟨c, hc, hy⟩ := h1
   obtain ⟨v, hk, hp⟩ := ho W base sp held n c _ hy
   obtain ⟨_, hcl, hcell⟩ := World.cells?_some hc
   have hspot := hsp0 (by omega)
   refine ⟨v, c, hk, hp, hspot, fun q u hu => ?_⟩
   have hql : q < c.length := (List.getElem?_eq_some_iff.1 hu).1
   have h2 := hcell q (by rw [← hcl]; exact hql)
   rw [add_add hspot, hsz, hu] at h2
   exact h2
  have build : ∀ n, n ≤ len → ∃ l : List α, l.length = n ∧ (∀ x ∈ l, p x) ∧ ∀ (j : Nat) (v : α), l[j]? = some v → ∃ c, d.K (wImm W) v c ∧ a.spot = none ∧ ∀ q u, c[q]? = some u → wImm W ⟨a.block, a.off + j * d.sz + q, none⟩ = some u := by
   intro n
   induction n with
   | zero => intro _; exact ⟨[], rfl, (fun x hx => by cases hx), fun j v hj => by cases hj⟩
   | succ n ih =>
    intro hn
    obtain ⟨l, hl1, hl2, hl3⟩ := ih (by omega)
    obtain ⟨v, c, hk, hp, hs, hc⟩ := each n (by omega)
    refine ⟨l ++ [v], by simp [hl1], fun x hx => ?_, fun j w hj => ?_⟩
    ·rcases List.mem_append.1 hx with hx | hx
     ·exact hl2 x hx
     ·rw [List.mem_singleton.1 hx]; exact hp
    ·rcases Nat.lt_or_ge j l.length with hlt | hge
     ·rw [List.getElem?_append_left hlt] at hj
      exact hl3 j w hj
     ·rw [List.getElem?_append_right hge] at hj
      have hj0 : j - l.length = 0 := by
       rcases Nat.eq_zero_or_pos (j - l.length) with h0 | h0
       ·exact h0
       ·rw [List.getElem?_eq_none (by simp; omega)] at hj; cases hj
      rw [hj0] at hj
      simp only [List.getElem?_cons_zero, Option.some.injEq] at hj
      subst hj
      obtain rfl : j = n := by omega
      exact ⟨c, hk, hs, hc⟩
  obtain ⟨l, hl1, hl2, hl3⟩ := build len (Nat.le_refl _)
  refine ⟨l, ⟨some a, cap, by rw [hl1], by omega, ⟨by unfold maxLen at hm; omega, fun hne => ?_⟩⟩, hl2⟩
  have h0 : 0 < l.length := List.length_pos_iff.2 hne
  obtain ⟨_, _, hs, _⟩ := hl3 0 _ (List.getElem?_eq_getElem h0)
  refine ⟨a.block, a.off, by obtain ⟨b, o, s⟩ := a; simp_all, fun j v hj => ?_⟩
  obtain ⟨c, hk, _, hc⟩ := hl3 j v hj
  exact ⟨c, hk, hc⟩

/-- The fields of a struct, from cell 'off' on. -/
def offs : Nat → List (TypeId × Nat) → List (TypeId × Nat × Nat)
 | _, [] => []
 | o, (t, n) :: r => (t, o, n) :: offs (o + n) r
def total : List (TypeId × Nat) → Nat
 | [] => 0
 | (_, n) :: r => n + total r
def OpensF (P : Program) {α : Type} (d : Ty α) (fl : List (TypeId × Nat)) (p : α → Prop) : Prop :=
 ∀ {H : Type} {enc : TypeId × Value → H} (W : World) (base : Nat) (sp : Nat → Bool) (held : Bool) (fuel off : Nat) (cs : List Value),
  (∀ q ∈ offs off fl, ∃ x, DataW.trod enc P W base sp held fuel q.1 ((cs.drop q.2.1).take q.2.2) = some x) → cs.length = off + total fl → ∃ a, d.K (wImm W) a (cs.drop off) ∧ p a
theorem opensF_one (ho : Opens P d t p) (n : Nat) : OpensF P d [(t, n)] p := by
 intro H enc W base sp held fuel off cs h hl
 obtain ⟨x, hx⟩ := h _ List.mem_cons_self
 simp only [total, Nat.add_zero] at hl
 have e : (cs.drop off).take n = cs.drop off := List.take_of_length_le (by rw [List.length_drop]; omega)
 simp only at hx
 rw [e] at hx
 exact ho W base sp held fuel _ x hx
theorem opensF_cons {d2 : Ty β} {fl : List (TypeId × Nat)} {q : β → Prop} (n : Nat) (ho : Opens P d t p) (hr : OpensF P d2 fl q) : OpensF P (Ty.pair d d2) ((t, n) :: fl) (fun x => p x.1 ∧ q x.2) := by
 intro H enc W base sp held fuel off cs h hl
 simp only [total] at hl
 obtain ⟨x, hx⟩ := h _ List.mem_cons_self
 obtain ⟨a, hk, hp⟩ := ho W base sp held fuel _ x hx
 obtain ⟨b, hk2, hp2⟩ := hr (enc := enc) W base sp held fuel (off + n) cs (fun q hq => h q (List.mem_cons_of_mem _ hq)) (by omega)
 refine ⟨(a, b), ⟨_, _, ?_, hk, hk2⟩, hp, hp2⟩
 simp only
 rw [← List.drop_drop, List.take_append_drop]
theorem opens_struct {fl : List (TypeId × Nat)} (ho : OpensF P d fl p) (ht : P.underlying t = some (.struct (P.fieldsOf t))) (hf : (P.fieldsOf t).toList.map (fun f => (f.type, f.offset, P.cellsOf f.type)) = offs 0 fl) (hc : P.cellsOf t = total fl)
  (f : β → α) (g : α → β) (hg : ∀ y, f (g y) = y) : Opens P (Ty.iso d f) t (fun x => p (f x)) := by
 intro H enc W base sp held fuel cs x h
 obtain ⟨xs, n, _, _, hcl, hxl, hx⟩ := DataW.trod_struct ht h
 have hseg : ∀ q ∈ offs 0 fl, ∃ x, DataW.trod enc P W base sp held n q.1 ((cs.drop q.2.1).take q.2.2) = some x := by
  intro q hq
  rw [← hf] at hq
  obtain ⟨f, hfm, rfl⟩ := List.mem_map.1 hq
  obtain ⟨i, hi, hif⟩ := List.getElem_of_mem hfm
  have h1 := hx i f (by rw [← Array.getElem?_toList, List.getElem?_eq_getElem hi, hif])
  have h2 : i < xs.length := by rw [hxl]; simpa using hi
  rw [List.getElem?_eq_getElem h2] at h1
  exact ⟨_, h1⟩
 obtain ⟨a, hk, hp⟩ := ho W base sp held n 0 cs hseg (by rw [hcl, hc, Nat.zero_add])
 refine ⟨g a, ?_, by show p (f (g a)); rw [hg]; exact hp⟩
 show d.K (wImm W) (f (g a)) cs
 rw [hg]
 exact hk
end
end Go.Proofs.YtijhdekfbjafgaaGreat.RW
namespace Go.Proofs.YtijhdekfbjafgaaGreat.AM
open Go Go.RowKit Go.Proofs.YtijhdekfbjafgaaGreat.RW Go.ChangeShapes Go.WideShapes

/-- What a datum keeps to. -/
def TC.wf : (c : TC) → c.I → Prop
 | .int k, n => (Lit.int k n).wf = true
 | .bool, _ => True
 | .str, s => s.size ≤ maxLen
 | .unit, _ => True
 | .row c, l => l.length ≤ 9223372036854775807 ∧ ∀ x ∈ l, c.wf x
 | .pair a b, x => a.wf x.1 ∧ b.wf x.2
section
variable (P : Program)
mutual
def chkT : Nat → TypeId → TC → Bool
 | 0, _, _ => false
 | n + 1, t, c =>
  match P.underlying t with
  | some (.int k) => (match c with | .int k' => k == k' | _ => false)
  | some .bool => (match c with | .bool => true | _ => false)
  | some .string => (match c with | .str => true | _ => false)
  | some (.slice e) => (match c with | .row c => chkT n e c && (Nat.beq (P.cellsOf e) c.sz && Nat.blt 0 c.sz) | _ => false)
  | some (.struct fs) => chkF n 0 fs.toList c && Nat.beq (P.cellsOf t) c.sz
  | _ => false
def chkF : Nat → Nat → List Field → TC → Bool
 | 0, _, _, _ => false
 | n + 1, off, [f], c => Nat.beq f.offset off && (Nat.beq (P.cellsOf f.type) c.sz && chkT n f.type c)
 | n + 1, off, f :: r, .pair a b => Nat.beq f.offset off && (Nat.beq (P.cellsOf f.type) a.sz && (chkT n f.type a && chkF n (off + a.sz) r b))
 | _, _, _, _ => false
end
end
section
variable {P : Program}
theorem opens_tc : ∀ n, (∀ t c, chkT P n t c = true → Opens P c.ty t c.wf) ∧ (∀ off fs c, chkF P n off fs c = true → ∃ fl, OpensF P c.ty fl c.wf ∧ fs.map (fun f => (f.type, f.offset, P.cellsOf f.type)) = offs off fl ∧ total fl = c.sz)
 | 0 => ⟨fun t c h => by simp [chkT] at h, fun off fs c h => by simp [chkF] at h⟩
 | n + 1 => by
  obtain ⟨ihT, ihF⟩ := opens_tc n
  refine ⟨fun t c h => ?_, fun off fs c h => ?_⟩
  ·unfold chkT at h
   split at h
   ·rename_i k hu
    split at h
    ·rename_i k'
     have : k = k' := by simpa using h
     subst this
     intro H enc W base sp held fuel cs x hx
     exact (opens_int (P := P) hu) W base sp held fuel cs x hx
    ·cases h
   ·rename_i hu
    split at h
    ·intro H enc W base sp held fuel cs x hx
     exact (opens_bool (P := P) hu) W base sp held fuel cs x hx
    ·cases h
   ·rename_i hu
    split at h
    ·intro H enc W base sp held fuel cs x hx
     exact (opens_string (P := P) hu) W base sp held fuel cs x hx
    ·cases h
   ·rename_i e hu
    split at h
    ·rename_i c
     simp only [Bool.and_eq_true] at h
     obtain ⟨h1, h2, h3⟩ := h
     have h2 := Nat.eq_of_beq_eq_true h2
     have h3 : 0 < c.sz := Nat.le_of_ble_eq_true h3
     intro H enc W base sp held fuel cs x hx
     obtain ⟨a, hk, hp⟩ := (opens_slice (P := P) (ihT e c h1) hu (by rw [c.ty_sz]; exact h2) (by rw [c.ty_sz]; exact h3)) W base sp held fuel cs x hx
     have hk0 := hk
     obtain ⟨A, cp, _, _, hr⟩ := hk0
     exact ⟨a, hk, hr.1, hp⟩
    ·cases h
   ·rename_i fs hu
    simp only [Bool.and_eq_true] at h
    obtain ⟨h1, h2⟩ := h
    have h2 := Nat.eq_of_beq_eq_true h2
    obtain ⟨fl, k1, k2, k3⟩ := ihF 0 fs.toList c h1
    have hfo : P.fieldsOf t = fs := by simp [Program.fieldsOf, hu]
    intro H enc W base sp held fuel cs x hx
    exact (opens_struct (P := P) (t := t) k1 (by rw [hfo]; exact hu) (by rw [hfo]; exact k2) (by rw [h2, k3]) (f := id) (g := id) (fun _ => rfl)) W base sp held fuel cs x hx
   ·cases h
  ·cases fs with
   | nil => simp [chkF] at h
   | cons f r =>
    cases r with
    | nil =>
     simp only [chkF, Bool.and_eq_true] at h
     obtain ⟨h1, h2, h3⟩ := h
     have h1 := Nat.eq_of_beq_eq_true h1
     have h2 := Nat.eq_of_beq_eq_true h2
     refine ⟨[(f.type, c.sz)], opensF_one (ihT _ _ h3) _, ?_, rfl⟩
     simp [offs, h1, h2]
    | cons g r =>
     cases c with
     | pair a b =>
      simp only [chkF, Bool.and_eq_true] at h
      obtain ⟨h1, h2, h3, h4⟩ := h
      have h1 := Nat.eq_of_beq_eq_true h1
      have h2 := Nat.eq_of_beq_eq_true h2
      obtain ⟨fl, k1, k2, k3⟩ := ihF _ _ _ h4
      refine ⟨(f.type, a.sz) :: fl, opensF_cons a.sz (ihT _ _ h3) k1, ?_, by simp [total, TC.sz, k3]⟩
      rw [List.map_cons, k2]
      simp only [offs, h1, h2]
     | _ => simp [chkF] at h

def argP (P : Program) (t : TypeId) (c : TC) : PW := match P.underlying t with | some (.struct _) => .st c | _ => .c (.h c)
theorem arg_rel {W : World} {base : Nat} {t : TypeId} {c : TC} {v : Value} (π : Pi) (hc : chkT P 40 t c = true) (hval : Value.okWide P W .any base t v) {H : Type} {enc : TypeId × Value → H} {b : Nat} {sp : Nat → Bool} {held : Bool} {d : DataW H} {ps : List MemPlace} (h : DataW.Trod enc P W b sp held t v d ps) :
  ∃ a : c.I, c.wf a ∧ (argP P t c = .st c → relV π (wImm W) (.w (.agg (c.cells a))) v) ∧ (argP P t c = .c (.h c) → relV π (wImm W) (ac (c.one a)) v) := by
 obtain ⟨fuel, hf⟩ := h
 obtain ⟨a, hk, hwf⟩ := (opens_tc 40).1 t c hc W b sp held fuel _ _ hf
 refine ⟨a, hwf, fun hp => ?_, fun hp => ?_⟩
 ·unfold argP at hp
  split at hp
  ·rename_i fs hu
   obtain ⟨cs, rfl, _⟩ : ∃ cs, v = .agg cs ∧ _ := by
    simp only [Value.okWide, hu] at hval
    exact hval
   exact ⟨cs.toList, by simp, TC.cells_rel c a cs.toList hk⟩
  ·cases hp
 ·unfold argP at hp
  split at hp
  ·cases hp
  ·rename_i hns
   have one : v.oneCell' = true → c.ty.K (wImm W) a [v] → c.cells a = [c.one a] → relV π (wImm W) (ac (c.one a)) v := fun _ hk1 hce => by
    have := TC.cells_rel (π := π) c a [v] hk1
    rw [hce] at this
    exact this.1
   unfold chkT at hc
   split at hc
   ·rename_i k hu
    split at hc
    ·obtain ⟨n, rfl⟩ := okWide_int hu hval
     exact one rfl hk rfl
    ·cases hc
   ·rename_i hu
    split at hc
    ·obtain ⟨n, rfl⟩ := okWide_bool hu hval
     exact one rfl hk rfl
    ·cases hc
   ·rename_i hu
    split at hc
    ·obtain ⟨n, rfl⟩ := okWide_string hu hval
     exact one rfl hk rfl
    ·cases hc
   ·rename_i e hu
    split at hc
    ·obtain ⟨b1, len1, cap1, rfl⟩ := okWide_slice hu hval
     exact one rfl hk rfl
    ·cases hc
   ·rename_i fs hu
    exact absurd hu (hns fs)
   ·cases hc

/-- Arguments, told by slots. -/
def AR (W : World) : Nat → (sl : List (Nat × PV)) → SlI sl → List Value → Prop
 | _, [], _, [] => True
 | i, p :: r, x, v :: vs => p.1 = i ∧ relV (fun _ => none) (wImm W) (p.2.inst id x.1) v ∧ AR W (i + 1) r x.2 vs
 | _, _, _, _ => False
theorem AR.len {W : World} : ∀ {i : Nat} {sl : List (Nat × PV)} {x : SlI sl} {vs : List Value}, AR W i sl x vs → vs.length = sl.length
 | _, [], _, [], _ => rfl
 | _, _ :: _, _, _ :: _, h => by rw [List.length_cons, List.length_cons, h.2.2.len]
 | _, [], _, _ :: _, h => h.elim
 | _, _ :: _, _, [], h => h.elim
theorem AR.get {W : World} : ∀ {i : Nat} {sl : List (Nat × PV)} {x : SlI sl} {vs : List Value}, AR W i sl x vs → ∀ t av, lk (instSl id sl x) t = some av → i ≤ t ∧ ∃ v, vs[t - i]? = some v ∧ relV (fun _ => none) (wImm W) av v
 | _, [], _, [], _, _, _, h => by cases h
 | i, p :: r, x, v :: vs, hA, t, av, h => by
  obtain ⟨h1, h2, h3⟩ := hA
  simp only [instSl] at h
  rw [lk_cons] at h
  split at h
  ·rename_i e
   injection h with h
   subst h
   refine ⟨by omega, v, ?_, h2⟩
   rw [show t - i = 0 by omega]
   rfl
  ·obtain ⟨k1, u, k2, k3⟩ := h3.get t av h
   refine ⟨by omega, u, ?_, k3⟩
   rw [show t - i = (t - (i + 1)) + 1 by omega]
   simpa using k2
 | _, [], _, _ :: _, hA, _, _, _ => hA.elim
 | _, _ :: _, _, [], hA, _, _, _ => hA.elim
def oBool : OutD := ⟨1, ⟨[(0, .w (.c (.h .bool)))], []⟩, Bool, fun x => x.1.1, fun r => ((r, ()), ()), fun _ => rfl⟩
theorem law_calls {f : FuncId} {fn : Func} (hf : P.funcs[f]? = some fn) {sl : List (Nat × PV)} {g : SlI sl × Unit → Option Bool} (hF : FunOK P f ⟨⟨sl, []⟩, [oBool], g⟩) (x : SlI sl) (hg : g (x, ()) = some true) {W : World} {vs : List Value} (hlen : vs.length ≤ fn.ntmps) (hA : AR W 0 sl x vs) :
  Calls P f vs.toArray W fun e W' => e = .returned (.bool true) ∧ Below W.heap.size W W' := by
 have hs : SA ⟨W, fpS (fun _ => none) (lk ([] : AMem)), wImm W⟩ (wImm W) (fun _ => none) (lk ([] : AMem)) W :=
  ⟨Evo.refl _ _, fun _ _ => rfl, fun _ => trivial, fun _ _ h => h.elim, fun _ _ _ _ h => h.elim, wImm_at W, fun _ _ _ _ h => h.elim, Imm.le_refl _, fun _ _ h => .inl h⟩
 refine (hF (x, ()) true oBool true hg rfl (wImm W) (fun _ => none) W vs (fun fn' h' => by rw [hf] at h'; injection h' with h'; rw [← h']; exact hlen) hA.len (fun t av ht => ?_) hs).mono ?_
 ·obtain ⟨_, v, h1, h2⟩ := hA.get t av ht
  exact ⟨v, h1, h2⟩
 ·rintro e W' ⟨v, rfl, π', J, _, _, h3, h4⟩
  have hv : relV π' J (ac (.v (.bool true))) v := h4 _ rfl
  obtain ⟨hv, _⟩ := hv
  subst hv
  exact ⟨rfl, h3.evo.os, h3.evo.tape, h3.evo.output, h3.evo.size, fun k hk => h3.evo.blk k hk (fun ⟨i, hi⟩ => hi)⟩
end
end Go.Proofs.YtijhdekfbjafgaaGreat.AM
namespace Go.Proofs.YtijhdekfbjafgaaGreat.AM
open Go Go.RowKit Go.Proofs.YtijhdekfbjafgaaGreat.RW

abbrev pi : PV := .w (.c (.h (.int .i64)))
abbrev pb : PV := .w (.c (.h .bool))
abbrev ph (c : TC) : PV := .w (.c (.h c))
abbrev po (o : Nat) : PV := .w (.c (.sl o))
abbrev pp (o : Nat) : PV := .w (.c (.ptr o 0))
abbrev pst (c : TC) : PV := .w (.st c)
@[reducible] def ck {α : Type} (c : Bool) (x : Option α) : Option α := bif c then x else none
@[reducible] def sm {α β γ : Type} (z : α ⊕ β) (f : α → γ) (g : β → γ) : γ := match z with | .inl y => f y | .inr y => g y

def AllF (P : Program) : List (Nat × FragD) → Prop
 | [] => True
 | p :: r => FunOK P p.1 p.2 ∧ AllF P r
theorem AllF.all {P : Program} : ∀ {l : List (Nat × FragD)}, AllF P l → ∀ g d, (g, d) ∈ l → FunOK P g d
 | [], _, _, _, h => by cases h
 | p :: r, h, g, d, hm => by
  rcases List.mem_cons.1 hm with e | hm
  ·rw [← e] at h; exact h.1
  ·exact AllF.all h.2 g d hm
def AllFr (P : Program) (n : Nat) (K : Code) : List (Nat × FragD) → Prop
 | [] => True
 | p :: r => FragOK P n (atN K 400 p.1) p.2 ∧ AllFr P n K r
def AllL (k : Nat) (P : Program) (n : Nat) (K : Code) : List (Nat × FragD) → Prop
 | [] => True
 | p :: r => FragOKL k P n (atN K 400 (2 * p.1)) p.2 ∧ AllL k P n K r
theorem noL {P : Program} {n : Nat} {K : Code} : AllL 0 P n K [] := trivial
def okP (frs : List (Nat × FragD)) : Bool := frs.all fun p => Nat.blt (2 * p.1) (2 ^ 400)
theorem AllFr.ok {E : Env} {K : Code} {k : Nat} (h : AllFr E.P E.n K E.frs) (hL : AllL k E.P E.n K E.lps) (hp : (okP E.frs && okP E.lps) = true) : FrsOK E K := by
 rw [Bool.and_eq_true] at hp
 refine ⟨fun q d hq c hc => ?_, k, fun q d hq b hc => ?_⟩
 ·have hp := hp.1
  unfold okP at hp
  generalize E.frs = l at h hp hq
  induction l with
  | nil => cases hq
  | cons p l ih =>
   obtain ⟨j, a⟩ := p
   rw [List.all_cons, Bool.and_eq_true] at hp
   rw [lk_cons] at hq
   split at hq
   ·rename_i e
    subst e
    injection hq with hq
    subst hq
    have hlt : 2 * j < 2 ^ 400 := Nat.le_of_ble_eq_true hp.1
    rw [hc.uniq (by omega)]
    exact h.1
   ·exact ih h.2 hp.2 hq
 ·have hp := hp.2
  unfold okP at hp
  generalize E.lps = l at hL hp hq
  induction l with
  | nil => cases hq
  | cons p l ih =>
   obtain ⟨j, a⟩ := p
   rw [List.all_cons, Bool.and_eq_true] at hp
   rw [lk_cons] at hq
   split at hq
   ·rename_i e
    subst e
    injection hq with hq
    subst hq
    have hlt : 2 * j < 2 ^ 400 := Nat.le_of_ble_eq_true hp.1
    have hb : b = atN K 400 (2 * j) := by
     have := hc.left.uniq hlt
     exact this
    rw [hb]
    exact hL.1
   ·exact ih hL.2 hp.2 hq
theorem fragK (E : Env) {K : Code} {L : Option (List Nat)} {k : Nat} (hF : AllF E.P E.fns) (hR : AllFr E.P E.n K E.frs) (hL : AllL k E.P E.n K E.lps) (p : Nat) {d : FragD} (hp : (((okP E.frs && okP E.lps) && (Nat.ble 1 p && Nat.blt p (2 ^ 400))) && d.pin.ob.all PO.real) = true) (h : ∀ x, frRun E L (atN K 400 p) p d x = d.g x) : FragOKK L E.P E.n (atN K 400 p) d := by
 rw [Bool.and_eq_true, Bool.and_eq_true (okP E.frs && okP E.lps), Bool.and_eq_true (Nat.ble 1 p)] at hp
 exact frag_of_run E hF.all (hR.ok hL hp.1.1) (At.mk (Nat.le_of_ble_eq_true hp.1.2.1) (Nat.le_of_ble_eq_true hp.1.2.2)) hp.2 h
theorem fragR (E : Env) {K : Code} {k : Nat} (hF : AllF E.P E.fns) (hR : AllFr E.P E.n K E.frs) (hL : AllL k E.P E.n K E.lps) (p : Nat) {d : FragD} (hp : (((okP E.frs && okP E.lps) && (Nat.ble 1 p && Nat.blt p (2 ^ 400))) && d.pin.ob.all PO.real) = true) (h : ∀ x, frRun E none (atN K 400 p) p d x = d.g x) : FragOK E.P E.n (atN K 400 p) d :=
 (fragK E hF hR hL p hp h).ok
theorem funR (E : Env) (fn : Func) {f : FuncId} {k : Nat} (hf : E.P.funcs[f]? = some fn) (hb : fn.body = some (cBody fn)) (hn : fn.ntmps = E.n) (hF : AllF E.P E.fns) (hR : AllFr E.P E.n (cBody fn) E.frs) (hL : AllL k E.P E.n (cBody fn) E.lps) {d : FragD} (hp : ((okP E.frs && okP E.lps) && d.pin.ob.all PO.real) = true) (h : ∀ x, fnRun E fn d x = d.g x) : FunOK E.P f d := by
 rw [Bool.and_eq_true] at hp
 exact fun_of_run E hf hb hn hF.all (hR.ok hL hp.1) hp.2 h
theorem loopL {P : Program} {n : Nat} {K : Code} (L : LoopD) (p : Nat) (hc : (L.cs.all (fun q => q.2.flat && !(wr (atN K 400 (2 * p))).any (Nat.beq q.1)) && L.outsOk) = true) (hB : FragOKK (some L.K) P n (atN K 400 (2 * p)) L.bodyD)
  (G : Nat → (SlI (L.vs ++ L.cs) × ObI L.ob) → Option (OutI (L.q :: L.r))) (h0 : ∀ x, G 0 x = none) (hs : ∀ k x, G (k + 1) x = (L.step x).bind fun z => match z with | .inl r => G k (L.next x r) | .inr y => some y) (k : Nat) : FragOKL k P n (atN K 400 (2 * p)) (L.loopD (G k)) := by
 rw [Bool.and_eq_true] at hc
 exact loop_ok L hc.1 hc.2 hB G h0 hs k
theorem loopR {P : Program} {n : Nat} {K : Code} (L : LoopD) (p : Nat) (hl : atN K 400 p = .loop (atN K 400 (2 * p))) (hc : (L.cs.all (fun q => q.2.flat && !(wr (atN K 400 (2 * p))).any (Nat.beq q.1)) && L.outsOk) = true) (hB : FragOKK (some L.K) P n (atN K 400 (2 * p)) L.bodyD)
  (G : Nat → (SlI (L.vs ++ L.cs) × ObI L.ob) → Option (OutI (L.q :: L.r))) (h0 : ∀ x, G 0 x = none) (hs : ∀ k x, G (k + 1) x = (L.step x).bind fun z => match z with | .inl r => G k (L.next x r) | .inr y => some y) (k : Nat) : FragOK P n (atN K 400 p) (L.loopD (G k)) := by
 have h := loopL L p hc hB G h0 hs k
 rw [hl]
 exact fun x y q z hg ho I π a w k1 k2 k3 Q k4 => wp_loop_rounds k (h x y q z hg ho I π a w k1 k2 k3 Q k4)
end Go.Proofs.YtijhdekfbjafgaaGreat.AM
namespace Go.Proofs.YtijhdekfbjafgaaGreat
open Go Go.RowKit Go.Proofs.YtijhdekfbjafgaaGreat.RW
open Go.Proofs.YtijhdekfbjafgaaGreat.AM hiding lk
set_option linter.unusedVariables false
set_option maxRecDepth 100000

/-- From some fuel on, the answer is r. -/
def Ev {α : Type} (f : Nat → Option α) (r : α) : Prop := ∃ K, ∀ n, K ≤ n → f n = some r
theorem Ev.of {α : Type} {f : Nat → Option α} {r : α} (h : ∀ n, f n = some r) : Ev f r := ⟨0, fun n _ => h n⟩
theorem Ev.ret {α : Type} (r : α) : Ev (fun _ => some r) r := ⟨0, fun _ _ => rfl⟩
theorem Ev.bind {α β : Type} {f : Nat → Option α} {g : Nat → α → Option β} {a : α} {b : β} (h : Ev f a) (k : Ev (fun n => g n a) b) : Ev (fun n => (f n).bind (g n)) b := by
 obtain ⟨K, hK⟩ := h
 obtain ⟨L, hL⟩ := k
 refine ⟨max K L, fun n hn => ?_⟩
 show (f n).bind (g n) = some b
 rw [hK n (by omega)]
 exact hL n (by omega)
theorem Ev.ck {α : Type} {c : Bool} {f : Nat → Option α} {r : α} (hc : c = true) (h : Ev f r) : Ev (fun n => AM.ck c (f n)) r := by subst hc; exact h
theorem Ev.T {α : Type} {c : Bool} {f g : Nat → Option α} {r : α} (hc : c = true) (h : Ev f r) : Ev (fun n => bif c then f n else g n) r := by subst hc; exact h
theorem Ev.F {α : Type} {c : Bool} {f g : Nat → Option α} {r : α} (hc : c = false) (h : Ev g r) : Ev (fun n => bif c then f n else g n) r := by subst hc; exact h
theorem Ev.if {α : Type} {c : Bool} {f g : Nat → Option α} {r : α} (h : c = true → Ev f r) (k : c = false → Ev g r) : Ev (fun n => bif c then f n else g n) r := by
 cases c with
 | true => exact h rfl
 | false => exact k rfl
theorem Ev.congr {α : Type} {f g : Nat → Option α} {r : α} (h : ∀ n, f n = g n) (k : Ev g r) : Ev f r := by
 have : f = g := funext h
 rw [this]; exact k
theorem Ev.cast {α : Type} {f : Nat → Option α} {r s : α} (h : Ev f r) (e : r = s) : Ev f s := e ▸ h
theorem Ev.get {α : Type} {f : Nat → Option α} {r : α} (h : Ev f r) : ∃ n, f n = some r := by
 obtain ⟨K, hK⟩ := h
 exact ⟨K, hK K (Nat.le_refl _)⟩
/-! ### loops -/
def EvL {ρ : Type} (f : Nat → Nat → Option ρ) (r : ρ) : Prop := ∃ K, ∀ n k, K ≤ n → K ≤ k → f n k = some r
theorem EvL.diag {ρ : Type} {f : Nat → Nat → Option ρ} {r : ρ} (h : EvL f r) : Ev (fun n => f n n) r := by
 obtain ⟨K, hK⟩ := h
 exact ⟨K, fun n hn => hK n n hn hn⟩
section
variable {σ ρ : Type} {L : Nat → Nat → σ → Option ρ} {S : Nat → σ → Option (σ ⊕ ρ)}
theorem EvL.done (hL : ∀ n k s, L n (k + 1) s = (S n s).bind fun z => sm z (fun z => L n k z) some) {s : σ} {r : ρ} (h : Ev (fun n => S n s) (.inr r)) : EvL (fun n k => L n k s) r := by
 obtain ⟨K, hK⟩ := h
 refine ⟨K + 1, fun n k hn hk => ?_⟩
 obtain ⟨k, rfl⟩ : ∃ j, k = j + 1 := ⟨k - 1, by omega⟩
 show L n (k + 1) s = some r
 rw [hL, show S n s = _ from hK n (by omega)]
 rfl
theorem EvL.step (hL : ∀ n k s, L n (k + 1) s = (S n s).bind fun z => sm z (fun z => L n k z) some) {s s' : σ} {r : ρ} (h : Ev (fun n => S n s) (.inl s')) (k : EvL (fun n k => L n k s') r) : EvL (fun n k => L n k s) r := by
 obtain ⟨K, hK⟩ := h
 obtain ⟨M, hM⟩ := k
 refine ⟨max K M + 1, fun n k hn hk => ?_⟩
 obtain ⟨k, rfl⟩ : ∃ j, k = j + 1 := ⟨k - 1, by omega⟩
 show L n (k + 1) s = some r
 rw [hL, show S n s = _ from hK n (by omega)]
 exact hM n k (by omega) (by omega)
/-- A loop, told by the states of its rounds. -/
theorem loop_run (hL : ∀ n k s, L n (k + 1) s = (S n s).bind fun z => sm z (fun z => L n k z) some) (st : Nat → σ) (m : Nat) (r : ρ)
  (h : ∀ i, i < m → Ev (fun n => S n (st i)) (.inl (st (i + 1)))) (he : Ev (fun n => S n (st m)) (.inr r)) : Ev (fun n => L n n (st 0)) r := by
 have key : ∀ j i, i + j = m → EvL (fun n k => L n k (st i)) r := by
  intro j
  induction j with
  | zero =>
   intro i hi
   obtain rfl : i = m := by omega
   exact EvL.done hL he
  | succ j ih =>
   intro i hi
   exact EvL.step hL (h i (by omega)) (ih (i + 1) (by omega))
 exact (key m 0 (by omega)).diag
end
/-! ### words -/
theorem wr64 {n : Int} (h0 : -9223372036854775808 ≤ n) (h1 : n < 9223372036854775808) : W .i64 n = n := by
 unfold W IntKind.wrap
 have h2 : (2 : Int) ^ 64 = 18446744073709551616 := by decide
 have h3 : (2 : Int) ^ (64 - 1) = 9223372036854775808 := by decide
 simp only [IntKind.bits, IntKind.signed, Bool.true_and, h2, h3]
 split <;> simp only [decide_eq_true_eq, ge_iff_le, gt_iff_lt] at * <;> omega
theorem wr64s (i : Nat) (h : i < 4611686018427387904) : W .i64 ((i : Int) + 1) = ((i + 1 : Nat) : Int) := by
 rw [wr64 (by omega) (by omega)]; omega
theorem inbT {i : Int} {n : Nat} (h0 : 0 ≤ i) (h1 : i < (n : Int)) : inb i n = true := decide_eq_true ⟨h0, h1⟩
theorem inbN {i n : Nat} (h : i < n) : inb (i : Int) n = true := decide_eq_true ⟨by omega, by omega⟩
theorem roomT {n b : Nat} (h : n * b ≤ 140737488355328) (h2 : n ≤ 140737488355328) : AM.room n b = true := decide_eq_true ⟨h, by omega⟩
theorem getD_lt {α : Type} {l : List α} {i : Nat} {d : α} (h : i < l.length) : l.getD i d = l[i] := by
 rw [List.getD_eq_getElem?_getD, List.getElem?_eq_getElem h]; rfl
theorem getD_int {α : Type} {l : List α} {i : Nat} {d : α} (h : i < l.length) : l.getD (i : Int).toNat d = l[i] := by
 rw [Int.toNat_natCast]; exact getD_lt h

/-! ### loops over a list -/
/-- A search: the first element for which the test says yes. -/
theorem find_run {α γ : Type} {L : Nat → Nat → Int × γ → Option ((Int × γ) ⊕ γ)} {S : Nat → Int × γ → Option ((Int × γ) ⊕ ((Int × γ) ⊕ γ))}
  (hL : ∀ n k s, L n (k + 1) s = (S n s).bind fun z => sm z (fun z => L n k z) some) (l : List α) (c : γ) (p : α → Bool) (hlen : l.length < 4611686018427387904)
  (hS : ∀ i (h : i < l.length), Ev (fun n => S n ((i : Int), c)) (bif p l[i] then .inr (.inl ((i : Int), c)) else .inl (((i + 1 : Nat) : Int), c)))
  (hE : Ev (fun n => S n ((l.length : Int), c)) (.inr (.inr c))) :
  Ev (fun n => L n n ((0 : Int), c)) (match l.findIdx? p with | some j => .inl ((j : Int), c) | none => .inr c) := by
 cases hf : l.findIdx? p with
 | none =>
  have hf' := List.findIdx?_eq_none_iff.1 hf
  refine loop_run hL (fun i => ((i : Int), c)) l.length (.inr c) (fun i hi => ?_) hE
  have := hS i hi
  rw [hf' l[i] (List.getElem_mem hi)] at this
  exact this
 | some j =>
  obtain ⟨hj, hp, hb⟩ := List.findIdx?_eq_some_iff_getElem.1 hf
  refine loop_run hL (fun i => ((i : Int), c)) j (.inl ((j : Int), c)) (fun i hi => ?_) ?_
  ·have := hS i (by omega)
   rw [show p l[i] = false from by simpa using hb i hi] at this
   exact this
  ·have := hS j hj
   rw [hp] at this
   exact this
/-- A sweep: a state is carried along. -/
theorem fold_run {α γ ρ : Type} {L : Nat → Nat → Int × γ → Option ρ} {S : Nat → Int × γ → Option ((Int × γ) ⊕ ρ)}
  (hL : ∀ n k s, L n (k + 1) s = (S n s).bind fun z => sm z (fun z => L n k z) some) (l : List α) (g : γ → α → γ) (c : γ) (r : ρ) (hlen : l.length < 4611686018427387904)
  (hS : ∀ i (h : i < l.length), Ev (fun n => S n ((i : Int), (l.take i).foldl g c)) (.inl (((i + 1 : Nat) : Int), g ((l.take i).foldl g c) l[i])))
  (hE : Ev (fun n => S n ((l.length : Int), l.foldl g c)) (.inr r)) :
  Ev (fun n => L n n ((0 : Int), c)) r := by
 refine loop_run hL (fun i => ((i : Int), (l.take i).foldl g c)) l.length r (fun i hi => ?_) ?_
 ·have := hS i hi
  simp only [List.take_add_one, List.getElem?_eq_getElem hi, Option.toList_some, List.foldl_append, List.foldl_cons, List.foldl_nil]
  exact this
 ·simp only [List.take_length]
  exact hE
end Go.Proofs.YtijhdekfbjafgaaGreat
set_option linter.unusedVariables false
namespace Go.Proofs.YtijhdekfbjafgaaGreat
open Go Go.RowKit Go.Proofs.YtijhdekfbjafgaaGreat.RW Go.Proofs.YtijhdekfbjafgaaGreat.AM
abbrev c26 : TC := .pair (.int .i64) (.pair .str (.row (.int .u8)))
abbrev S26 : Type := Int × ByteArray × List Int
abbrev z26 : S26 := (0, (⟨#[]⟩ : ByteArray), [])
abbrev c28 : TC := .pair (.int .i64) (.pair (.int .i64) (.pair (.int .i64) (.pair (.int .i64) (.pair (.int .u32) c26))))
abbrev S28 : Type := Int × Int × Int × Int × Int × S26
abbrev z28 : S28 := (0, 0, 0, 0, 0, z26)
abbrev c49 : TC := .pair (.int .u8) (.pair c28 (.int .u8))
abbrev S49 : Type := Int × S28 × Int
abbrev z49 : S49 := (0, z28, 0)
abbrev c33 : TC := .pair (.int .i64) (.pair (.int .i64) (.pair (.int .i64) (.pair (.row c28) (.pair (.row c28) (.row c26)))))
abbrev S33 : Type := Int × Int × Int × List S28 × List S28 × List S26
abbrev z33 : S33 := (0, 0, 0, [], [], [])
abbrev c65 : TC := .pair (.int .i64) (.int .i64)
abbrev S65 : Type := Int × Int
abbrev z65 : S65 := (0, 0)
end Go.Proofs.YtijhdekfbjafgaaGreat
namespace Go.Proofs.YtijhdekfbjafgaaGreat.RW
open Go Go.RowKit

/-! ### pairs, as a map holds them -/
section
variable {α β : Type} [DecidableEq α]
def mfind : List (α × β) → α → Nat → Option (Nat × β)
 | [], _, _ => none
 | (x, b) :: r, a, i => if a = x then some (i, b) else mfind r a (i + 1)
def mget : List (α × β) → α → Option β
 | [], _ => none
 | (x, b) :: r, a => if a = x then some b else mget r a
def mput : List (α × β) → α → β → List (α × β)
 | [], a, b => [(a, b)]
 | (x, c) :: r, a, b => if a = x then (x, b) :: r else (x, c) :: mput r a b
/-- The pairs, with one at a. -/
def mens : List (α × β) → α → β → List (α × β)
 | [], a, z => [(a, z)]
 | (x, c) :: r, a, z => if a = x then (x, c) :: r else (x, c) :: mens r a z
def mat : List (α × β) → α → Nat
 | [], _ => 0
 | (x, _) :: r, a => if a = x then 0 else mat r a + 1
theorem mfind_get : ∀ (l : List (α × β)) (a : α) (i : Nat), (mfind l a i).map (·.2) = mget l a
 | [], _, _ => rfl
 | (x, b) :: r, a, i => by
  simp only [mfind, mget]
  split
  ·rfl
  ·exact mfind_get r a (i + 1)
theorem mfind_at : ∀ (l : List (α × β)) (a : α) (i j : Nat) (b : β), mfind l a i = some (j, b) → j = i + mat l a
 | [], _, _, _, _, h => by cases h
 | (x, c) :: r, a, i, j, b, h => by
  simp only [mfind, mat] at h ⊢
  split at h
  ·injection h with h
   injection h with h1 h2
   rw [if_pos ‹_›, ← h1]; rfl
  ·rw [if_neg ‹_›, mfind_at r a (i + 1) j b h]
   omega
theorem mput_none : ∀ (l : List (α × β)) (a : α) (b : β) (i : Nat), mfind l a i = none → mput l a b = l ++ [(a, b)] ∧ mens l a b = l ++ [(a, b)] ∧ mat l a = l.length
 | [], _, _, _, _ => ⟨rfl, rfl, rfl⟩
 | (x, c) :: r, a, b, i, h => by
  simp only [mfind, mput, mens, mat] at h ⊢
  split at h
  ·cases h
  ·rw [if_neg ‹_›, if_neg ‹_›, if_neg ‹_›]
   obtain ⟨h1, h2, h3⟩ := mput_none r a b (i + 1) h
   exact ⟨by rw [h1]; rfl, by rw [h2]; rfl, by rw [h3]; rfl⟩
theorem mens_some : ∀ (l : List (α × β)) (a : α) (z : β) (i : Nat) (p : Nat × β), mfind l a i = some p → mens l a z = l
 | [], _, _, _, _, h => by cases h
 | (x, c) :: r, a, z, i, p, h => by
  simp only [mfind, mens] at h ⊢
  split at h
  ·rw [if_pos ‹_›]
  ·rw [if_neg ‹_›, mens_some r a z (i + 1) p h]
theorem mens_get : ∀ (l : List (α × β)) (a : α) (z : β), (mget (mens l a z) a).getD z = (mget l a).getD z
 | [], a, z => by simp [mens, mget]
 | (x, c) :: r, a, z => by
  simp only [mens]
  split
  ·rfl
  ·rename_i h
   simp only [mget, if_neg h]
   exact mens_get r a z
theorem mput_mens : ∀ (l : List (α × β)) (a : α) (z b : β), mput (mens l a z) a b = mput l a b
 | [], a, z, b => by simp [mens, mput]
 | (x, c) :: r, a, z, b => by
  simp only [mens]
  split
  ·rfl
  ·rename_i h
   simp only [mput, if_neg h]
   rw [mput_mens r a z b]
theorem mput_get : ∀ (l : List (α × β)) (a : α) (b : β), mget (mput l a b) a = some b
 | [], a, b => by simp [mput, mget]
 | (x, c) :: r, a, b => by
  simp only [mput]
  split
  ·rename_i h
   simp [mget, h]
  ·rename_i h
   simp only [mget, if_neg h]
   exact mput_get r a b
theorem mput_other : ∀ (l : List (α × β)) (a a' : α) (b : β), a' ≠ a → mget (mput l a b) a' = mget l a'
 | [], a, a', b, h => by simp [mput, mget, h]
 | (x, c) :: r, a, a', b, h => by
  simp only [mput]
  split
  ·rename_i hax
   subst hax
   simp [mget, h]
  ·simp only [mget]
   rw [mput_other r a a' b h]
theorem mens_mat : ∀ (l : List (α × β)) (a : α) (z : β), mat (mens l a z) a = mat l a ∧ mat l a < (mens l a z).length
 | [], a, z => by simp [mens, mat]
 | (x, c) :: r, a, z => by
  simp only [mens]
  split
  ·rename_i h
   simp [mat, h]
  ·rename_i h
   simp only [mat, if_neg h, List.length_cons]
   have := mens_mat r a z
   omega
end

def ents {α β : Type} (kE : α → Value) (vE : β → Value) : Nat → List (α × β) → List MapEntry
 | _, [] => []
 | i, (a, b) :: r => ⟨kE a, vE b, i⟩ :: ents kE vE (i + 1) r
theorem ents_length {α β : Type} {kE : α → Value} {vE : β → Value} : ∀ (l : List (α × β)) (i : Nat), (ents kE vE i l).length = l.length
 | [], _ => rfl
 | (_, _) :: r, i => by simp [ents, ents_length r]
theorem ents_append {α β : Type} {kE : α → Value} {vE : β → Value} (p : α × β) : ∀ (l : List (α × β)) (i : Nat), ents kE vE i (l ++ [p]) = ents kE vE i l ++ [⟨kE p.1, vE p.2, i + l.length⟩]
 | [], i => by obtain ⟨a, b⟩ := p; rfl
 | (_, _) :: r, i => by
  simp only [List.cons_append, ents, ents_append p r, List.length_cons]
  rw [show i + 1 + r.length = i + (r.length + 1) from by omega]
theorem ents_modify {α β : Type} [DecidableEq α] {kE : α → Value} {vE : β → Value} (b : β) : ∀ (l : List (α × β)) (a : α) (i j : Nat) (c : β), mfind l a i = some (i + j, c) → ∀ q,
  ((ents kE vE q l).modify j fun e => { e with key := kE a, val := vE b }) = ents kE vE q (mput l a b)
 | [], _, _, _, _, h => by cases h
 | (x, d) :: r, a, i, j, c, h => by
  intro q
  simp only [mfind] at h
  split at h
  ·rename_i hax
   injection h with h
   injection h with h1 h2
   obtain rfl : j = 0 := by omega
   subst hax
   simp only [ents, mput, if_true, List.modify_zero_cons]
  ·rename_i hax
   obtain ⟨j', rfl⟩ : ∃ j', j = j' + 1 := by
    have := mfind_at r a (i + 1) _ _ h
    exact ⟨j - 1, by omega⟩
   simp only [ents, mput, if_neg hax, List.modify_succ_cons]
   rw [ents_modify b r a (i + 1) j' c (by rw [h]; congr 2; omega)]
theorem ents_find {α β : Type} {kE : α → Value} {vE : β → Value} : ∀ (l : List (α × β)) (q j : Nat), j < l.length → (ents kE vE q l).findIdx? (fun e => (e.born : Int) == ((q + j : Nat) : Int)) = some j
 | [], _, _, h => by cases h
 | (a, b) :: r, q, j, h => by
  simp only [ents, List.findIdx?_cons]
  cases j with
  | zero => simp
  | succ j =>
   rw [if_neg (by simp; omega)]
   have := ents_find (kE := kE) (vE := vE) r (q + 1) j (by simpa using h)
   rw [show q + (j + 1) = q + 1 + j from by omega, this]
   rfl
theorem ents_val {α β : Type} [DecidableEq α] {kE : α → Value} {vE : β → Value} (b : β) : ∀ (l : List (α × β)) (a : α), mat l a < l.length → ∀ q, ((ents kE vE q l).modify (mat l a) fun e => { e with val := vE b }) = ents kE vE q (mput l a b)
 | [], _, h => by cases h
 | (x, d) :: r, a, h => by
  intro q
  simp only [mat] at h ⊢
  by_cases hax : a = x
  ·simp only [if_pos hax, ents, mput, List.modify_zero_cons]
  ·simp only [if_neg hax] at h ⊢
   simp only [ents, mput, if_neg hax, List.modify_succ_cons]
   rw [ents_val b r a (by simpa using h)]
theorem ents_get {α β : Type} [DecidableEq α] {kE : α → Value} {vE : β → Value} : ∀ (l : List (α × β)) (a : α) (i j : Nat) (c : β), mfind l a i = some (i + j, c) → ∀ q, (ents kE vE q l)[j]? = some ⟨kE a, vE c, q + j⟩
 | [], _, _, _, _, h => by cases h
 | (x, d) :: r, a, i, j, c, h => by
  intro q
  simp only [mfind] at h
  split at h
  ·rename_i hax
   injection h with h
   injection h with h1 h2
   obtain rfl : j = 0 := by omega
   simp only [ents, List.getElem?_cons_zero, hax, h2]; rfl
  ·obtain ⟨j', rfl⟩ : ∃ j', j = j' + 1 := by
    have := mfind_at r a (i + 1) _ _ h
    exact ⟨j - 1, by omega⟩
   simp only [ents, List.getElem?_cons_succ]
   rw [ents_get r a (i + 1) j' c (by rw [h]; congr 2; omega), show q + 1 + j' = q + (j' + 1) from by omega]

/-- A map's type, with what it takes to look into such a map. -/
structure MT (P : Program) (T Kt Et : TypeId) {α β : Type} [DecidableEq α] (kE : α → Value) (vE : β → Value) (z : β) : Prop where
 und : P.underlying T = some (.map Kt Et)
 find : ∀ (w : World) (a : α) (l : List (α × β)) (q : Nat), (Instr.findKey Kt (kE a) (ents kE vE q l)).run P w = .ok ((mfind l a 0).map fun p => (p.1, vE p.2)) w
 chk : ∀ em w a, (Instr.checkKey em 10000 Kt (kE a)).run P w = .ok () w
 stay : ∀ w a, (Instr.keyThatStays (kE a) (kE a)).run P w = .ok (kE a) w
 zero : ∀ w, (zeroValue Et).run P w = .ok (vE z) w

section
variable {P : Program} {T Kt Et : TypeId} {α β : Type} [DecidableEq α] {kE : α → Value} {vE : β → Value} {z : β} {w : World}
theorem ask_at (eq : ∀ w a b, (Op.equal Kt (kE a) (kE b)).run P w = .ok (decide (a = b)) w) (a : α) : ∀ (l : List (α × β)) (q i : Nat), (Instr.findAsking Kt (kE a) (ents kE vE q l) i).run P w = .ok ((mfind l a i).map fun p => (p.1, vE p.2)) w
 | [], q, i => by simp [ents, Instr.findAsking, mfind]
 | (x, b) :: r, q, i => by
  simp only [ents, Instr.findAsking, mfind, Sem.run_bind, eq, Result.andThen_ok]
  by_cases hax : a = x
  ·simp [hax]
  ·simp only [hax, decide_false, Bool.false_eq_true, if_false]
   exact ask_at eq a r (q + 1) (i + 1)
/-- Keys that are structs. -/
theorem MT.ofStruct (und : P.underlying T = some (.map Kt Et)) (str : ∃ fs, P.underlying Kt = some (.struct fs)) (agg : ∀ a, ∃ xs, kE a = .agg xs) (eq : ∀ w a b, (Op.equal Kt (kE a) (kE b)).run P w = .ok (decide (a = b)) w)
  (chk : ∀ em w a, (Instr.checkKey em 10000 Kt (kE a)).run P w = .ok () w) (stay : ∀ w a, (Instr.keyThatStays (kE a) (kE a)).run P w = .ok (kE a) w) (zero : ∀ w, (zeroValue Et).run P w = .ok (vE z) w) : MT P T Kt Et kE vE z := by
 refine ⟨und, fun w a l q => ?_, chk, stay, zero⟩
 obtain ⟨fs, hfs⟩ := str
 obtain ⟨xs, hxs⟩ := agg a
 have hu : ∀ w : World, (underlying Kt).run P w = .ok (.struct fs) w := run_underlying hfs
 unfold Instr.findKey
 simp only [Sem.run_bind, hu, Result.andThen_ok]
 cases l with
 | nil => simp [ents, Instr.findNow, mfind]
 | cons p r =>
  obtain ⟨x, b⟩ := p
  have : Instr.findNow (.struct fs) (kE a) (ents kE vE q ((x, b) :: r)) 0 = none := by
   simp [ents, Instr.findNow, Instr.sameNow]
  rw [this]
  exact ask_at eq a ((x, b) :: r) q 0
theorem run_getMap {g : Nat} {es : Array MapEntry} {c : Nat} (hg : w.heap[g]? = some (.map es c)) : (getObj g).run P w = .ok (.map es c) w := by simp [getObj, Sem.run, hg]
theorem run_setMap {g : Nat} {es : Array MapEntry} {c : Nat} (hg : w.heap[g]? = some (.map es c)) (o : Obj) : (setObj g o).run P w = .ok () (w.putObj g o) := by simp [setObj, Sem.run, hg, World.putObj]
theorem MT.lookup (h : MT P T Kt Et kE vE z) {g c : Nat} {es : Array MapEntry} {q : Nat} {l : List (α × β)} (hes : es.toList = ents kE vE q l) (hg : w.heap[g]? = some (.map es c)) (a : α) (ok : Bool) :
  (Instr.lookup T (.map (some g)) (kE a) ok).run P w = .ok (if ok = true then .tuple #[vE ((mget l a).getD z), .bool (mget l a).isSome] else vE ((mget l a).getD z)) w := by
 have hu : ∀ w : World, (underlying T).run P w = .ok (.map Kt Et) w := run_underlying h.und
 have hf : (mfind l a 0).map (·.2) = mget l a := mfind_get l a 0
 unfold Instr.lookup
 simp only [Sem.run_bind, hu, Result.andThen_ok, run_getMap hg, Sem.run_pure, h.chk, hes, h.find w a l q]
 cases hm : mfind l a 0 with
 | none => rw [hm] at hf; simp only [Option.map_none] at hf; simp [← hf, h.zero]
 | some p => rw [hm] at hf; simp only [Option.map_some] at hf; simp [← hf]
/-- Put at a. -/
theorem MT.update (h : MT P T Kt Et kE vE z) {g : Nat} {l : List (α × β)} (hg : w.heap[g]? = some (.map (ents kE vE 0 l).toArray l.length)) (a : α) (b : β) :
  (Instr.mapUpdate T (.map (some g)) (kE a) (vE b)).run P w = .ok () (w.putObj g (.map (ents kE vE 0 (mput l a b)).toArray (mput l a b).length)) := by
 have hu : ∀ w : World, (underlying T).run P w = .ok (.map Kt Et) w := run_underlying h.und
 unfold Instr.mapUpdate
 simp only [Sem.run_bind, hu, Result.andThen_ok, run_getMap hg, h.chk, h.find w a l 0]
 cases hm : mfind l a 0 with
 | none =>
  obtain ⟨h1, _, _⟩ := mput_none l a b 0 hm
  simp only [Option.map_none, run_setMap hg, h1, ents_append, List.push_toArray, List.length_append, List.length_cons, List.length_nil, Nat.zero_add]
 | some p =>
  obtain ⟨j, c⟩ := p
  have hj : mfind l a 0 = some (0 + j, c) := by rw [hm, Nat.zero_add]
  have hget : ((ents kE vE 0 l).toArray[j]?.map (·.key)).getD (kE a) = kE a := by
   rw [List.getElem?_toArray, ents_get l a 0 j c hj 0]; rfl
  have hlen : (mput l a b).length = l.length := by
   have := congrArg List.length (ents_modify (kE := kE) (vE := vE) b l a 0 j c hj 0)
   rw [List.length_modify, ents_length, ents_length] at this
   exact this.symm
  simp only [Option.map_some, hget, Sem.run_bind, h.stay, Result.andThen_ok, run_setMap hg, List.modify_toArray, ents_modify b l a 0 j c hj, hlen]
/-- The entry at a, made if it isn't there. -/
theorem MT.entry (h : MT P T Kt Et kE vE z) {g : Nat} {l : List (α × β)} (hg : w.heap[g]? = some (.map (ents kE vE 0 l).toArray l.length)) (a : α) :
  (Instr.mapEntry T (.map (some g)) (kE a)).run P w = .ok (.tuple #[vE ((mget l a).getD z), goInt (mat l a : Nat)]) (w.putObj g (.map (ents kE vE 0 (mens l a z)).toArray (mens l a z).length)) := by
 have hu : ∀ w : World, (underlying T).run P w = .ok (.map Kt Et) w := run_underlying h.und
 have hf : (mfind l a 0).map (·.2) = mget l a := mfind_get l a 0
 unfold Instr.mapEntry
 simp only [Sem.run_bind, hu, Result.andThen_ok, run_getMap hg, h.chk, h.find w a l 0]
 cases hm : mfind l a 0 with
 | none =>
  rw [hm] at hf
  simp only [Option.map_none] at hf
  obtain ⟨_, h1, h2⟩ := mput_none l a z 0 hm
  simp only [Option.map_none, Sem.run_bind, h.zero, Result.andThen_ok, run_setMap hg, Sem.run_pure, h1, ents_append, List.push_toArray, List.length_append, List.length_cons, List.length_nil, Nat.zero_add, ← hf, Option.getD_none, h2]
 | some p =>
  obtain ⟨j, c⟩ := p
  rw [hm] at hf
  simp only [Option.map_some] at hf
  have hj : mfind l a 0 = some (0 + j, c) := by rw [hm, Nat.zero_add]
  have hat := mfind_at l a 0 j c hm
  rw [Nat.zero_add] at hat
  subst hat
  have hkey : ((ents kE vE 0 l).toArray[mat l a]?.map (·.key)).getD (kE a) = kE a := by
   rw [List.getElem?_toArray, ents_get l a 0 _ c hj 0]; rfl
  have hborn : ((ents kE vE 0 l).toArray[mat l a]?.map (fun x => (x.born : Int))).getD 0 = (mat l a : Int) := by
   rw [List.getElem?_toArray, ents_get l a 0 _ c hj 0]; simp
  have hid : ((ents kE vE 0 l).modify (mat l a) fun e => { e with key := kE a }) = ents kE vE 0 l := by
   apply List.ext_getElem?
   intro k
   rw [List.getElem?_modify]
   split
   ·rename_i hjk
    subst hjk
    rw [ents_get l a 0 _ c hj 0]; rfl
   ·cases (ents kE vE 0 l)[k]? <;> rfl
  simp only [Option.map_some, hkey, hborn, Sem.run_bind, h.stay, Result.andThen_ok, run_setMap hg, List.modify_toArray, hid, Sem.run_pure, mens_some l a z 0 _ hm, ← hf, Option.getD_some]
/-- What is put at that entry. -/
theorem run_entryStore {g : Nat} {l : List (α × β)} (hg : w.heap[g]? = some (.map (ents kE vE 0 l).toArray l.length)) (a : α) (b : β) (hl : mat l a < l.length) :
  (Instr.entryStore T (.map (some g)) (goInt (mat l a : Nat)) (vE b)).run P w = .ok () (w.putObj g (.map (ents kE vE 0 (mput l a b)).toArray (mput l a b).length)) := by
 have hfind := ents_find (kE := kE) (vE := vE) l 0 (mat l a) hl
 rw [Nat.zero_add] at hfind
 have hv := ents_val (kE := kE) (vE := vE) b l a hl 0
 have hlen : (mput l a b).length = l.length := by
  have := congrArg List.length hv
  rw [List.length_modify, ents_length, ents_length] at this
  exact this.symm
 unfold Instr.entryStore
 have hi : (asInt (goInt (mat l a : Nat))).run P w = .ok ((mat l a : Nat) : Int) w := rfl
 simp only [Sem.run_bind, run_getMap hg, Result.andThen_ok, hi, List.findIdx?_toArray, hfind, run_setMap hg, List.modify_toArray, hv, hlen]
end
end Go.Proofs.YtijhdekfbjafgaaGreat.RW
namespace Go.Proofs.YtijhdekfbjafgaaGreat.RW
open Go Go.RowKit

/-- A map as a piece of memory. -/
def mres {α β : Type} (kE : α → Value) (vE : β → Value) (g : Nat) (l : List (α × β)) : Res where
 fp := fun k => k = g
 P := fun _ w => w.heap[g]? = some (.map (ents kE vE 0 l).toArray l.length)
 stable := fun _ w w' h hp => by rw [h g rfl]; exact hp
 ext := fun _ _ _ _ h => h

theorem Got.newRes {w : World} {I : Imm} (hI : I.at_ w) (o : Obj) (r : Res) (hfp : ∀ k, r.fp k → k = w.heap.size) (hP : r.P I (w.alloc o)) : Got w (w.alloc o) I I [r] := by
 have hold : ∀ k, k < w.heap.size → (w.alloc o).heap[k]? = w.heap[k]? := fun k hk => by
  show (w.heap.push o)[k]? = _
  rw [Array.getElem?_push, if_neg (by omega)]
 refine ⟨⟨rfl, rfl, rfl, by simp, fun k hk _ => hold k hk⟩, Imm.le_refl _, ?_, fun _ _ h => .inl h, ?_, ?_, List.pairwise_singleton _ _, ?_⟩
 ·intro a v ha
  have hc := hI a v ha
  rw [← hc]
  exact look_of_block (w := w) (hold _ (look_lt hc))
 ·intro q hq
  rw [List.mem_singleton.1 hq]
  exact hP
 ·intro q hq k hk
  rw [List.mem_singleton.1 hq] at hk
  have := hfp k hk
  simp
  omega
 ·intro a v ha q hq hk
  rw [List.mem_singleton.1 hq] at hk
  have h1 := hfp _ hk
  have := look_lt (hI a v ha)
  omega

section
variable {P : Program} {c : Code} {Q : Exit → Act → World → Prop} {A : Fr} {K : List (Nat × Value)} {B : Base} {I : Imm} {nx : Nat} {L : List Blk} {X : List Res} {os : List Oper} {p : Nat}
variable {T Kt Et : TypeId} {α β : Type} [DecidableEq α] {kE : α → Value} {vE : β → Value} {z : β}

omit [DecidableEq α] in
theorem Sat.putMap {w : World} (hs : Sat B I nx L X w) {m g : Nat} {l l' : List (α × β)} (hm : X[m]? = some (mres kE vE g l)) : Sat B I nx L (X.set m (mres kE vE g l')) (w.putObj g (.map (ents kE vE 0 l').toArray l'.length)) := by
 have hg : w.heap[g]? = some (.map (ents kE vE 0 l).toArray l.length) := hs.res _ (List.mem_of_getElem? hm)
 have hlt := (Array.getElem?_eq_some_iff.1 hg).1
 have := hs.replace hm (mres kE vE g l') (w' := w.putObj g (.map (ents kE vE 0 l').toArray l'.length)) rfl rfl rfl (by simp)
  (fun k _ hf => World.putObj_heap_other (fun e => hf e)) (World.putObj_heap_same hlt) (fun k hk => .inl hk) (fun k hk => by
   obtain rfl : k = g := hk
   simpa using hlt)
 simpa [hs.hnx] using this

omit [DecidableEq α] in
theorem RL.makeMap (kE : α → Value) (vE : β → Value) (d : Option Tmp) (hl : ready os p K d = true) (hx : execOp (evalK K) (os.getD p default) = toNext (Instr.makeMap T none))
  (k : RL P os Q (p + 1) A (putK A K d (.map (some nx))) B I (nx + 1) L (X ++ [mres kE vE nx []])) : RL P os Q p A K B I nx L X := by
 refine RL.one d (fun v w' => v = .map (some nx) ∧ Sat B I (nx + 1) L (X ++ [mres kE vE nx []]) w') hl (fun w hs => ?_) (fun v w' hN a' ha' => ?_)
 ·refine ⟨.map (some nx), w.alloc (.map #[] 0), ?_, rfl, ?_⟩
  ·rw [hx]
   have hr : (Instr.makeMap T none).run P w = .ok (.map (some w.heap.size)) (w.alloc (.map #[] 0)) := by
    simp [Instr.makeMap]
   rw [hs.hnx] at hr
   exact run_toNext hr
  ·have := hs.call (Got.newRes hs.im (.map #[] 0) (mres kE vE w.heap.size []) (fun k hk => hk) (World.alloc_heap_new w _))
   rw [World.size_alloc, hs.hnx] at this
   exact this
 ·obtain ⟨rfl, hs⟩ := hN
  exact k a' w' ha' hs

theorem RL.lookM (hM : MT P T Kt Et kE vE z) (a : α) (ok : Bool) (m : Nat) {g : Nat} {l : List (α × β)} (d : Option Tmp) (hl : ready os p K d = true) (hm : X[m]? = some (mres kE vE g l))
  (hx : execOp (evalK K) (os.getD p default) = toNext (Instr.lookup T (.map (some g)) (kE a) ok)) {K' : List (Nat × Value)}
  (hF : putK A K d (if ok = true then .tuple #[vE ((mget l a).getD z), .bool (mget l a).isSome] else vE ((mget l a).getD z)) = K') (k : RL P os Q (p + 1) A K' B I nx L X) : RL P os Q p A K B I nx L X :=
 RL.quiet d _ hl hF (fun w hs => by rw [hx]; exact run_toNext (hM.lookup (q := 0) (by simp) (hs.res _ (List.mem_of_getElem? hm)) a ok)) k

theorem RL.putM (hM : MT P T Kt Et kE vE z) (a : α) (b : β) (m : Nat) {g : Nat} {l : List (α × β)} (hl : ready os p K none = true) (hm : X[m]? = some (mres kE vE g l))
  (hx : execOp (evalK K) (os.getD p default) = (Instr.mapUpdate T (.map (some g)) (kE a) (vE b)).bind fun _ => .pure .skip)
  (k : RL P os Q (p + 1) A K B I nx L (X.set m (mres kE vE g (mput l a b)))) : RL P os Q p A K B I nx L X :=
 RL.oneS (fun w' => Sat B I nx L (X.set m (mres kE vE g (mput l a b))) w') hl (fun w hs => ⟨_, by rw [hx, Sem.run_bind', hM.update (hs.res _ (List.mem_of_getElem? hm)) a b]; rfl, hs.putMap hm⟩) (fun w' hs a' ha' => k a' w' ha' hs)
theorem RL.storeM (a : α) (b : β) (m : Nat) {g : Nat} {l : List (α × β)} (hlt : mat l a < l.length) (hl : ready os p K none = true) (hm : X[m]? = some (mres kE vE g l))
  (hx : execOp (evalK K) (os.getD p default) = (Instr.entryStore T (.map (some g)) (goInt (mat l a : Nat)) (vE b)).bind fun _ => .pure .skip)
  (k : RL P os Q (p + 1) A K B I nx L (X.set m (mres kE vE g (mput l a b)))) : RL P os Q p A K B I nx L X :=
 RL.oneS (fun w' => Sat B I nx L (X.set m (mres kE vE g (mput l a b))) w') hl (fun w hs => ⟨_, by rw [hx, Sem.run_bind', run_entryStore (hs.res _ (List.mem_of_getElem? hm)) a b hlt]; rfl, hs.putMap hm⟩) (fun w' hs a' ha' => k a' w' ha' hs)

/-- A known block never turns from now on. -/
theorem RL.immL (i : Nat) {b : Blk} (hi : L[i]? = some b) (hB : ∀ w, Sat B I nx L X w → B.w0.heap.size ≤ b.g)
  (k : ∀ J, I.le J → (∀ j u, b.cs[j]? = some u → J ⟨b.g, j, none⟩ = some u) → RL P os Q p A K B J nx (L.eraseIdx i) X) : RL P os Q p A K B I nx L X := by
 intro a w ha h
 have hbm := List.mem_of_getElem? hi
 obtain ⟨hil, hie⟩ := List.getElem?_eq_some_iff.1 hi
 have hsub : Sat B I nx (L.eraseIdx i) X w := h.less (List.eraseIdx_sublist _ _) (List.Sublist.refl _)
 have hn : ∀ q u, rowImm b.g b.cs q = some u → q = ⟨b.g, q.off, none⟩ ∧ b.cs[q.off]? = some u := fun q u hq => rowImm_some hq
 refine k (I.or (rowImm b.g b.cs)) (Imm.le_or _ _) (fun j u hj => ?_) a w ha (hsub.imm (rowImm b.g b.cs) ?_ ?_ ?_ ?_)
 ·refine Imm.or_get ?_ (by rw [rowImm_get]; exact hj)
  cases hI : I ⟨b.g, j, none⟩ with
  | none => rfl
  | some v => exact absurd rfl (h.imL _ v hI b hbm)
 ·intro q u hq
  obtain ⟨e4, e5⟩ := hn q u hq
  rw [e4]
  exact (h.cell hi (a := ⟨b.g, q.off, none⟩) rfl rfl).trans e5
 ·intro q u hq b' hb'
  obtain ⟨e4, _⟩ := hn q u hq
  rw [e4]
  obtain ⟨y, hy, hyb⟩ := List.getElem_of_mem hb'
  rw [List.length_eraseIdx_of_lt hil] at hy
  rw [List.getElem_eraseIdx] at hyb
  have hp := List.pairwise_iff_getElem.1 h.ne
  have key : ∀ j (hj : j < L.length), j ≠ i → L[j].g ≠ b.g := fun j hj hne => by
   rcases Nat.lt_or_gt_of_ne hne with h1 | h1
   ·have := hp j i hj hil h1; rwa [hie] at this
   ·have := hp i j hil hj h1; rw [hie] at this; exact this.symm
  split at hyb
  ·rw [← hyb]; exact key y (by omega) (by omega)
  ·rw [← hyb]; exact key (y + 1) (by omega) (by omega)
 ·intro q u hq r hr
  obtain ⟨e4, _⟩ := hn q u hq
  rw [e4]
  exact h.rblk r hr b hbm
 ·intro q u hq
  obtain ⟨e4, _⟩ := hn q u hq
  rw [e4]
  exact .inl (hB w h)
end

/-! ### a round's frame -/
def noDefer (o : Oper) : Bool := match o.op with | .defer _ => false | _ => true
section
variable {P : Program} {Q : Exit → Act → World → Prop} {ops : Array Oper}
def Fence.ro (r : Option Nat) : Fence := { Fence.wide with round := r }
theorem callsRo {r : Option Nat} {n : Nat} {f : FuncId} {args : Array Value} {w : World} {R : Ending → World → Prop} (h : Calls P f args w R) : CallsIn (Fence.ro r) n P f args w R := (callsIn_wide (n := n)).2 h
theorem uponRo {r : Option Nat} {n : Nat} {o : Oper} {a : Act} {N N' : Act → World → Prop} (hN : ∀ a w, N a w → N' a w) {x : Result Next} (h : o.upon P a N Q x) : o.uponIn (Fence.ro r) n P a N' Q x := by
 cases x with
 | ok x w' =>
  cases x with
  | value v => exact hN _ _ h
  | skip => exact hN _ _ h
  | defer d => exact hN _ _ h
  | enter f args =>
   refine ⟨(fun h => by cases h), callsRo (Calls.mono h fun e w' he => ?_)⟩
   cases e with
   | returned v => exact hN _ _ he
   | panicked c => exact he
   | outgrown => exact he
  | row f args =>
   refine ⟨(fun h => by cases h), fun c cs _ => ?_⟩
   obtain ⟨v, w'', h1, h2⟩ := h c cs
   exact ⟨v, w'', hN _ _ h1, stepsIn_wide.2 h2⟩
  | _ => exact h.elim
 | halt x w' => cases x <;> first | exact h | exact h.elim
theorem wpRo {r : Option Nat} {n : Nat} {o : Oper} (ho : noDefer o = true) (hQ : ¬ LetsOut Q) {a : Act} {w : World} {N N' : Act → World → Prop} (hN : ∀ a w, N a w → N' a w) (h : o.wp P a w N Q ∨ (o.asks P a w ∧ LetsOut Q)) : o.wpIn (Fence.ro r) n P a w N' Q := by
 refine ⟨fun _ _ => trivial, ?_⟩
 rw [Oper.semAt_plain (Fence.ro r) _ _ (fun c hc => by unfold noDefer at ho; rw [hc] at ho; cases ho)]
 exact uponRo hN (h.resolve_right fun h => hQ h.2)
theorem wpListRo {r : Option Nat} {n : Nat} (hQ : ¬ LetsOut Q) : ∀ (l : List Oper) (a : Act) (w : World), (∀ o ∈ l, noDefer o = true) → wpList P ops Q l a w → wpListIn (Fence.ro r) n P ops Q l a w
 | [], _, _, _, h => h
 | o :: l, a, w, hd, h => by
  simp only [wpList, wpListIn] at h ⊢
  have hd' : ∀ o ∈ l, noDefer o = true := fun o ho => hd o (List.mem_cons_of_mem _ ho)
  split at h
  ·rw [if_pos ‹_›]
   exact wpRo (hd o List.mem_cons_self) hQ (fun a w h => wpListRo hQ l a w hd' h) h
  ·rw [if_neg ‹_›]
   exact ⟨fun _ _ => trivial, wpListRo hQ l _ _ hd' h⟩
theorem wpAnyRo {r : Option Nat} {n : Nat} {md : Region.Mode} (hQ : ¬ LetsOut Q) (hd : ∀ o ∈ ops, noDefer o = true) : ∀ (fuel : Nat) (listed : Array Bool) (a : Act) (w : World), wpAny P md ops Q fuel listed a w → wpAnyIn (Fence.ro r) n P md ops Q fuel listed a w
 | 0, _, _, _, h => h
 | fuel + 1, listed, a, w, h => by
  refine ⟨h.1, fun i hi => ?_⟩
  have := h.2 i hi
  unfold wpOp at this
  unfold wpOpIn
  split
  ·rename_i hn
   rw [hn] at this
   exact wpAnyRo hQ hd fuel _ _ _ this
  ·rename_i o ho
   rw [ho] at this
   simp only at this
   split at this
   ·rw [if_pos ‹_›]
    exact wpRo (hd o (Array.mem_of_getElem? ho)) hQ (fun a w h => wpAnyRo hQ hd fuel _ a w h) this
   ·rw [if_neg ‹_›]
    exact ⟨fun _ _ => trivial, wpAnyRo hQ hd fuel _ _ _ this⟩
end

def OKr (r : Nat) (P : Program) (c : Code) (Q : Exit → Act → World → Prop) (A : Fr) (K : List (Nat × Value)) (B : Base) (I : Imm) (nx : Nat) (L : List Blk) (X : List Res) : Prop :=
 ∀ a w, Knows A K a → Sat B I nx L X w → c.wpIn (Fence.ro (some r)) 0 P Q a w
def thenI (r : Nat) (P : Program) (y : Code) (Q : Exit → Act → World → Prop) : Exit → Act → World → Prop := Exit.then (y.wpIn (Fence.ro (some r)) 0 P Q) Q
section
variable {r : Nat} {P : Program} {c : Code} {Q : Exit → Act → World → Prop} {A : Fr} {K : List (Nat × Value)} {B : Base} {I : Imm} {nx : Nat} {L : List Blk} {X : List Res}
theorem letsThen {y : Code} (hQ : ¬ LetsOut Q) : ¬ LetsOut (thenI r P y Q) := fun ⟨a, w, h⟩ => hQ ⟨a, w, h⟩
theorem letsBlock {id : Nat} (hQ : ¬ LetsOut Q) : ¬ LetsOut (Exit.inBlock id Q) := fun ⟨a, w, h⟩ => hQ ⟨a, w, h⟩
theorem OKr.seq (x y : Code) (h : c = .seq x y) (k : OKr r P x (thenI r P y Q) A K B I nx L X) : OKr r P c Q A K B I nx L X := by
 intro a w ha hs
 rw [h]
 exact wpIn_seq (k a w ha hs)
theorem QN.thenr {y : Code} (k : OKr r P y Q A K B I nx L X) : QN (thenI r P y Q) .normal A K B I nx L X := k
theorem OKr.region (id : Nat) (os : List Oper) (h : c = .region id os.toArray false) (hQ : ¬ LetsOut Q) (hd : os.all noDefer = true) (k : RL P os Q 0 A K B I nx L X) : OKr r P c Q A K B I nx L X := by
 intro a w ha hs
 rw [h]
 exact wpIn_region_lit (wpListRo hQ os a w (List.all_eq_true.1 hd) (k a w ha hs))
theorem OKr.block (id : Nat) (l : Code) (h : c = .block id l) (k : OKr r P l (Exit.inBlock id Q) A K B I nx L X) : OKr r P c Q A K B I nx L X := by
 intro a w ha hs
 rw [h]
 exact wpIn_block (k a w ha hs)
theorem OKr.cond (o : Operand) (x y : Code) (t : Bool) (h : c = .cond o x y) (hk : knownO K o = true) (ht : evalK K o = .bool t) (k1 : t = true → OKr r P x Q A K B I nx L X) (k2 : t = false → OKr r P y Q A K B I nx L X) : OKr r P c Q A K B I nx L X := by
 intro a w ha hs
 rw [h]
 have he : a.eval o = .bool t := by rw [ha.eval hk]; exact ht
 cases t with
 | true => exact wpIn_cond_true he (k1 rfl a w ha hs)
 | false => exact wpIn_cond_false he (k2 rfl a w ha hs)
theorem OKr.skip (h : c = .skip) (k : QN Q .normal A K B I nx L X) : OKr r P c Q A K B I nx L X := by
 intro a w ha hs
 rw [h]
 exact wpIn_skip (k a w ha hs)
theorem OKr.drawn (id : Nat) (os : List Oper) (h : c = .region id os.toArray true) (hm : P.follows .mixedOrders = true) (hQ : ¬ LetsOut Q) (hd : os.all noDefer = true)
  (k : ∀ a w, Knows A K a → Sat B I nx L X w → wpAny P .any os.toArray Q os.toArray.size (Array.replicate os.toArray.size false) a { w with drawn := w.drawn + 1 }) : OKr r P c Q A K B I nx L X := by
 intro a w ha hs
 rw [h]
 exact wpIn_region_any hm (wpAnyRo hQ (fun o ho => List.all_eq_true.1 hd o (by simpa using ho)) _ _ _ _ (k a w ha hs))
end

/-! ### a region with a call of yield -/
def RLi (P : Program) (os : List Oper) (Q : Exit → Act → World → Prop) (p : Nat) (A : Fr) (K : List (Nat × Value)) (B : Base) (I : Imm) (nx : Nat) (L : List Blk) (X : List Res) : Prop :=
 ∀ a w, Knows A K a → Sat B I nx L X w → wpListIn (Fence.ro none) 0 P os.toArray Q (os.drop p) a w
section
variable {P : Program} {c : Code} {Q : Exit → Act → World → Prop} {A : Fr} {K : List (Nat × Value)} {B : Base} {I : Imm} {nx : Nat} {L : List Blk} {X X' : List Res} {os : List Oper} {p : Nat}
theorem OK.regionI (id : Nat) (os : List Oper) (h : c = .region id os.toArray false) (k : RLi P os Q 0 A K B I nx L X) : OK P c Q A K B I nx L X := by
 intro a w ha hs
 rw [h]
 exact (wpIn_wide (n := 0)).1 (wpIn_region_lit (k a w ha hs))
/-- Operations ahead of the call. -/
theorem simOps_in {R : List (Addr × Value)} (hR : RFacts B I X R) {rest : List Oper} :
  ∀ (l : List Oper) (locs : List Loc) (K : List (Nat × Value)) (nx : Nat) (L : List Blk) (es : List (Nat × Nat)) (K' : List (Nat × Value)) (nx' : Nat) (L' : List Blk) (es' : List (Nat × Nat)) (a : Act) (w : World),
   (∀ o ∈ l, noDefer o = true) → simOps P R os A l locs K nx L es = some (K', nx', L', es') → eqs es' → Knows A K a → Sat B I nx L X w →
   (∀ a' w', Knows A K' a' → Sat B I nx' L' X w' → wpListIn (Fence.ro none) 0 P os.toArray Q rest a' w') → wpListIn (Fence.ro none) 0 P os.toArray Q (l ++ rest) a w := by
 intro l
 induction l with
 | nil =>
  intro locs K nx L es K' nx' L' es' a w _ h he ha hs hk
  simp only [simOps, Option.some.injEq, Prod.mk.injEq] at h
  obtain ⟨rfl, rfl, rfl, rfl⟩ := h
  exact hk a w ha hs
 | cons o l ih =>
  intro locs K nx L es K' nx' L' es' a w hnd h he ha hs hk
  have hnd' : ∀ o ∈ l, noDefer o = true := fun o ho => hnd o (List.mem_cons_of_mem _ ho)
  have hsem := Oper.semAt_plain (Fence.ro none) a.eval o (fun c hc => by have := hnd o List.mem_cons_self; unfold noDefer at this; rw [hc] at this; cases this)
  simp only [simOps] at h
  simp only [List.cons_append, wpListIn]
  split at h
  ·cases h
  ·rename_i hw
   rw [if_neg (by rw [wantedK_spec ha hw]; decide)]
   exact ⟨fun _ _ => trivial, ih _ _ _ _ _ _ _ _ _ _ _ hnd' h he (ha.put _ _) hs hk⟩
  ·rename_i hw
   rw [if_pos (wantedK_spec ha hw)]
   split at h
   ·cases h
   ·rename_i hkn
    rw [Bool.and_eq_true, List.all_eq_true] at hkn
    refine ⟨fun _ _ => trivial, ?_⟩
    rw [hsem, ha.exec hkn.1 (fun x hx => hkn.2 x (by simpa using hx))]
    split at h
    ·rename_i v nx1 L1 es1 hsim
     obtain ⟨_, w', hr, hs'⟩ := simS_sound hR _ _ _ _ _ w _ _ _ _ hsim (fun p hp => he p (simOps_mono _ _ _ _ _ _ _ _ _ _ h p hp)) hs
     rw [hr]
     exact ih _ _ _ _ _ _ _ _ _ _ _ hnd' h he (ha.put _ _) hs' hk
    ·rename_i nx1 L1 es1 hsim
     obtain ⟨_, w', hr, hs'⟩ := simS_sound hR _ _ _ _ _ w _ _ _ _ hsim (fun p hp => he p (simOps_mono _ _ _ _ _ _ _ _ _ _ h p hp)) hs
     rw [hr]
     exact ih _ _ _ _ _ _ _ _ _ _ _ hnd' h he (ha.put _ _) hs' hk
    ·cases h
theorem RLi.simP (R : List (Addr × Value)) (hR : RFacts B I X R) (n : Nat) (locs : List Loc) {K' : List (Nat × Value)} {nx' : Nat} {L' : List Blk}
  (hd : ((os.drop p).take n).all noDefer = true)
  (h : (simOps P R os A ((os.drop p).take n) locs K nx L []).map (fun x => (K'.map (fun q => lookK x.1 q.1), x.2.1, x.2.2.1)) = some (K'.map (fun q => some q.2), nx', L'))
  (he : (simOps P R os A ((os.drop p).take n) locs K nx L []).map (fun x => x.2.2.2.map (·.1)) = (simOps P R os A ((os.drop p).take n) locs K nx L []).map (fun x => x.2.2.2.map (·.2)))
  (k : RLi P os Q (p + n) A K' B I nx' L' X) : RLi P os Q p A K B I nx L X := by
 intro a w ha hs
 cases hsim : simOps P R os A ((os.drop p).take n) locs K nx L [] with
 | none => rw [hsim] at h; cases h
 | some x =>
  obtain ⟨K1, nx1, L1, es1⟩ := x
  rw [hsim] at h he
  simp only [Option.map_some, Option.some.injEq, Prod.mk.injEq] at h he
  obtain ⟨h2, rfl, rfl⟩ := h
  have := simOps_in hR (Q := Q) (rest := os.drop (p + n)) _ _ _ _ _ _ _ _ _ _ a w (List.all_eq_true.1 hd) hsim (eqs_of_map he) ha hs (fun a' w' ha' hs' => k a' w' (knows_sub ha' h2) hs')
  rwa [← List.drop_drop, List.take_append_drop] at this
theorem RLi.nil (h : os.drop p = []) (k : QN Q .normal A K B I nx L X) : RLi P os Q p A K B I nx L X := by
 intro a w ha hs
 rw [h]
 exact k a w ha hs
theorem YieldAt.mono {F : Fence} {m l : Nat} {xs : Array Value} {w : World} {R R' : Ending → World → Prop} (h : YieldAt F m P l xs w R) (hr : ∀ e w', R e w' → R' e w') : YieldAt F m P l xs w R' := by
 obtain ⟨fn, tmps, as1, bd, h1, h2⟩ := h
 exact ⟨fn, tmps, as1, bd, h1, h2.mono hr⟩
/-- The call of yield itself. -/
theorem RLi.yield (l : Nat) (xs : Array Value) (d : Option Tmp) (hl : ready os p K d = true) (hnd : noDefer (os.getD p default) = true) (hx : execOp (evalK K) (os.getD p default) = Instr.yield l xs)
  (hy : ∀ w, Sat B I nx L X w → YieldAt (Fence.ro none) 0 P l xs w fun e w' => e = .returned (.bool true) ∧ Sat B I w'.heap.size L X' w')
  (k : ∀ nx', RLi P os Q (p + 1) A (putK A K d (.bool true)) B I nx' L X') : RLi P os Q p A K B I nx L X := by
 intro a w ha hs
 unfold ready at hl
 split at hl
 ·cases hl
 ·rename_i o ho
  simp only [Bool.and_eq_true, beq_iff_eq, List.all_eq_true] at hl
  obtain ⟨⟨hw, hk1, hk2⟩, hd⟩ := hl
  have hgo : os.getD p default = o := by rw [List.getD_eq_getElem?_getD, ho]; rfl
  rw [hgo] at hx
  rw [hgo] at hnd
  rw [drop_get (by rw [ho]; rfl), hgo]
  simp only [wpListIn]
  rw [if_pos (wantedK_spec ha hw)]
  refine ⟨fun _ _ => trivial, ?_⟩
  rw [Oper.semAt_plain (Fence.ro none) _ _ (fun c hc => by unfold noDefer at hnd; rw [hc] at hnd; cases hnd), ha.exec hk1 (fun x hx => hk2 x (by simpa using hx)), hx]
  obtain ⟨fn, tmps, as1, bd, hr, hR⟩ := hy w hs
  rw [hr]
  refine ⟨(fun h => by cases h), RoundIn.mono hR fun e w' ⟨he, hs'⟩ => ?_⟩
  subst he
  show wpListIn _ 0 P os.toArray Q (os.drop (p + 1)) (a.put o.dst (.bool true)) w'
  rw [hd]
  exact k _ _ w' (ha.put d _) hs'
end
end Go.Proofs.YtijhdekfbjafgaaGreat.RW
namespace Go.Proofs.YtijhdekfbjafgaaGreat.RW
open Go Go.RowKit

/-- Below n nothing has turned. -/
structure LowEq (n : Nat) (A B : World) : Prop where
 os : B.os = A.os
 tape : B.tape = A.tape
 output : B.output = A.output
 blk : ∀ k, k < n → B.heap[k]? = A.heap[k]?
theorem LowEq.less {n m : Nat} {A B : World} (h : LowEq n A B) (hm : m ≤ n) : LowEq m A B := ⟨h.os, h.tape, h.output, fun k hk => h.blk k (by omega)⟩
theorem Evo.low {S : Nat → Prop} {A B : World} {n : Nat} (h : Evo S A B) (hn : n ≤ A.heap.size) (hS : ∀ k, S k → n ≤ k) : LowEq n A B :=
 ⟨h.os, h.tape, h.output, fun k hk => h.blk k (by omega) (fun hs => by have := hS k hs; omega)⟩
theorem Evo.put (w : World) (g : Nat) (o : Obj) : Evo (fun k => k = g) w (w.putObj g o) :=
 ⟨rfl, rfl, rfl, by simp, fun k _ hn => World.putObj_heap_other hn⟩
theorem Evo.alloc (w : World) (o : Obj) : Evo (fun _ => False) w (w.alloc o) :=
 ⟨rfl, rfl, rfl, by simp, fun k hk _ => by
  show (w.heap.push o)[k]? = _
  rw [Array.getElem?_push, if_neg (by omega)]⟩

variable {P : Program}
theorem range_wp {α : Type} {g : Operand} {ps : Array Tmp} {assign body : Code} {Q : Exit → Act → World → Prop} {a : Act} {w : World} {gf : Nat} {lb : Array Value}
  (hg : a.eval g = .func (.func gf) #[] lb) (eg : ∀ args w, (callFunc gf args).run P w = .ok (.enter gf args) w)
  (E : α → Array Value → Prop) (hps : ∀ x xs, E x xs → xs.size = ps.size) (c : List α) (S : Nat → Prop) (hS : ∀ k, S k → k < w.heap.size)
  (J : List α → World → Prop) (hJ : ∀ pre A B, J pre A → LowEq w.heap.size A B → J pre B) (h0 : J [] w)
  (hround : ∀ (l : Nat) (pre : List α) (x : α) (xs : Array Value) (W : World), J pre W → (pre ++ [x]) <+: c → E x xs → w.heap.size ≤ l → l < W.heap.size →
   assign.wpIn (Fence.ro (some l)) 0 P (Exit.then (fun a₁ W₁ => Evo (fun _ => False) W W₁ ∧ ∀ W₂, Evo (fun k => k = l) W₁ W₂ → body.wpIn (Fence.ro (some l)) 0 P (fun e _ W' => e = .normal ∧ J (pre ++ [x]) W' ∧ Evo (fun k => S k ∨ W.heap.size ≤ k) W₂ W') a₁ W₂) (fun _ _ _ => False))
    {tmps := (ps.zip xs).foldl (fun t (p, v) => t.setIfInBounds p v) a.tmps, defers := [] } W)
  (hiter : ∀ (l : Nat) (W : World) (S' : Nat → Prop) (J' : List α → World → Prop), Evo (fun _ => False) w W → (∀ k, S' k → k < W.heap.size ∧ (S k ∨ w.heap.size ≤ k)) →
   (∀ pre A B, J' pre A → LowEq W.heap.size A B → J' pre B) →
   (∀ pre x xs W1, J' pre W1 → (pre ++ [x]) <+: c → E x xs → YieldAt (Fence.ro none) 0 P l xs W1 fun e W' => e = .returned (.bool true) ∧ J' (pre ++ [x]) W' ∧ Evo S' W1 W') →
   J' [] W → Calls P gf (#[.func (.yield l) #[] #[]] ++ lb) W fun e W' => (∃ v, e = .returned v) ∧ J' c W' ∧ Evo S' W W')
  (hdone : ∀ (D : Nat) (W : World), w.heap.size ≤ D → J c W → Evo S w W → W.heap[D]? = some (.deferred (some [])) → Q .normal { a with defers := { target := .collected D, args := #[] } :: a.defers } W) :
  (Code.rangeFunc g ps assign body).wp P Q a w := by
 refine (wpIn_wide (n := 0)).1 (wpIn_rangeFunc ?_)
 intro fn hfn
 rw [show Fence.wide.round = none from rfl]
 obtain ⟨rec, hrec⟩ : ∃ rec : LoopState → Option Code → Loop, rec = fun st pe => { state := st, pending := pe, fn, tmps := a.tmps, params := ps, assign, body, defers := w.heap.size } := ⟨_, rfl⟩
 obtain ⟨W1, hW1⟩ : ∃ W1, (w.alloc (.deferred (some []))).alloc (.loop (rec .ready none)) = W1 := ⟨_, rfl⟩
 have hL1 : W1.heap[w.heap.size + 1]? = some (.loop (rec .ready none)) := by
  rw [← hW1]; have := World.alloc_heap_new (w.alloc (.deferred (some []))) (.loop (rec .ready none)); rwa [World.size_alloc] at this
 have hE1 : Evo (fun _ => False) w W1 := by rw [← hW1]; exact (Evo.alloc w _).trans (Evo.alloc _ _)
 have hs1 : W1.heap.size = w.heap.size + 2 := by rw [← hW1]; simp
 have hK1 : W1.heap[w.heap.size]? = some (.deferred (some [])) := by
  rw [← hW1, (Evo.alloc (w.alloc (.deferred (some []))) (.loop (rec .ready none))).blk w.heap.size (by simp) (fun h => h)]
  exact World.alloc_heap_new w _
 have hI1 : J [] W1 := hJ _ _ _ h0 (hE1.low (Nat.le_refl _) (fun k h => h.elim))
 refine ⟨w.heap.size + 1, [{ target := .collected w.heap.size, args := #[] }], W1, { target := .fn (.func gf) lb, args := #[.func (.yield (w.heap.size + 1)) #[] #[]] }, W1, gf,
  #[.func (.yield (w.heap.size + 1)) #[] #[]] ++ lb, W1, ?_, ?_, (fun _ _ => trivial), ?_, (fun h => by cases h), ?_⟩
 ·rw [← hW1, hrec]; exact run_enterLoop_outer _ _ _ _ _
 ·simp only [resolve, hg]
  simp [go_sem]
 ·simp [invoke, go_sem, eg]
 ·refine callsIn_wide.2 ?_
  refine Calls.mono (hiter (w.heap.size + 1) W1 (fun k => k < W1.heap.size ∧ (S k ∨ k = w.heap.size + 1))
   (fun pre W => J pre W ∧ W.heap[w.heap.size + 1]? = some (.loop (rec .ready none)) ∧ W.heap[w.heap.size]? = some (.deferred (some [])))
   hE1 (fun k hk => ⟨hk.1, hk.2.imp id (fun h => by omega)⟩)
   (fun pre A B h hlow => ⟨hJ _ _ _ h.1 (hlow.less (by omega)), by rw [hlow.blk _ (by omega)]; exact h.2.1, by rw [hlow.blk _ (by omega)]; exact h.2.2⟩)
   ?_ ⟨hI1, hL1, hK1⟩) ?_
  ·rintro pre x xs W ⟨hi, hl, hk⟩ hpre hE
   have hlt : w.heap.size + 1 < W.heap.size := (Array.getElem?_eq_some_iff.1 hl).1
   have hy := run_yield (P := P) (args := xs) hl (by rw [hrec]; exact hps x xs hE)
   rw [hrec] at hy
   refine ⟨fn, _, assign, body, hy, roundIn_of_wpIn (F := Fence.ro none) trivial ?_⟩
   refine wpIn_mono (hround (w.heap.size + 1) pre x xs W hi hpre hE (by omega) hlt) ?_
   rintro e a1 W2 hp
   cases e with
   | normal =>
    obtain ⟨hev, hbody⟩ := hp
    have hl2 : W2.heap[w.heap.size + 1]? = some (.loop (rec .ready none)) := by rw [hev.blk _ hlt (fun h => h)]; exact hl
    have hk2 : W2.heap[w.heap.size]? = some (.deferred (some [])) := by rw [hev.blk _ (by omega) (fun h => h)]; exact hk
    have hlt2 : w.heap.size + 1 < W2.heap.size := (Array.getElem?_eq_some_iff.1 hl2).1
    refine ⟨_, run_beginRound hl2 (by rw [hrec]), ?_⟩
    have hput := Evo.put W2 (w.heap.size + 1) (.loop { rec .ready none with state := .busy })
    refine wpIn_mono (hbody _ hput) ?_
    rintro e3 a3 W3 ⟨rfl, hJ3, hev3⟩
    have nS : ∀ k, w.heap.size ≤ k → k < W.heap.size → ¬ (S k ∨ W.heap.size ≤ k) := fun k hk hk2 hs => by
     rcases hs with hs | hs
     ·have := hS k hs; omega
     ·omega
    have hsz2 := hev.size
    have hl3 : W3.heap[w.heap.size + 1]? = some (.loop { rec .ready none with state := .busy }) := by
     rw [hev3.blk _ (by simpa using hlt2) (nS _ (by omega) hlt)]
     exact World.putObj_heap_same hlt2
    have hk3 : W3.heap[w.heap.size]? = some (.deferred (some [])) := by
     rw [hev3.blk _ (by simp; omega) (nS _ (by omega) (by omega)), World.putObj_heap_other (by omega)]
     exact hk2
    have hlt3 : w.heap.size + 1 < W3.heap.size := (Array.getElem?_eq_some_iff.1 hl3).1
    have hend := run_endRound (P := P) none hl3
    have hput3 := Evo.put W3 (w.heap.size + 1) (.loop { { rec .ready none with state := .busy } with state := if (none : Option Code).isNone then .ready else .done, pending := none })
    refine ⟨_, _, hend, rfl, ⟨?_, ?_, ?_⟩, ?_⟩
    ·exact hJ _ _ _ hJ3 (hput3.low (by omega) (fun k h => by omega))
    ·rw [World.putObj_heap_same hlt3, hrec]; rfl
    ·rw [World.putObj_heap_other (by omega)]; exact hk3
    ·have e1 : Evo (fun k => (k < W1.heap.size ∧ (S k ∨ k = w.heap.size + 1)) ∨ W.heap.size ≤ k) W W2 := hev.mono (fun k _ h => h.elim)
     have hWW : W1.heap.size ≤ W.heap.size := by omega
     have e2 : Evo (fun k => (k < W1.heap.size ∧ (S k ∨ k = w.heap.size + 1)) ∨ W.heap.size ≤ k) W2 _ := hput.mono (fun k _ h => .inl ⟨by omega, .inr h⟩)
     have e3 : Evo (fun k => (k < W1.heap.size ∧ (S k ∨ k = w.heap.size + 1)) ∨ W.heap.size ≤ k) _ W3 := hev3.mono (fun k _ h => h.imp (fun h => ⟨by have := hS k h; omega, .inl h⟩) id)
     exact (((e1.trans e2).trans e3).trans (hput3.mono (fun k _ h => .inl ⟨by omega, .inr h⟩))).mono (fun k hk h => h.resolve_right (by omega))
   | _ => exact hp.elim
  ·rintro e W2 ⟨⟨v, rfl⟩, ⟨hi, hl, hk⟩, hev⟩
   refine ⟨none, _, by have := run_endLoop (P := P) hl (by rw [hrec]; simp); rw [hrec] at this; exact this, ?_⟩
   have hlt2 : w.heap.size + 1 < W2.heap.size := (Array.getElem?_eq_some_iff.1 hl).1
   have hput := Evo.put W2 (w.heap.size + 1) (.loop { rec .ready none with state := .exhausted })
   rw [hrec] at hput
   refine hdone w.heap.size _ (Nat.le_refl _) (hJ _ _ _ hi (hput.low (by omega) (fun k h => by omega))) ?_ ((World.putObj_heap_other (by omega)).trans hk)
   have e1 := (hE1.mono (S' := fun k => S k ∨ k = w.heap.size + 1) (fun k _ h => h.elim)).trans ((hev.mono (fun k _ h => h.2)).trans (hput.mono (fun k _ h => .inr h)))
   exact e1.mono (fun k hk h => h.resolve_right (by omega))

/-! ### what is asked around such a loop -/
theorem calls_bodyM {f : FuncId} {fn : Func} {args : List Value} {w : World} {R : Ending → World → Prop} (hf : P.funcs[f]? = some fn) (hb : fn.body = some (cBody fn)) (n : Nat) (hn : fn.ntmps = n) (hle : Nat.ble args.length n = true) (B : Base) (I : Imm) (X : List Res)
  (K : List (Nat × Value)) (hK : K.map (fun p => args[p.1]?) = K.map (fun p => some p.2)) (hs : Sat B I w.heap.size [] X w)
  (h : OK P (cBody fn) (bodyPostM Fence.wide 0 P fn R) ⟨n, []⟩ K B I w.heap.size [] X) : Calls P f args.toArray w R := by
 refine (callsIn_wide (n := 0)).1 (callsIn_of_wp_marks hf hb trivial (wpIn_wide.2 (h _ w ⟨?_, rfl, fun p hp => ?_⟩ hs)) rfl)
 ·have := Nat.le_of_ble_eq_true hle
  simp only [Array.size_append, List.size_toArray, Array.size_replicate]
  omega
 ·obtain ⟨i, hi, rfl⟩ := List.getElem_of_mem hp
  have h1 := congrArg (·[i]?) hK
  simp only [List.getElem?_map, List.getElem?_eq_getElem hi, Option.map_some, Option.some.injEq] at h1
  have hlt := (List.getElem?_eq_some_iff.1 h1).1
  simp only
  rw [Array.getElem?_append_left (by simpa using hlt), List.getElem?_toArray]
  exact h1
theorem QN.bodyM {fn : Func} {Rr : Ending → World → Prop} {A : Fr} {K : List (Nat × Value)} {B : Base} {I : Imm} {nx : Nat} {L : List Blk} {X : List Res} {D : Nat} (hA : A.D = [{ target := .collected D, args := #[] }]) (v : Value) (hk : resKnown K fn.results.toList = true)
  (h : (simQ P [] [] (resultsK fn K) .no []).map (·.1) = some v) (hD : ∀ w, Sat B I nx L X w → w.heap[D]? = some (.deferred (some [])))
  (k : ∀ w, Sat B I nx L X w → Rr (.returned v) (w.putObj D (.deferred none))) : QN (bodyPostM Fence.wide 0 P fn Rr) .ret A K B I nx L X := by
 intro a w ha hs
 show LeavesInM Fence.wide 0 P fn a.tmps Rr a.defers .returning w
 rw [ha.defers, hA]
 refine ⟨(fun h => by cases h), .inl ⟨D, _, rfl, run_takeDeferred (hD w hs), ?_⟩⟩
 refine ⟨v, ?_, k w hs⟩
 rw [results_eq hk ha]
 cases hsim : simQ P [] [] (resultsK fn K) .no [] with
 | none => rw [hsim] at h; cases h
 | some x =>
  obtain ⟨x1, es1⟩ := x
  rw [hsim] at h
  simp only [Option.map_some, Option.some.injEq] at h
  subst h
  exact simQ_any _ _ _ _ hsim _

/-- What others hold and may turn: told by a world that is the same there. -/
def jres (S : Nat → Prop) (W0 : World) (J : World → Prop) : Res where
 fp := S
 P := fun _ w => ∃ W', J W' ∧ Evo S W0 W' ∧ ∀ k, S k → w.heap[k]? = W'.heap[k]?
 stable := fun _ _ _ h ⟨W', h1, h2, h3⟩ => ⟨W', h1, h2, fun k hk => (h k hk).trans (h3 k hk)⟩
 ext := fun _ _ _ _ h => h
theorem jres_at {S : Nat → Prop} {W0 : World} {I0 I : Imm} {J : World → Prop} {nx : Nat} {L : List Blk} {X : List Res} {w : World} (h : Sat ⟨W0, S, I0⟩ I nx L X w) (hm : jres S W0 J ∈ X) (hJ : ∀ A B, J A → LowEq W0.heap.size A B → J B) : J w := by
 obtain ⟨W', h1, h2, h3⟩ := h.res _ hm
 refine hJ W' w h1 ⟨h.evo.os.trans h2.os.symm, h.evo.tape.trans h2.tape.symm, h.evo.output.trans h2.output.symm, fun k hk => ?_⟩
 by_cases hs : S k
 ·exact h3 k hs
 ·exact (h.evo.blk k hk hs).trans (h2.blk k hk hs).symm
theorem Sat.yielded {S : Nat → Prop} {W0 : World} {I0 I : Imm} {J J' : World → Prop} {nx : Nat} {L : List Blk} {X : List Res} {w w' : World} (h : Sat ⟨W0, S, I0⟩ I nx L (jres S W0 J :: X) w) (hS : ∀ k, S k → k < W0.heap.size) (hev : Evo S w w') (hJ' : J' w') : Sat ⟨W0, S, I0⟩ I w'.heap.size L (jres S W0 J' :: X) w' := by
 have hm : jres S W0 J ∈ jres S W0 J :: X := List.mem_cons_self
 have hsz := hev.size
 have hnx := h.hnx
 have h00 : W0.heap.size ≤ w.heap.size := h.evo.size
 have hE := h.evo.trans (hev.mono (fun k _ hk => hk))
 have hp := List.pairwise_cons.1 h.rdis
 refine ⟨hE, rfl, ?_, h.own, h.ne, ?_, ?_, List.pairwise_cons.2 ⟨hp.1, hp.2⟩, ?_, ?_, h.imL, ?_, h.le, h.inew⟩
 ·intro b hb
  rw [hev.blk b.g (by rw [hnx]; exact h.lt hb) (fun hs => h.rblk _ hm b hb hs)]
  exact h.blk b hb
 ·intro r hr
  rcases List.mem_cons.1 hr with rfl | hr
  ·exact ⟨w', hJ', hE, fun _ _ => rfl⟩
  ·refine r.stable I w w' (fun k hk => hev.blk k (by rw [hnx]; exact (h.rown r (List.mem_cons_of_mem _ hr) k hk).1) (fun hs => hp.1 r hr k hs hk)) (h.res r (List.mem_cons_of_mem _ hr))
 ·intro r hr k hk
  rcases List.mem_cons.1 hr with rfl | hr
  ·have := hS k hk
   exact ⟨by omega, .inr hk⟩
  ·have := h.rown r (List.mem_cons_of_mem _ hr) k hk
   exact ⟨by omega, this.2⟩
 ·intro r hr b hb
  rcases List.mem_cons.1 hr with rfl | hr
  ·exact h.rblk _ hm b hb
  ·exact h.rblk r (List.mem_cons_of_mem _ hr) b hb
 ·intro a v ha
  have hc := h.im a v ha
  rw [← hc]
  exact look_of_block (w := w) (hev.blk _ (look_lt hc) (fun hs => h.imX a v ha _ hm hs))
 ·intro a v ha r hr
  rcases List.mem_cons.1 hr with rfl | hr
  ·exact h.imX a v ha (jres S W0 J) hm
  ·exact h.imX a v ha r (List.mem_cons_of_mem _ hr)
/-- The start, with what others hold. -/
theorem Sat.startJ {S : Nat → Prop} {W : World} {I : Imm} {J : World → Prop} (hI : I.at_ W) (hS : ∀ k, S k → k < W.heap.size) (hIS : ∀ a v, I a = some v → ¬ S a.block) (hJ : J W) : Sat ⟨W, S, I⟩ I W.heap.size [] [jres S W J] W := by
 have h := Sat.start W S I hI
 refine ⟨h.evo, h.hnx, h.blk, h.own, h.ne, ?_, ?_, List.pairwise_singleton _ _, ?_, h.im, h.imL, ?_, h.le, h.inew⟩
 ·intro r hr
  rw [List.mem_singleton.1 hr]
  exact ⟨W, hJ, Evo.refl _ _, fun _ _ => rfl⟩
 ·intro r hr k hk
  rw [List.mem_singleton.1 hr] at hk
  exact ⟨hS k hk, .inr hk⟩
 ·intro r hr b hb
  cases hb
 ·intro a v ha r hr
  rw [List.mem_singleton.1 hr]
  exact hIS a v ha
/-- Two pieces of memory at the start. -/
theorem Sat.start2 {S : Nat → Prop} {W : World} {I : Imm} (hI : I.at_ W) (L : List Blk) (hL : ∀ b ∈ L, W.heap[b.g]? = some (.cells b.cs.toArray b.ty (0, 0)) ∧ S b.g ∧ ∀ a v, I a = some v → b.g ≠ a.block) (hne : L.Pairwise (fun a b => a.g ≠ b.g))
  (r1 r2 : Res) (h1 : r1.P I W) (h2 : r2.P I W) (hf1 : ∀ k, r1.fp k → k < W.heap.size ∧ S k ∧ (∀ b ∈ L, b.g ≠ k) ∧ ∀ a v, I a = some v → a.block ≠ k) (hf2 : ∀ k, r2.fp k → k < W.heap.size ∧ S k ∧ (∀ b ∈ L, b.g ≠ k) ∧ ∀ a v, I a = some v → a.block ≠ k) (hd : ∀ k, r1.fp k → ¬ r2.fp k) :
  Sat ⟨W, S, I⟩ I W.heap.size L [r1, r2] W := by
 have h := Sat.start W S I hI
 have two : ∀ r ∈ [r1, r2], r = r1 ∨ r = r2 := fun r hr => by simpa using hr
 refine ⟨h.evo, h.hnx, fun b hb => (hL b hb).1, fun b hb => .inr (hL b hb).2.1, hne, ?_, ?_, ?_, ?_, h.im, fun a v ha b hb => (hL b hb).2.2 a v ha, ?_, h.le, h.inew⟩
 ·intro r hr
  rcases two r hr with rfl | rfl <;> assumption
 ·intro r hr k hk
  rcases two r hr with rfl | rfl
  ·exact ⟨(hf1 k hk).1, .inr (hf1 k hk).2.1⟩
  ·exact ⟨(hf2 k hk).1, .inr (hf2 k hk).2.1⟩
 ·exact List.pairwise_cons.2 ⟨fun r hr k hk => by rw [List.mem_singleton.1 hr]; exact hd k hk, List.pairwise_singleton _ _⟩
 ·intro r hr b hb hk
  rcases two r hr with rfl | rfl
  ·exact (hf1 _ hk).2.2.1 b hb rfl
  ·exact (hf2 _ hk).2.2.1 b hb rfl
 ·intro a v ha r hr hk
  rcases two r hr with rfl | rfl
  ·exact (hf1 _ hk).2.2.2 a v ha rfl
  ·exact (hf2 _ hk).2.2.2 a v ha rfl
/-- The block of the rounds' deferred calls. -/
def dres (D : Nat) (o : Option (List Deferred)) : Res where
 fp := fun k => k = D
 P := fun _ w => w.heap[D]? = some (.deferred o)
 stable := fun _ w w' h hp => by rw [h D rfl]; exact hp
 ext := fun _ _ _ _ h => h
/-- Behind a loop whose rounds have turned two pieces of memory. -/
theorem Sat.turned {B : Base} {I : Imm} {nx : Nat} {r1 r2 r1' r2' : Res} {w w' : World} (h : Sat B I nx [] [r1, r2] w) {S : Nat → Prop} (hS : ∀ k, S k → r1.fp k ∨ r2.fp k) (hev : Evo S w w') (e1 : r1'.fp = r1.fp) (e2 : r2'.fp = r2.fp) (h1 : r1'.P I w') (h2 : r2'.P I w') {D : Nat} (hD : w'.heap[D]? = some (.deferred (some []))) (hDn : w.heap.size ≤ D) :
  Sat B I w'.heap.size [] [r1', r2', dres D (some [])] w' := by
 have m1 : r1 ∈ [r1, r2] := List.mem_cons_self
 have m2 : r2 ∈ [r1, r2] := List.mem_cons_of_mem _ List.mem_cons_self
 have hnx := h.hnx
 have hsz := hev.size
 have h0 := h.evo.size
 have hDl := (Array.getElem?_eq_some_iff.1 hD).1
 have hd12 : ∀ k, r1.fp k → ¬ r2.fp k := (List.pairwise_cons.1 h.rdis).1 r2 List.mem_cons_self
 have three : ∀ r ∈ [r1', r2', dres D (some [])], r = r1' ∨ r = r2' ∨ r = dres D (some []) := fun r hr => by simpa using hr
 have own1 : ∀ k, r1'.fp k → k < nx ∧ (B.w0.heap.size ≤ k ∨ B.S k) := fun k hk => h.rown r1 m1 k (by rw [← e1]; exact hk)
 have own2 : ∀ k, r2'.fp k → k < nx ∧ (B.w0.heap.size ≤ k ∨ B.S k) := fun k hk => h.rown r2 m2 k (by rw [← e2]; exact hk)
 refine ⟨⟨hev.os.trans h.evo.os, hev.tape.trans h.evo.tape, hev.output.trans h.evo.output, by omega, fun k hk hn => ?_⟩, rfl, (fun b hb => by cases hb), (fun b hb => by cases hb), List.Pairwise.nil, ?_, ?_, ?_, (fun r _ b hb => by cases hb), ?_, (fun a v _ b hb => by cases hb), ?_, h.le, h.inew⟩
 ·refine (hev.blk k (by omega) (fun hs => ?_)).trans (h.evo.blk k hk hn)
  rcases hS k hs with h3 | h3
  ·rcases (h.rown r1 m1 k h3).2 with h4 | h4
   ·omega
   ·exact hn h4
  ·rcases (h.rown r2 m2 k h3).2 with h4 | h4
   ·omega
   ·exact hn h4
 ·intro r hr
  rcases three r hr with rfl | rfl | rfl
  ·exact h1
  ·exact h2
  ·exact hD
 ·intro r hr k hk
  rcases three r hr with rfl | rfl | rfl
  ·have := own1 k hk; exact ⟨by omega, this.2⟩
  ·have := own2 k hk; exact ⟨by omega, this.2⟩
  ·obtain rfl : k = D := hk
   exact ⟨hDl, .inl (by omega)⟩
 ·refine List.pairwise_cons.2 ⟨fun r hr k hk => ?_, List.pairwise_cons.2 ⟨fun r hr k hk => ?_, List.pairwise_singleton _ _⟩⟩
  ·rcases List.mem_cons.1 hr with rfl | hr
   ·rw [e2]; exact hd12 k (by rw [← e1]; exact hk)
   ·rw [List.mem_singleton.1 hr]
    intro hk2
    obtain rfl : k = D := hk2
    have := own1 k hk
    omega
  ·rw [List.mem_singleton.1 hr]
   intro hk2
   obtain rfl : k = D := hk2
   have := own2 k hk
   omega
 ·intro a v ha
  have hc := h.im a v ha
  rw [← hc]
  exact look_of_block (w := w) (hev.blk _ (look_lt hc) (fun hs => (hS _ hs).elim (h.imX a v ha _ m1) (h.imX a v ha _ m2)))
 ·intro a v ha r hr
  rcases three r hr with rfl | rfl | rfl
  ·rw [e1]; exact h.imX a v ha _ m1
  ·rw [e2]; exact h.imX a v ha _ m2
  ·intro hk
   have h3 : a.block = D := hk
   have := look_lt (h.im a v ha)
   omega
/-- A region that draws, over any state. -/
theorem drawnAnyS {A : Fr} {K : List (Nat × Value)} {Q : Exit → Act → World → Prop} {B : Base} {I : Imm} {nx : Nat} {L : List Blk} {X : List Res} (t : Nat) (os : List Oper) (an : List Nat) (vl : List (Nat × (Wt → Value))) (gl : List (Nat × ((Nat → Wt) → Value))) (R : List (Addr × Value)) (Lq : List Blk) (locs : List Loc)
  (han : ancs os [] = an) (hok : drawOk os an t = true) (hlt : (vl.all fun p => decide (p.1 < t)) = true) (vs : (Nat → Wt) → List Value) (K' : (Nat → Wt) → List (Nat × Value))
  (hv : ∀ u, (qSim P R Lq os A vl gl u locs 0 (os.take t) K).map (fun x => (x.1, x.2.1)) = some (vs u, K' u))
  (he : ∀ u, (qSim P R Lq os A vl gl u locs 0 (os.take t) K).map (fun x => x.2.2.map (·.1)) = (qSim P R Lq os A vl gl u locs 0 (os.take t) K).map (fun x => x.2.2.map (·.2)))
  (S : (Nat → Bool) → (Nat → Wt) → World → Prop) (hS : ∀ D u w, S D u w → (∀ b ∈ Lq, w.heap[b.g]? = some (.cells b.cs.toArray b.ty (0, 0))) ∧ ∀ r ∈ R, w.cell? r.1 = some r.2)
  (h0 : ∀ u w, Sat B I nx L X w → S (fun _ => false) u w)
  (Ks : List ((Nat → Wt) → List (Nat × Value))) (hf : framesOk A K os vs vl Ks) (hl : Louds P os an vl S vl Ks)
  (Kg : List ((Nat → Wt) → List (Nat × Value))) (hfg : framesOk A K os vs gl Kg) (hg : Givens P os an vl S gl Kg)
  (k : ∀ u a w, S (Dall vl) u w → Knows A (K' u) a → wpList P os.toArray Q (os.drop t) a w) : ∀ a w, Knows A K a → Sat B I nx L X w → wpAny P .any os.toArray Q os.toArray.size (Array.replicate os.toArray.size false) a { w with drawn := w.drawn + 1 } := by
 obtain ⟨e, h1, h2⟩ := vsOf_eq hv
 subst e
 exact Sat.drawnAny t os an vl gl R Lq locs han hok hlt h1 he S hS h0 Ks hf hl Kg hfg hg K' h2 k
/-- A map's own mark. -/
def mapImm (g : Nat) (v : Value) : Imm := fun a => if a = ⟨g, 0, some 0⟩ then some v else none
def Mp {α β : Type} (kE : α → Value) (vE : β → Value) (I : Imm) (g : Nat) (l : List (α × β)) : Prop := I ⟨g, 0, some 0⟩ = some (codeM (ents kE vE 0 l).toArray)
theorem codeM_inj {a b : Array MapEntry} (h : codeM a = codeM b) : a = b := by
 unfold codeM at h
 injection h with h
 have h1 := congrArg Array.toList h
 simp only [List.cons.injEq, Value.agg.injEq, and_true] at h1
 obtain ⟨h1, h2, h3⟩ := h1
 have hs : a.size = b.size := by have := congrArg Array.size h1; simpa using this
 apply Array.ext hs
 intro i hi hj
 have g1 := congrArg (·[i]?) h1
 have g2 := congrArg (·[i]?) h2
 have g3 := congrArg (·[i]?) h3
 simp only [Array.getElem?_map, Array.getElem?_eq_getElem hi, Array.getElem?_eq_getElem hj, Option.map_some, Option.some.injEq, Value.int.injEq, true_and, Int.ofNat_inj] at g1 g2 g3
 cases ha : a[i]
 cases hb : b[i]
 rw [ha, hb] at g1 g2 g3
 simp only at g1 g2 g3
 rw [g1, g2, g3]
section
variable {T Kt Et : TypeId} {α β : Type} [DecidableEq α] {kE : α → Value} {vE : β → Value} {z : β}
omit [DecidableEq α] in
theorem Mp.ext {I J : Imm} {g : Nat} {l : List (α × β)} (h : I.le J) (hm : Mp kE vE I g l) : Mp kE vE J g l := h _ _ hm
theorem run_lookF (hM : MT P T Kt Et kE vE z) {I : Imm} {g : Nat} {l : List (α × β)} (hm : Mp kE vE I g l) {w : World} (hI : I.at_ w) (a : α) (ok : Bool) :
  (Instr.lookup T (.map (some g)) (kE a) ok).run P w = .ok (if ok = true then .tuple #[vE ((mget l a).getD z), .bool (mget l a).isSome] else vE ((mget l a).getD z)) w := by
 have h := hI _ _ hm
 simp only [look] at h
 split at h
 ·rename_i es c hg
  have he := codeM_inj (Option.some.inj h)
  subst he
  exact hM.lookup (q := 0) (by simp) hg a ok
 ·cases h
variable {Q : Exit → Act → World → Prop} {A : Fr} {K : List (Nat × Value)} {B : Base} {I : Imm} {nx : Nat} {L : List Blk} {X : List Res} {os : List Oper} {p : Nat}
theorem RL.lookF (hM : MT P T Kt Et kE vE z) (a : α) {g : Nat} {l : List (α × β)} (d : Option Tmp) (hl : ready os p K d = true) (hm : Mp kE vE I g l)
  (hx : execOp (evalK K) (os.getD p default) = toNext (Instr.lookup T (.map (some g)) (kE a) true)) {K' : List (Nat × Value)}
  (hF : putK A K d (.tuple #[vE ((mget l a).getD z), .bool (mget l a).isSome]) = K') (k : RL P os Q (p + 1) A K' B I nx L X) : RL P os Q p A K B I nx L X :=
 RL.quiet d _ hl hF (fun w hs => by rw [hx]; exact run_toNext (run_lookF hM hm hs.im a true)) k
theorem giv_look (hM : MT P T Kt Et kE vE z) (a : α) {g : Nat} {l : List (α × β)} (hm : Mp kE vE I g l) {w : World} (hI : I.at_ w)
  (hx : execOp (evalK K) (os.getD p default) = toNext (Instr.lookup T (.map (some g)) (kE a) true)) : (execOp (evalK K) (os.getD p default)).run P w = .ok (.value (.tuple #[vE ((mget l a).getD z), .bool (mget l a).isSome])) w := by
 rw [hx]; exact run_toNext (run_lookF hM hm hI a true)
theorem Givens.consS {an : List Nat} {vl : List (Nat × (Wt → Value))} {S : (Nat → Bool) → (Nat → Wt) → World → Prop} {i : Nat} {f : (Nat → Wt) → Value} {r : List (Nat × ((Nat → Wt) → Value))} {Kl : (Nat → Wt) → List (Nat × Value)} {Ks : List ((Nat → Wt) → List (Nat × Value))}
  (h : ∀ D u w, (∀ j, behind an i j = true → (lk vl j).isSome = true → D j = true) → S D u w → (execOp (evalK (Kl u)) (os.getD i default)).run P w = .ok (.value (f u)) w)
  (h2 : ∀ u u', (∀ j, behind an i j = true → (lk vl j).isSome = true → u j = u' j) → f u = f u') (h3 : Givens P os an vl S r Ks) : Givens P os an vl S ((i, f) :: r) (Kl :: Ks) := ⟨h, h2, h3⟩
end
end Go.Proofs.YtijhdekfbjafgaaGreat.RW
