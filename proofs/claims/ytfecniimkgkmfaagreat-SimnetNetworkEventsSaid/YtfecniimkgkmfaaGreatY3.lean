/- Words of the walk, the functions' walks and plain laws, joined; no conditions beyond those that the theorems name. -/
import Derived.Test.YtfecniimkgkmfaaGreatY2
import Derived.LoopN
import Derived.ChangeArms
import Derived.DataReads
import Derived.OpenShut
namespace Go.Proofs.YtfecniimkgkmfaaGreat.AM
open Go Go.RowKit Go.Proofs.YtfecniimkgkmfaaGreat.RW

section
variable {ρ : Type} {P : Program} {B : Base} {π : Pi} {w : World} {m : AMem}

def Sg.le (s s' : Sg) : Prop := ∀ i o, lk s.b i = some o → lk s'.b i = some o
theorem Sg.le_refl (s : Sg) : s.le s := fun _ _ h => h
theorem Sg.le_trans {a b c : Sg} (h : a.le b) (k : b.le c) : a.le c := fun i o e => k i o (h i o e)
def Sg.inj (s : Sg) : Prop := ∀ i j o, lk s.b i = some o → lk s.b j = some o → i = j
/-- Where the pattern's pieces lie. -/
def Ag (s : Sg) (π π' : Pi) : Prop := ∀ i o, lk s.b i = some o → ∀ p, π o = some p → π' i = some p
theorem Ag.mono {s s' : Sg} {π π' : Pi} (h : s.le s') (k : Ag s' π π') : Ag s π π' := fun i o e => k i o (h i o e)
def wk (π π' : Pi) (J : Imm) (a a' : AC) : Prop := ∀ J', J.le J' → ∀ y, relC π J' a y → relC π' J' a' y
theorem wk.mono {π π' : Pi} {J J' : Imm} {a a' : AC} (h : J.le J') (k : wk π π' J a a') : wk π π' J' a a' := fun J2 h2 y hy => k J2 (Imm.le_trans h h2) y hy

theorem any_snd {l : List (Nat × Nat)} {o : Nat} (h : l.any (fun p => Nat.beq p.2 o) = false) : ∀ i, lk l i ≠ some o := by
 induction l with
 | nil => intro i h; cases h
 | cons p l ih =>
  obtain ⟨j, q⟩ := p
  rw [List.any_cons, Bool.or_eq_false_iff] at h
  intro i hi
  rw [lk_cons] at hi
  split at hi
  ·injection hi with hi
   subst hi
   rw [Nat.beq_refl] at h
   cases h.1
  ·exact ih h.2 i hi
theorem Sg.bind_ok {s s' : Sg} {i o : Nat} (h : s.bind i o = some s') (hi : s.inj) : s.le s' ∧ s'.inj ∧ s'.fz = s.fz ∧ lk s'.b i = some o := by
 unfold Sg.bind at h
 split at h
 ·rename_i o' ho
  cases hb : Nat.beq o o' with
  | false => rw [hb] at h; cases h
  | true =>
   rw [hb] at h
   injection h with h
   subst h
   have := Nat.eq_of_beq_eq_true hb
   subst this
   exact ⟨Sg.le_refl _, hi, rfl, ho⟩
 ·rename_i hn
  cases hb : s.b.any (fun p => Nat.beq p.2 o) with
  | true => rw [hb] at h; cases h
  | false =>
   rw [hb] at h
   injection h with h
   subst h
   have hno := any_snd hb
   refine ⟨fun j q hj => ?_, fun j k q hj hk => ?_, rfl, by rw [lk_cons, if_pos rfl]⟩
   ·rw [lk_cons]
    by_cases e : i = j
    ·rw [← e, hn] at hj; cases hj
    ·rw [if_neg e]; exact hj
   ·rw [lk_cons] at hj hk
    split at hj
    ·rename_i e1
     injection hj with hj
     split at hk
     ·rename_i e2; exact e1.symm.trans e2
     ·subst hj; exact absurd hk (hno k)
    ·split at hk
     ·injection hk with hk
      subst hk; exact absurd hj (hno j)
     ·exact hi j k q hj hk
theorem Sg.binds_ok : ∀ {l r : List (Nat × Nat)} {s s' : Sg}, Sg.binds l r s = some s' → s.inj → s.le s' ∧ s'.inj ∧ s'.fz = s.fz ∧ ∀ (π π' : Pi), Ag s' π π' → ∀ ys, rl (relP π) r ys → rl (relP π') l ys
 | [], [], s, s', h, hi => by
  injection h with h
  subst h
  exact ⟨Sg.le_refl _, hi, rfl, fun _ _ _ ys hy => by cases ys with | nil => trivial | cons _ _ => exact hy.elim⟩
 | (i, j) :: l, (o, q) :: r, s, s', h, hi => by
  simp only [Sg.binds] at h
  cases hb : Nat.beq j q with
  | false => rw [hb] at h; cases h
  | true =>
   rw [hb] at h
   have hb := Nat.eq_of_beq_eq_true hb
   subst hb
   simp only [cond_true] at h
   split at h
   ·rename_i s1 h1
    obtain ⟨a1, a2, a3, a4⟩ := Sg.bind_ok h1 hi
    obtain ⟨b1, b2, b3, b4⟩ := Sg.binds_ok h a2
    refine ⟨Sg.le_trans a1 b1, b2, b3.trans a3, fun π π' hA ys hy => ?_⟩
    cases ys with
    | nil => exact hy.elim
    | cons y ys =>
     obtain ⟨⟨p, g, h5, h6, h7⟩, hy2⟩ := hy
     exact ⟨⟨p, g, hA i o (b1 i o a4) p h5, h6, h7⟩, b4 π π' hA ys hy2⟩
   ·cases h
 | [], _ :: _, _, _, h, _ => by cases h
 | _ :: _, [], _, _, h, _ => by cases h

def Tt (s : Sg) (τ : Nat → Nat) : Prop := ∀ i o, lk s.b i = some o → τ i = o
theorem Tt.mono {s s' : Sg} {τ : Nat → Nat} (h : s.le s') (k : Tt s' τ) : Tt s τ := fun i o e => k i o (h i o e)
theorem ofC_can {c : TC} {a : AC} {x : c.I} (h : c.ofC a = some x) (hc : canD a = true) : c.one x = a := by
 unfold TC.ofC at h
 split at h
 ·split at h
  ·rename_i e
   subst e
   injection h with h
   subst h
   rfl
  ·cases h
 ·injection h with h
  subst h
  rfl
 ·injection h with h
  subst h
  rfl
 ·rename_i f c' l
  cases f with
  | true => cases hc
  | false =>
   obtain ⟨ec, h2⟩ := TC.castL_eq h
   subst ec; subst h2
   rfl
 ·cases hc
 ·cases h
theorem ofCs_can : ∀ {c : TC} {l : List AC} {x : c.I} {r : List AC}, c.ofCs l = some (x, r) → l.all canD = true → c.cells x ++ r = l := by
 intro c
 induction c with
 | unit =>
  intro l x r h hc
  unfold TC.ofCs at h
  injection h with h
  injection h with h1 h2
  subst h2
  rfl
 | pair a b iha ihb =>
  intro l x r h hc
  unfold TC.ofCs at h
  split at h
  ·cases h
  ·rename_i x1 r1 h1
   split at h
   ·cases h
   ·rename_i y r2 h2
    injection h with h
    injection h with h3 h4
    subst h3; subst h4
    have e1 := iha h1 hc
    have hc2 : r1.all canD = true := by
     rw [← e1, List.all_append, Bool.and_eq_true] at hc
     exact hc.2
    have e2 := ihb h2 hc2
    show (a.cells x1 ++ b.cells y) ++ r2 = l
    rw [List.append_assoc, e2, e1]
 | int k =>
  intro l x r h hc
  cases l with
  | nil => simp [TC.ofCs] at h
  | cons a l =>
   simp only [TC.ofCs] at h
   split at h
   ·rename_i x' hx
    injection h with h
    injection h with h1 h2
    subst h1; subst h2
    rw [List.all_cons, Bool.and_eq_true] at hc
    have := ofC_can hx hc.1
    show [TC.one (.int k) x'] ++ l = _
    rw [this]; rfl
   ·cases h
 | bool =>
  intro l x r h hc
  cases l with
  | nil => simp [TC.ofCs] at h
  | cons a l =>
   simp only [TC.ofCs] at h
   split at h
   ·rename_i x' hx
    injection h with h
    injection h with h1 h2
    subst h1; subst h2
    rw [List.all_cons, Bool.and_eq_true] at hc
    have := ofC_can hx hc.1
    show [TC.one .bool x'] ++ l = _
    rw [this]; rfl
   ·cases h
 | str =>
  intro l x r h hc
  cases l with
  | nil => simp [TC.ofCs] at h
  | cons a l =>
   simp only [TC.ofCs] at h
   split at h
   ·rename_i x' hx
    injection h with h
    injection h with h1 h2
    subst h1; subst h2
    rw [List.all_cons, Bool.and_eq_true] at hc
    have := ofC_can hx hc.1
    show [TC.one .str x'] ++ l = _
    rw [this]; rfl
   ·cases h
 | row c _ =>
  intro l x r h hc
  cases l with
  | nil => simp [TC.ofCs] at h
  | cons a l =>
   simp only [TC.ofCs] at h
   split at h
   ·rename_i x' hx
    injection h with h
    injection h with h1 h2
    subst h1; subst h2
    rw [List.all_cons, Bool.and_eq_true] at hc
    have := ofC_can hx hc.1
    show [TC.one (.row c) x'] ++ l = _
    rw [this]; rfl
   ·cases h
theorem fzCs_can : ∀ {l : List AC} {s : Sg} {k : List AC → Sg → Tr ρ}, l.all canD = true → fzCs l s k = k l s
 | [], s, k, _ => rfl
 | a :: l, s, k, h => by
  rw [List.all_cons, Bool.and_eq_true] at h
  cases a with
  | sl o => cases h.1
  | _ => simp only [fzCs]; rw [fzCs_can h.2]
theorem ofC_wk {c : TC} {a : AC} {x : c.I} (h : c.ofC a = some x) (π π' : Pi) (J : Imm) : wk π π' J a (c.one x) := by
 intro J' _ y hy
 unfold TC.ofC at h
 split at h
 ·split at h
  ·rename_i e
   subst e
   injection h with h
   subst h
   exact hy
  ·cases h
 ·injection h with h
  subst h
  exact hy
 ·injection h with h
  subst h
  exact hy
 ·obtain ⟨e, h⟩ := TC.castL_eq h
  subst e; subst h
  obtain ⟨A, cp, h1, h2, _, h3⟩ := hy
  exact ⟨A, cp, h1, h2, (fun e => by cases e), h3⟩
 ·injection h with h
  subst h
  obtain ⟨rfl, _⟩ := hy
  exact ⟨none, 0, rfl, Nat.le_refl _, (fun e => by cases e), Rd.nil _ _ _⟩
 ·cases h

/-- What reading off a piece of a pattern leaves. -/
structure Rdn (B : Base) (π : Pi) (w : World) (m : AMem) (I : Imm) (s : Sg) (J : Imm) (s' : Sg) : Prop where
 le : I.le J
 sa : SA B J π (lk (s'.fz ++ m)) w
 fz : FzOk s'.fz m
 sl : s.le s'
 inj : s'.inj
 fl : ∀ o, lk s'.fz o = none → lk s.fz o = none
theorem Rdn.refl {I : Imm} {s : Sg} (h : SA B I π (lk (s.fz ++ m)) w) (hf : FzOk s.fz m) (hi : s.inj) : Rdn B π w m I s I s := ⟨Imm.le_refl _, h, hf, Sg.le_refl _, hi, fun _ h => h⟩
theorem Rdn.trans {I J K : Imm} {s s' s'' : Sg} (h : Rdn B π w m I s J s') (k : Rdn B π w m J s' K s'') : Rdn B π w m I s K s'' := ⟨Imm.le_trans h.le k.le, k.sa, k.fz, Sg.le_trans h.sl k.sl, k.inj, fun o ho => h.fl o (k.fl o ho)⟩

theorem rd_any {π' : Pi} {I J : Imm} {f : Bool} {c : TC} {l : List c.I} {y : Value} (hI : I.le J) (h : relC π I (.rd f c l) y) : relC π' J (.rd f c l) y := by
 obtain ⟨A, cp, h1, h2, h3, h4⟩ := h
 exact ⟨A, cp, h1, h2, h3, h4.ext hI⟩
/-- A row of the call's own, read off as data: it never turns from now on. -/
theorem frz_read {o : Nat} {s : Sg} {I : Imm} (h : SA B I π (lk (s.fz ++ m)) w) (hf : FzOk s.fz m) (hi : s.inj) {e : TypeId} {c : TC} {l : List c.I} (ho : lk m o = some (.row e c l)) :
  ∃ J, Rdn B π w m I s J ⟨s.b, (o, .frz c l) :: s.fz⟩ ∧ ∀ π', wk π π' J (.sl o) (.rd false c l) := by
 obtain ⟨J, hJ, hs, hf'⟩ := freeze1 h hf ho
 refine ⟨J, ⟨hJ, hs, hf', fun _ _ h => h, hi, fun x hx => ?_⟩, fun π' J' hJ' y hy => ?_⟩
 ·simp only [] at hx
  rw [lk_cons] at hx
  split at hx
  ·cases hx
  ·exact hx
 have h3 : relC π J (.rd false c l) y := rd_of_frz hs (o := o) (by rw [List.cons_append, lk_cons, if_pos rfl]) hy
 exact rd_any hJ' h3
theorem frz_there {o : Nat} {s : Sg} {I : Imm} (h : SA B I π (lk (s.fz ++ m)) w) (hf : FzOk s.fz m) {c : TC} {l : List c.I} (ho : lk m o = some (.frz c l)) (π' : Pi) : wk π π' I (.sl o) (.rd false c l) := by
 have hno : lk s.fz o = none := by
  cases hq : lk s.fz o with
  | none => rfl
  | some ob =>
   obtain ⟨e', c', l', _, h2⟩ := hf o ob hq
   rw [ho] at h2
   cases h2
 intro J' hJ' y hy
 have h3 : relC π I (.rd false c l) y := rd_of_frz h (o := o) (by rw [lk_append, hno, ho]; rfl) hy
 exact rd_any hJ' h3
theorem mPC_ok {p : PC} {a : AC} {s : Sg} {k : p.I → Sg → Tr ρ} {r : ρ} {ws : AMem} {rs : List Nat} {I : Imm} (hx : Tr.Ex m (mPC p a s k) r ws rs) (h : SA B I π (lk (s.fz ++ m)) w) (hf : FzOk s.fz m) (hi : s.inj) :
  ∃ x s' J rs', Tr.Ex m (k x s') r ws rs' ∧ Rdn B π w m I s J s' ∧ (∀ π', Ag s' π π' → wk π π' J a (p.inst id x)) ∧ (canC p a = true → ∀ τ, Tt s' τ → p.inst τ x = a) := by
 cases p with
 | h c =>
  have data : (∀ o, a ≠ .sl o) → Tr.Ex m (match c.ofC a with | some x => k x s | none => .fail) r ws rs → ∃ x s' J rs', Tr.Ex m (k x s') r ws rs' ∧ Rdn B π w m I s J s' ∧ (∀ π', Ag s' π π' → wk π π' J a (PC.inst id (.h c) x)) ∧ (canC (.h c) a = true → ∀ τ, Tt s' τ → PC.inst τ (.h c) x = a) := by
   intro _ hx
   split at hx
   ·rename_i x hc
    exact ⟨x, s, I, _, hx, .refl h hf hi, fun π' _ => ofC_wk hc π π' I, fun hcan τ _ => ofC_can hc hcan⟩
   ·cases hx
  cases a with
  | sl o =>
   cases c with
   | row c' =>
    simp only [mPC] at hx
    cases hx with
    | look hx =>
     dsimp only at hx
     split at hx
     ·rename_i e c2 l ho
      split at hx
      ·rename_i l' hl
       obtain ⟨ec, h2⟩ := TC.castL_eq hl
       subst ec; subst h2
       obtain ⟨J, h1, h2⟩ := frz_read h hf hi ho
       exact ⟨l, _, J, _, hx, h1, fun π' _ => h2 π', fun hcan => by cases hcan⟩
      ·cases hx
     ·rename_i c2 l ho
      split at hx
      ·rename_i l' hl
       obtain ⟨ec, h2⟩ := TC.castL_eq hl
       subst ec; subst h2
       exact ⟨l, s, I, _, hx, .refl h hf hi, fun π' _ => frz_there h hf ho π', fun hcan => by cases hcan⟩
      ·cases hx
     ·cases hx
   | _ => simp only [mPC] at hx; cases hx
  | _ => exact data (fun o e => by cases e) hx
 | full c =>
  simp only [mPC] at hx
  split at hx
  ·split at hx
   ·rename_i l' hl
    obtain ⟨ec, h2⟩ := TC.castL_eq hl
    subst ec; subst h2
    exact ⟨_, s, I, _, hx, .refl h hf hi, fun π' _ J' _ y hy => hy, fun _ _ _ => rfl⟩
   ·cases hx
  ·cases hx
 | sl i =>
  cases a with
  | sl o =>
   simp only [mPC] at hx
   split at hx
   ·rename_i s' hb
    obtain ⟨a1, a2, a3, a4⟩ := Sg.bind_ok hb hi
    refine ⟨(), s', I, _, hx, ⟨Imm.le_refl _, by rw [a3]; exact h, by rw [a3]; exact hf, a1, a2, fun o ho => by rw [a3] at ho; exact ho⟩, fun π' hA J' _ y hy => ?_, fun _ τ ht => by show AC.sl (τ i) = _; rw [ht i o a4]⟩
    obtain ⟨p, h1, h2⟩ := hy
    exact ⟨p, hA i o a4 p h1, h2⟩
   ·cases hx
  | _ => simp only [mPC] at hx; cases hx
 | sb i q =>
  cases a with
  | sb o q' =>
   simp only [mPC] at hx
   cases hq : Nat.beq q q' with
   | false => rw [hq] at hx; cases hx
   | true =>
    rw [hq] at hx
    have hq := Nat.eq_of_beq_eq_true hq
    subst hq
    simp only [cond_true] at hx
    split at hx
    ·rename_i s' hb
     obtain ⟨a1, a2, a3, a4⟩ := Sg.bind_ok hb hi
     refine ⟨(), s', I, _, hx, ⟨Imm.le_refl _, by rw [a3]; exact h, by rw [a3]; exact hf, a1, a2, fun o ho => by rw [a3] at ho; exact ho⟩, fun π' hA J' _ y hy => ?_, fun _ τ ht => by show AC.sb (τ i) _ = _; rw [ht i o a4]⟩
     obtain ⟨p, g, h1, h2⟩ := hy
     exact ⟨p, g, hA i o a4 p h1, h2⟩
    ·cases hx
  | _ => simp only [mPC] at hx; cases hx
 | ptr i q =>
  cases a with
  | ptr o q' =>
   simp only [mPC] at hx
   cases hq : Nat.beq q q' with
   | false => rw [hq] at hx; cases hx
   | true =>
    rw [hq] at hx
    have hq := Nat.eq_of_beq_eq_true hq
    subst hq
    simp only [cond_true] at hx
    split at hx
    ·rename_i s' hb
     obtain ⟨a1, a2, a3, a4⟩ := Sg.bind_ok hb hi
     refine ⟨(), s', I, _, hx, ⟨Imm.le_refl _, by rw [a3]; exact h, by rw [a3]; exact hf, a1, a2, fun o ho => by rw [a3] at ho; exact ho⟩, fun π' hA J' _ y hy => ?_, fun _ τ ht => by show AC.ptr (τ i) _ = _; rw [ht i o a4]⟩
     obtain ⟨p, g, h1, h2⟩ := hy
     exact ⟨p, g, hA i o a4 p h1, h2⟩
    ·cases hx
  | _ => simp only [mPC] at hx; cases hx
 | fn f l1 l2 =>
  cases a with
  | fn g r1 r2 =>
   cases g with
   | func g =>
    simp only [mPC] at hx
    cases hq : Nat.beq f g with
    | false => rw [hq] at hx; cases hx
    | true =>
     rw [hq] at hx
     have hq := Nat.eq_of_beq_eq_true hq
     subst hq
     simp only [cond_true] at hx
     split at hx
     ·rename_i s1 hb
      split at hx
      ·rename_i s2 hb2
       obtain ⟨a1, a2, a3, a4⟩ := Sg.binds_ok hb hi
       obtain ⟨b1, b2, b3, b4⟩ := Sg.binds_ok hb2 a2
       refine ⟨(), s2, I, _, hx, ⟨Imm.le_refl _, by rw [b3, a3]; exact h, by rw [b3, a3]; exact hf, Sg.le_trans a1 b1, b2, fun o ho => by rw [b3, a3] at ho; exact ho⟩, fun π' hA J' _ y hy => ?_, fun hcan => by cases hcan⟩
       obtain ⟨xs, ys, h1, h2, h3⟩ := hy
       have e0 : ∀ l : List (Nat × Nat), (l.map fun p => (id p.1, p.2)) = l := fun l => by simp
       refine ⟨xs, ys, h1, ?_, ?_⟩
       ·rw [e0]; exact a4 π π' (hA.mono b1) xs h2
       ·rw [e0]; exact b4 π π' hA ys h3
      ·cases hx
     ·cases hx
   | _ => simp only [mPC] at hx; cases hx
  | _ => simp only [mPC] at hx; cases hx
 | kn x =>
  cases a with
  | kn y =>
   simp only [mPC] at hx
   cases hq : decide (x = y) with
   | false => rw [hq] at hx; cases hx
   | true =>
    rw [hq] at hx
    have hq := of_decide_eq_true hq
    subst hq
    simp only [cond_true] at hx
    exact ⟨(), s, I, _, hx, .refl h hf hi, fun π' _ J' _ y hy => hy, fun e => by cases e⟩
  | _ => simp only [mPC] at hx; cases hx
 | nl =>
  simp only [mPC] at hx
  split at hx
  ·exact ⟨(), s, I, _, hx, .refl h hf hi, fun π' _ J' _ y hy => hy, fun _ _ _ => rfl⟩
  ·cases hx
theorem mPCs_ok : ∀ {ps : List PC} {l : List AC} {s : Sg} {k : PCsI ps → Sg → Tr ρ} {r : ρ} {ws : AMem} {rs : List Nat} {I : Imm}, Tr.Ex m (mPCs ps l s k) r ws rs → SA B I π (lk (s.fz ++ m)) w → FzOk s.fz m → s.inj →
  ∃ x s' J rs', Tr.Ex m (k x s') r ws rs' ∧ Rdn B π w m I s J s' ∧ (∀ π', Ag s' π π' → rl (wk π π' J) l (instCs id ps x)) ∧ (canCs ps l = true → ∀ τ, Tt s' τ → instCs τ ps x = l)
 | [], [], s, k, r, ws, rs, I, hx, h, hf, hi => ⟨(), s, I, rs, hx, .refl h hf hi, fun _ _ => trivial, fun _ _ _ => rfl⟩
 | p :: ps, a :: l, s, k, r, ws, rs, I, hx, h, hf, hi => by
  obtain ⟨x, s1, J1, rs1, h1, h2, h3, h4⟩ := mPC_ok (p := p) hx h hf hi
  obtain ⟨xs, s2, J2, rs2, k1, k2, k3, k4⟩ := mPCs_ok h1 h2.sa h2.fz h2.inj
  refine ⟨(x, xs), s2, J2, rs2, k1, h2.trans k2, fun π' hA => ⟨(h3 π' (hA.mono k2.sl)).mono k2.le, k3 π' hA⟩, fun hc τ ht => ?_⟩
  simp only [canCs, Bool.and_eq_true] at hc
  show p.inst τ x :: instCs τ ps xs = a :: l
  rw [h4 hc.1 τ (ht.mono k2.sl), k4 hc.2 τ ht]
 | [], _ :: _, _, _, _, _, _, _, hx, _, _, _ => by cases hx
 | _ :: _, [], _, _, _, _, _, _, hx, _, _, _ => by cases hx
theorem wk.refl_of (π' : Pi) {J : Imm} {a : AC} (h : ∀ J' y, relC π J' a y → relC π' J' a y) : wk π π' J a a := fun J' _ y hy => h J' y hy

/-- The cells' rows are frozen. -/
theorem fzCs_rdn : ∀ {l : List AC} {s : Sg} {k : List AC → Sg → Tr ρ} {r : ρ} {ws : AMem} {rs : List Nat} {I : Imm}, Tr.Ex m (fzCs l s k) r ws rs → SA B I π (lk (s.fz ++ m)) w → FzOk s.fz m → s.inj →
  ∃ l' s' J rs', Tr.Ex m (k l' s') r ws rs' ∧ Rdn B π w m I s J s' ∧ rl (wk π π J) l l' := by
 intro l
 induction l with
 | nil => intro s k r ws rs I hx h hf hi; exact ⟨[], s, I, rs, hx, .refl h hf hi, trivial⟩
 | cons a l ih =>
  intro s k r ws rs I hx h hf hi
  have plain : Tr.Ex m (fzCs l s fun az s => k (a :: az) s) r ws rs → ∃ l' s' J rs', Tr.Ex m (k l' s') r ws rs' ∧ Rdn B π w m I s J s' ∧ rl (wk π π J) (a :: l) l' := by
   intro hx2
   obtain ⟨l', s', J, rs', h1, h2, h3⟩ := ih hx2 h hf hi
   exact ⟨_, s', J, rs', h1, h2, .refl_of π (fun _ _ h => h), h3⟩
  cases a with
  | sl o =>
   simp only [fzCs] at hx
   cases hx with
   | look hx =>
    dsimp only at hx
    split at hx
    ·rename_i e c l0 ho
     obtain ⟨J, h1, h2⟩ := frz_read h hf hi ho
     obtain ⟨l', s', J', rs', k1, k2, k3⟩ := ih (s := ⟨s.b, (o, .frz c l0) :: s.fz⟩) hx h1.sa h1.fz h1.inj
     exact ⟨_, s', J', rs', k1, h1.trans k2, (h2 π).mono k2.le, k3⟩
    ·rename_i c l0 ho
     obtain ⟨l', s', J', rs', k1, k2, k3⟩ := ih hx h hf hi
     exact ⟨_, s', J', rs', k1, k2, (frz_there h hf ho π).mono k2.le, k3⟩
    ·cases hx
  | _ => exact plain hx
/-- Data told cell by cell, whatever the pieces' places. -/
theorem ofCs_wk {c : TC} {l : List AC} {x : c.I} (h : c.ofCs l = some (x, [])) (π π' : Pi) {J : Imm} {ys : List Value} (hr : rl (relC π J) l ys) : rl (relC π' J) (c.cells x) ys := by
 obtain ⟨c0, c1, rfl, hk, hn⟩ := TC.ofCs_K h hr
 cases c1 with
 | cons _ _ => exact hn.elim
 | nil =>
  rw [List.append_nil]
  exact TC.cells_rel c x c0 hk
/-- Cells that are told by fewer words. -/
def wkL (π π' : Pi) (J : Imm) (l l' : List AC) : Prop := ∀ J', J.le J' → ∀ ys, rl (relC π J') l ys → rl (relC π' J') l' ys
theorem wkL_of {π π' : Pi} {J : Imm} : ∀ {l l' : List AC}, rl (wk π π' J) l l' → wkL π π' J l l'
 | [], [], _ => fun _ _ ys h => by cases ys with | nil => trivial | cons _ _ => exact h.elim
 | a :: l, b :: l', h => fun J' hJ ys hy => by
  cases ys with
  | nil => exact hy.elim
  | cons y ys => exact ⟨h.1 J' hJ y hy.1, wkL_of h.2 J' hJ ys hy.2⟩
 | [], _ :: _, h => h.elim
 | _ :: _, [], h => h.elim
theorem mSt_ok {c : TC} {l : List AC} {s : Sg} {k : c.I → Sg → Tr ρ} {r : ρ} {ws : AMem} {rs : List Nat} {I : Imm} (hx : Tr.Ex m (mSt c l s k) r ws rs) (h : SA B I π (lk (s.fz ++ m)) w) (hf : FzOk s.fz m) (hi : s.inj) :
  ∃ x s' J rs', Tr.Ex m (k x s') r ws rs' ∧ Rdn B π w m I s J s' ∧ (∀ π', wkL π π' J l (c.cells x)) ∧ (l.all canD = true → c.cells x = l) := by
 cases hc0 : l.all canD with
 | true =>
  unfold mSt at hx
  rw [fzCs_can hc0] at hx
  split at hx
  ·rename_i x hc
   exact ⟨x, s, I, _, hx, .refl h hf hi, fun π' J' _ ys hy => ofCs_wk hc π π' hy, fun _ => by have := ofCs_can hc hc0; rwa [List.append_nil] at this⟩
  ·cases hx
 | false =>
 obtain ⟨l', s', J, rs', h1, h2, h3⟩ := fzCs_rdn hx h hf hi
 split at h1
 ·rename_i x hc
  exact ⟨x, s', J, rs', h1, h2, fun π' J' hJ ys hy => ofCs_wk hc π π' (wkL_of h3 J' hJ ys hy), fun e => by cases e⟩
 ·cases h1
def wkW (π π' : Pi) (J : Imm) (a a' : AW) : Prop := ∀ J', J.le J' → ∀ y, relW π J' a y → relW π' J' a' y
theorem wkW.mono {π π' : Pi} {J J' : Imm} {a a' : AW} (h : J.le J') (k : wkW π π' J a a') : wkW π π' J' a a' := fun J2 h2 y hy => k J2 (Imm.le_trans h h2) y hy
theorem mPW_ok {p : PW} {a : AW} {s : Sg} {k : p.I → Sg → Tr ρ} {r : ρ} {ws : AMem} {rs : List Nat} {I : Imm} (hx : Tr.Ex m (mPW p a s k) r ws rs) (h : SA B I π (lk (s.fz ++ m)) w) (hf : FzOk s.fz m) (hi : s.inj) :
  ∃ x s' J rs', Tr.Ex m (k x s') r ws rs' ∧ Rdn B π w m I s J s' ∧ ∀ π', Ag s' π π' → wkW π π' J a (p.inst id x) := by
 cases p with
 | c p =>
  cases a with
  | c a =>
   obtain ⟨x, s1, J1, rs1, h1, h2, h3, _⟩ := mPC_ok (p := p) hx h hf hi
   exact ⟨x, s1, J1, rs1, h1, h2, h3⟩
  | agg l => simp only [mPW] at hx; cases hx
 | st c =>
  cases a with
  | c a => simp only [mPW] at hx; cases hx
  | agg l =>
   obtain ⟨x, s1, J1, rs1, h1, h2, h3, _⟩ := mSt_ok (c := c) hx h hf hi
   refine ⟨x, s1, J1, rs1, h1, h2, fun π' _ J' hJ y hy => ?_⟩
   obtain ⟨ys, e1, e2⟩ := hy
   exact ⟨ys, e1, h3 π' J' hJ ys e2⟩
 | agg ps =>
  cases a with
  | c a => simp only [mPW] at hx; cases hx
  | agg l =>
   obtain ⟨x, s1, J1, rs1, h1, h2, h3, _⟩ := mPCs_ok (ps := ps) hx h hf hi
   refine ⟨x, s1, J1, rs1, h1, h2, fun π' hA J' hJ y hy => ?_⟩
   obtain ⟨ys, e1, e2⟩ := hy
   exact ⟨ys, e1, wkL_of (h3 π' hA) J' hJ ys e2⟩
theorem mPWs_ok : ∀ {ps : List PW} {l : List AW} {s : Sg} {k : PWsI ps → Sg → Tr ρ} {r : ρ} {ws : AMem} {rs : List Nat} {I : Imm}, Tr.Ex m (mPWs ps l s k) r ws rs → SA B I π (lk (s.fz ++ m)) w → FzOk s.fz m → s.inj →
  ∃ x s' J rs', Tr.Ex m (k x s') r ws rs' ∧ Rdn B π w m I s J s' ∧ ∀ π', Ag s' π π' → rl (wkW π π' J) l (instWs id ps x)
 | [], [], s, k, r, ws, rs, I, hx, h, hf, hi => ⟨(), s, I, rs, hx, .refl h hf hi, fun _ _ => trivial⟩
 | p :: ps, a :: l, s, k, r, ws, rs, I, hx, h, hf, hi => by
  obtain ⟨x, s1, J1, rs1, h1, h2, h3⟩ := mPW_ok (p := p) hx h hf hi
  obtain ⟨xs, s2, J2, rs2, k1, k2, k3⟩ := mPWs_ok h1 h2.sa h2.fz h2.inj
  exact ⟨(x, xs), s2, J2, rs2, k1, h2.trans k2, fun π' hA => ⟨(h3 π' (hA.mono k2.sl)).mono k2.le, k3 π' hA⟩⟩
 | [], _ :: _, _, _, _, _, _, _, hx, _, _, _ => by cases hx
 | _ :: _, [], _, _, _, _, _, _, hx, _, _, _ => by cases hx
theorem wkWs_of {π π' : Pi} {J : Imm} : ∀ {l l' : List AW}, rl (wkW π π' J) l l' → ∀ J', J.le J' → ∀ ys, rl (relW π J') l ys → rl (relW π' J') l' ys
 | [], [], _ => fun _ _ ys h => by cases ys with | nil => trivial | cons _ _ => exact h.elim
 | a :: l, b :: l', h => fun J' hJ ys hy => by
  cases ys with
  | nil => exact hy.elim
  | cons y ys => exact ⟨h.1 J' hJ y hy.1, wkWs_of h.2 J' hJ ys hy.2⟩
 | [], _ :: _, h => h.elim
 | _ :: _, [], h => h.elim
def wkV (π π' : Pi) (J : Imm) (a a' : AV) : Prop := ∀ J', J.le J' → ∀ y, relV π J' a y → relV π' J' a' y
theorem wkV.mono {π π' : Pi} {J J' : Imm} {a a' : AV} (h : J.le J') (k : wkV π π' J a a') : wkV π π' J' a a' := fun J2 h2 y hy => k J2 (Imm.le_trans h h2) y hy
theorem mPV_ok {p : PV} {a : AV} {s : Sg} {k : p.I → Sg → Tr ρ} {r : ρ} {ws : AMem} {rs : List Nat} {I : Imm} (hx : Tr.Ex m (mPV p a s k) r ws rs) (h : SA B I π (lk (s.fz ++ m)) w) (hf : FzOk s.fz m) (hi : s.inj) :
  ∃ x s' J rs', Tr.Ex m (k x s') r ws rs' ∧ Rdn B π w m I s J s' ∧ ∀ π', Ag s' π π' → wkV π π' J a (p.inst id x) := by
 cases p with
 | w p =>
  cases a with
  | w a =>
   obtain ⟨x, s1, J1, rs1, h1, h2, h3⟩ := mPW_ok (p := p) hx h hf hi
   exact ⟨x, s1, J1, rs1, h1, h2, h3⟩
  | tup l => simp only [mPV] at hx; cases hx
 | tup ps =>
  cases a with
  | w a => simp only [mPV] at hx; cases hx
  | tup l =>
   obtain ⟨x, s1, J1, rs1, h1, h2, h3⟩ := mPWs_ok (ps := ps) hx h hf hi
   refine ⟨x, s1, J1, rs1, h1, h2, fun π' hA J' hJ y hy => ?_⟩
   obtain ⟨ys, e1, e2⟩ := hy
   exact ⟨ys, e1, wkWs_of (h3 π' hA) J' hJ ys e2⟩
theorem mSl_ok {sl : ASl} : ∀ {ps : List (Nat × PV)} {s : Sg} {k : SlI ps → Sg → Tr ρ} {r : ρ} {ws : AMem} {rs : List Nat} {I : Imm}, Tr.Ex m (mSl ps sl s k) r ws rs → SA B I π (lk (s.fz ++ m)) w → FzOk s.fz m → s.inj →
  ∃ x s' J rs', Tr.Ex m (k x s') r ws rs' ∧ Rdn B π w m I s J s' ∧ ∀ π', Ag s' π π' → ∀ t av, lk (instSl id ps x) t = some av → ∃ av0, lk sl t = some av0 ∧ wkV π π' J av0 av
 | [], s, k, r, ws, rs, I, hx, h, hf, hi => ⟨(), s, I, rs, hx, .refl h hf hi, fun _ _ t av h => by cases h⟩
 | p :: ps, s, k, r, ws, rs, I, hx, h, hf, hi => by
  simp only [mSl] at hx
  split at hx
  ·rename_i a ha
   obtain ⟨x, s1, J1, rs1, h1, h2, h3⟩ := mPV_ok (p := p.2) hx h hf hi
   obtain ⟨xs, s2, J2, rs2, k1, k2, k3⟩ := mSl_ok (ps := ps) h1 h2.sa h2.fz h2.inj
   refine ⟨(x, xs), s2, J2, rs2, k1, h2.trans k2, fun π' hA t av ht => ?_⟩
   simp only [instSl] at ht
   rw [lk_cons] at ht
   split at ht
   ·rename_i e
    injection ht with ht
    subst ht
    exact ⟨a, by rw [← e]; exact ha, (h3 π' (hA.mono k2.sl)).mono k2.le⟩
   ·exact k3 π' hA t av ht
  ·cases hx
/-- A piece, told by fewer words, under another number. -/
def wkO (π π' : Pi) (J : Imm) (w : World) (o i : Nat) (ob ob' : AObj) : Prop := (∀ J', J.le J' → atO π J' w o (some ob) → atO π' J' w i (some ob')) ∧ ∀ k, fpO π' i (some ob') k → atO π J w o (some ob) → fpO π o (some ob) k
theorem wkO.mono {π π' : Pi} {J J' : Imm} {o i : Nat} {ob ob' : AObj} (h : J.le J') (k : wkO π π' J w o i ob ob') (hat : atO π J w o (some ob)) : wkO π π' J' w o i ob ob' :=
 ⟨fun J2 h2 => k.1 J2 (Imm.le_trans h h2), fun q hq _ => k.2 q hq hat⟩
theorem wkO_blk {π π' : Pi} {J : Imm} {o i : Nat} {ty : TypeId} {cs cs' : List AC} (hp : ∀ p, π o = some p → π' i = some p) (h : wkL π π' J cs cs') : wkO π π' J w o i (.blk ty cs) (.blk ty cs') := by
 refine ⟨fun J' hJ ⟨p, g, ys, h1, h2, h3, h4⟩ => ⟨p, g, ys, hp p h1, h2, h J' hJ ys h3, h4⟩, fun k hk hat => ?_⟩
 obtain ⟨p, g, ys, h1, h2, _⟩ := hat
 obtain ⟨p', k1, k2⟩ := hk
 rw [hp p h1] at k1
 injection k1 with k1
 subst k1
 exact ⟨p, h1, k2⟩
theorem mPO_ok {p : PO} {ob : AObj} {o i : Nat} {s : Sg} {k : p.I → Sg → Tr ρ} {r : ρ} {ws : AMem} {rs : List Nat} {I : Imm} (hx : Tr.Ex m (mPO p (some ob) s k) r ws rs) (h : SA B I π (lk (s.fz ++ m)) w) (hf : FzOk s.fz m) (hi : s.inj) :
  ∃ x s' J rs', Tr.Ex m (k x s') r ws rs' ∧ Rdn B π w m I s J s' ∧ (∀ π', Ag s' π π' → (∀ p, π o = some p → π' i = some p) → wkO π π' J w o i ob (p.inst id x)) ∧ (canO p ob = true → ∀ τ, Tt s' τ → p.inst τ x = ob) := by
 cases p with
 | blk ty ps =>
  cases ob with
  | blk ty' cs =>
   simp only [mPO] at hx
   cases hq : Nat.beq ty ty' with
   | false => rw [hq] at hx; cases hx
   | true =>
    rw [hq] at hx
    have hq := Nat.eq_of_beq_eq_true hq
    subst hq
    obtain ⟨x, s1, J1, rs1, h1, h2, h3, h4⟩ := mPCs_ok (ps := ps) hx h hf hi
    exact ⟨x, s1, J1, rs1, h1, h2, fun π' hA hp => wkO_blk hp (wkL_of (h3 π' hA)), fun hc τ ht => by show AObj.blk ty (instCs τ ps x) = _; rw [h4 hc τ ht]⟩
  | _ => simp only [mPO] at hx; cases hx
 | stb ty c =>
  cases ob with
  | blk ty' cs =>
   simp only [mPO] at hx
   cases hq : Nat.beq ty ty' with
   | false => rw [hq] at hx; cases hx
   | true =>
    rw [hq] at hx
    have hq := Nat.eq_of_beq_eq_true hq
    subst hq
    obtain ⟨x, s1, J1, rs1, h1, h2, h3, h4⟩ := mSt_ok (c := c) hx h hf hi
    exact ⟨x, s1, J1, rs1, h1, h2, fun π' hA hp => wkO_blk hp (h3 π'), fun hc τ ht => by show AObj.blk ty (c.cells x) = _; rw [h4 hc]⟩
  | _ => simp only [mPO] at hx; cases hx
 | row e c =>
  cases ob with
  | row e' c' l =>
   simp only [mPO] at hx
   cases hq : Nat.beq e e' with
   | false => rw [hq] at hx; cases hx
   | true =>
    rw [hq] at hx
    have hq := Nat.eq_of_beq_eq_true hq
    subst hq
    simp only [cond_true] at hx
    split at hx
    ·rename_i l' hl
     obtain ⟨ec, h2⟩ := TC.castL_eq hl
     subst ec; subst h2
     refine ⟨l, s, I, _, hx, .refl h hf hi, fun π' _ hp => ⟨fun J' hJ ⟨p, cs, h1, h2, h3, h4⟩ => ⟨p, cs, hp p h1, h2, h3, h4⟩, fun k hk hat => ?_⟩, fun _ _ _ => rfl⟩
     obtain ⟨p, cs, h1, _⟩ := hat
     obtain ⟨p', a, k1, k2⟩ := hk
     rw [hp p h1] at k1
     injection k1 with k1
     subst k1
     exact ⟨p, a, h1, k2⟩
    ·cases hx
  | _ => simp only [mPO] at hx; cases hx
 | frz c =>
  cases ob with
  | frz c' l =>
   simp only [mPO] at hx
   split at hx
   ·rename_i l' hl
    obtain ⟨ec, h2⟩ := TC.castL_eq hl
    subst ec; subst h2
    exact ⟨l, s, I, _, hx, .refl h hf hi, fun π' _ hp => ⟨fun J' hJ ⟨p, h1, h2⟩ => ⟨p, hp p h1, h2⟩, fun k hk _ => hk.elim⟩, fun _ _ _ => rfl⟩
   ·cases hx
  | _ => simp only [mPO] at hx; cases hx
 | gone => exact ⟨(), s, I, _, hx, .refl h hf hi, fun π' _ _ => ⟨fun _ _ _ => trivial, fun k hk _ => hk.elim⟩, fun e => by cases ob <;> cases e⟩
 | same => exact ⟨(), s, I, _, hx, .refl h hf hi, fun π' _ _ => ⟨fun _ _ _ => trivial, fun k hk _ => hk.elim⟩, fun e => by cases ob <;> cases e⟩
theorem mPO_some {p : PO} {ob : Option AObj} {s : Sg} {k : p.I → Sg → Tr ρ} {r : ρ} {ws : AMem} {rs : List Nat} (hp : p.real = true) (hx : Tr.Ex m (mPO p ob s k) r ws rs) : ∃ ob', ob = some ob' ∧ ob' ≠ .gone := by
 cases p with
 | gone => cases hp
 | same => cases hp
 | blk ty ps =>
  simp only [mPO] at hx
  split at hx
  ·exact ⟨_, rfl, fun e => by cases e⟩
  ·cases hx
 | stb ty c =>
  simp only [mPO] at hx
  split at hx
  ·exact ⟨_, rfl, fun e => by cases e⟩
  ·cases hx
 | row e c =>
  simp only [mPO] at hx
  split at hx
  ·exact ⟨_, rfl, fun e => by cases e⟩
  ·cases hx
 | frz c =>
  simp only [mPO] at hx
  split at hx
  ·exact ⟨_, rfl, fun e => by cases e⟩
  ·cases hx
/-- What a pattern's piece is read off. -/
def ObAt (π π' : Pi) (J : Imm) (w : World) (m : AMem) (s : Sg) (i : Nat) (ps : Option PO) (M : Option AObj) : Prop :=
 M = some .gone ∨ (M = none ∧ ps = some .same) ∨ ∃ (o : Nat) (ob : AObj) (po : PO) (z : po.I), lk s.b i = some o ∧ ps = some po ∧ po.real = true ∧ lk m o = some ob ∧ ob ≠ .gone ∧ M = some (po.inst id z) ∧ (lk s.fz o = none → wkO π π' J w o i ob (po.inst id z)) ∧ (canO po ob = true → ∀ τ, Tt s τ → po.inst τ z = ob)
theorem instOb_real (τ : Nat → Nat) {p : PO} {ps : List PO} {n : Nat} {x : ObI (p :: ps)} (h : p.isSame = false) : instOb τ (p :: ps) n x = (τ n, p.inst τ x.1) :: instOb τ ps (n + 1) x.2 := by
 show (bif p.isSame then _ else _) = _
 rw [h]
 rfl
theorem instOb_same (τ : Nat → Nat) {p : PO} {ps : List PO} {n : Nat} {x : ObI (p :: ps)} (h : p.isSame = true) : instOb τ (p :: ps) n x = instOb τ ps (n + 1) x.2 := by
 show (bif p.isSame then _ else _) = _
 rw [h]
 rfl
theorem instOb_lt (τ : Nat → Nat) : ∀ {ps : List PO} {n : Nat} {x : ObI ps} {o : Nat}, (∀ i, n ≤ i → i < n + ps.length → τ i ≠ o) → lk (instOb τ ps n x) o = none
 | [], _, _, _, _ => rfl
 | p :: ps, n, x, o, h => by
  have ih := instOb_lt τ (ps := ps) (n := n + 1) (x := x.2) (o := o) (fun i h1 h2 => h i (by omega) (by simp; omega))
  cases hs : p.isSame with
  | true => rw [instOb_same τ hs]; exact ih
  | false =>
   rw [instOb_real τ hs, lk_cons, if_neg (h n (Nat.le_refl _) (by simp))]
   exact ih
theorem mOb_ok : ∀ {ps : List PO} {n : Nat} {s : Sg} {k : ObI ps → Sg → Tr ρ} {r : ρ} {ws : AMem} {rs : List Nat} {I : Imm}, Tr.Ex m (mOb ps n s k) r ws rs → SA B I π (lk (s.fz ++ m)) w → FzOk s.fz m → s.inj →
  ∃ x s' J rs', Tr.Ex m (k x s') r ws rs' ∧ Rdn B π w m I s J s' ∧ ∀ π', Ag s' π π' → ∀ i, n ≤ i → i < n + ps.length → ObAt π π' J w m s' i ps[i - n]? (lk (instOb id ps n x) i)
 | [], n, s, k, r, ws, rs, I, hx, h, hf, hi => ⟨(), s, I, rs, hx, .refl h hf hi, fun _ _ i h1 h2 => by simp at h2; omega⟩
 | p :: ps, n, s, k, r, ws, rs, I, hx, h, hf, hi => by
  have key : ∀ (hp : p.real = true), Tr.Ex m (match lk s.b n with | some o => .look o fun ob => mPO p ob s fun x s => mOb ps (n + 1) s fun xs s => k (x, xs) s | none => .fail) r ws rs →
    ∃ x s' J rs', Tr.Ex m (k x s') r ws rs' ∧ Rdn B π w m I s J s' ∧ ∀ π', Ag s' π π' → ∀ i, n ≤ i → i < n + (p :: ps).length → ObAt π π' J w m s' i (p :: ps)[i - n]? (lk (instOb id (p :: ps) n x) i) := by
   intro hp hx3
   have hns : p.isSame = false := by
    unfold PO.real at hp
    rw [Bool.and_eq_true] at hp
    cases hq : p.isSame with
    | false => rfl
    | true => rw [hq] at hp; cases hp.2
   split at hx3
   ·rename_i o ho
    cases hx3 with
    | look hx4 =>
     dsimp only at hx4
     obtain ⟨ob, hob, hgone⟩ := mPO_some hp hx4
     rw [hob] at hx4
     obtain ⟨x, s1, J1, rs1, h1, h2, h3, h4⟩ := mPO_ok (o := o) (i := n) hx4 h hf hi
     obtain ⟨xs, s2, J2, rs2, k1, k2, k3⟩ := mOb_ok (ps := ps) h1 h2.sa h2.fz h2.inj
     refine ⟨(x, xs), s2, J2, rs2, k1, h2.trans k2, fun π' hA i hi1 hi2 => ?_⟩
     rw [instOb_real id hns]
     by_cases e : i = n
     ·subst e
      refine .inr (.inr ⟨o, ob, p, x, k2.sl _ _ (h2.sl _ _ ho), by simp, hp, hob, hgone, by rw [lk_cons]; exact if_pos rfl, fun hno => ?_, fun hc τ ht => h4 hc τ (ht.mono k2.sl)⟩)
      have hlk : lk (s2.fz ++ m) o = some ob := by rw [lk_append, hno, hob]; rfl
      have hat2 := k2.sa.res o
      rw [hlk] at hat2
      refine (h3 π' (hA.mono k2.sl) (fun p hp => hA i o (k2.sl _ _ (h2.sl _ _ ho)) p hp)).mono k2.le ?_
      -- at the earlier words the piece was as it is
      have hlk1 : lk (s1.fz ++ m) o = some ob := by rw [lk_append, k2.fl o hno, hob]; rfl
      have := h2.sa.res o
      rwa [hlk1] at this
     ·have := k3 π' hA i (by omega) (by simp at hi2; omega)
      rw [lk_cons, if_neg (show ¬ id n = i from fun e2 => e e2.symm), show i - n = (i - (n + 1)) + 1 by omega, List.getElem?_cons_succ]
      exact this
   ·cases hx3
  have rest : ∀ (hp : p.real = false) (hx3 : ∃ u : p.I, Tr.Ex m (mOb ps (n + 1) s fun xs s => k (u, xs) s) r ws rs),
    ∃ x s' J rs', Tr.Ex m (k x s') r ws rs' ∧ Rdn B π w m I s J s' ∧ ∀ π', Ag s' π π' → ∀ i, n ≤ i → i < n + (p :: ps).length → ObAt π π' J w m s' i (p :: ps)[i - n]? (lk (instOb id (p :: ps) n x) i) := by
   rintro hp ⟨u, hx3⟩
   obtain ⟨xs, s2, J2, rs2, k1, k2, k3⟩ := mOb_ok (ps := ps) hx3 h hf hi
   refine ⟨(u, xs), s2, J2, rs2, k1, k2, fun π' hA i hi1 hi2 => ?_⟩
   by_cases e : i = n
   ·subst e
    have hz : (p :: ps)[i - i]? = some p := by simp
    rw [hz]
    cases p with
    | gone => rw [instOb_real id (p := .gone) rfl]; exact .inl (by rw [lk_cons]; exact if_pos rfl)
    | same => rw [instOb_same id (p := .same) rfl]; exact .inr (.inl ⟨instOb_lt id (fun j h1 _ e => by simp only [id] at e; omega), rfl⟩)
    | _ => cases hp
   ·have := k3 π' hA i (by omega) (by simp at hi2; omega)
    have hne : lk (instOb id (p :: ps) n (u, xs)) i = lk (instOb id ps (n + 1) xs) i := by
     cases hs : p.isSame with
     | true => rw [instOb_same id hs]
     | false => rw [instOb_real id hs, lk_cons, if_neg (show ¬ id n = i from fun e2 => e e2.symm)]
    rw [hne, show i - n = (i - (n + 1)) + 1 by omega, List.getElem?_cons_succ]
    exact this
  cases p with
  | gone => simp only [mOb] at hx; exact rest rfl ⟨(), hx⟩
  | same => simp only [mOb] at hx; exact rest rfl ⟨(), hx⟩
  | blk ty ps' => exact key rfl hx
  | stb ty c => exact key rfl hx
  | row e c => exact key rfl hx
  | frz c => exact key rfl hx
end
end Go.Proofs.YtfecniimkgkmfaaGreat.AM
namespace Go.Proofs.YtfecniimkgkmfaaGreat.AM
open Go Go.RowKit Go.Proofs.YtfecniimkgkmfaaGreat.RW

section
variable {ρ : Type} {P : Program} {B : Base} {π : Pi} {w : World} {m : AMem}

/-! ### lists of pieces -/
theorem isSame_eq {p : PO} (h : p.isSame = true) : p = .same := by cases p with | same => rfl | _ => cases h
theorem instOb_get (τ : Nat → Nat) : ∀ (ps : List PO) (n : Nat) (x : ObI ps) (i : Nat), n ≤ i → i < n + ps.length → (∀ a b, n ≤ a → a < n + ps.length → n ≤ b → b < n + ps.length → τ a = τ b → a = b) →
  (ps[i - n]? = some .same ∧ lk (instOb τ ps n x) (τ i) = none ∧ lk (instOb id ps n x) i = none) ∨ ∃ (p : PO) (z : p.I), ps[i - n]? = some p ∧ lk (instOb τ ps n x) (τ i) = some (p.inst τ z) ∧ lk (instOb id ps n x) i = some (p.inst id z)
 | [], n, x, i, h1, h2, _ => by simp at h2; omega
 | p :: ps, n, x, i, h1, h2, hinj => by
  by_cases e : n = i
  ·subst e
   cases hs : p.isSame with
   | true =>
    refine .inl ⟨by rw [isSame_eq hs]; simp, ?_, ?_⟩
    ·rw [instOb_same τ hs]
     exact instOb_lt τ (fun j h3 h4 e => by
      have := hinj j n (by omega) (by simp; omega) (Nat.le_refl _) (by simp) e
      omega)
    ·rw [instOb_same id hs]
     exact instOb_lt id (fun j h3 h4 e => by simp only [id] at e; omega)
   | false =>
    refine .inr ⟨p, x.1, by simp, ?_, ?_⟩
    ·rw [instOb_real τ hs, lk_cons, if_pos rfl]
    ·rw [instOb_real id hs, lk_cons]; exact if_pos rfl
  ·have hsub : (p :: ps)[i - n]? = ps[i - (n + 1)]? := by rw [show i - n = (i - (n + 1)) + 1 by omega, List.getElem?_cons_succ]
   have hτ : lk (instOb τ (p :: ps) n x) (τ i) = lk (instOb τ ps (n + 1) x.2) (τ i) := by
    cases hs : p.isSame with
    | true => rw [instOb_same τ hs]
    | false => rw [instOb_real τ hs, lk_cons, if_neg (fun e2 => e (hinj n i (Nat.le_refl _) (by simp) h1 h2 e2))]
   have hid : lk (instOb id (p :: ps) n x) i = lk (instOb id ps (n + 1) x.2) i := by
    cases hs : p.isSame with
    | true => rw [instOb_same id hs]
    | false => rw [instOb_real id hs, lk_cons, if_neg (show ¬ id n = i from e)]
   rw [hsub, hτ, hid]
   exact instOb_get τ ps (n + 1) x.2 i (by omega) (by simp at h2; omega) (fun a b ha1 ha2 hb1 hb2 => hinj a b (by omega) (by simp; omega) (by omega) (by simp; omega))
theorem instOb_none (τ : Nat → Nat) (ps : List PO) (n : Nat) (x : ObI ps) (o : Nat) (h : ∀ i, n ≤ i → i < n + ps.length → τ i ≠ o) : lk (instOb τ ps n x) o = none := instOb_lt τ h
theorem instOb_id_none {ps : List PO} {x : ObI ps} {o : Nat} (h : ps.length ≤ o) : lk (instOb id ps 0 x) o = none :=
 instOb_none id ps 0 x o (fun i _ h2 e => by simp only [id] at e; omega)
theorem real_at {ps : List PO} (h : ps.all PO.real = true) {i : Nat} {p : PO} (hi : ps[i]? = some p) : p.real = true := by
 rw [List.all_eq_true] at h
 exact h p (List.mem_of_getElem? hi)
theorem instOb_id_some {ps : List PO} {x : ObI ps} {i : Nat} (hr : ps.all PO.real = true) (h : i < ps.length) : ∃ (p : PO) (z : p.I), ps[i]? = some p ∧ lk (instOb id ps 0 x) i = some (p.inst id z) := by
 rcases instOb_get id ps 0 x i (Nat.zero_le _) (by omega) (fun a b _ _ _ _ e => e) with ⟨h1, _⟩ | ⟨p, z, h0, h1, _⟩
 ·cases real_at hr h1
 ·exact ⟨p, z, h0, h1⟩
theorem pick_lt (τ : Nat → Nat) {nc : List Nat} : ∀ {ps : List PO} {n : Nat} {x : ObI ps} {o : Nat}, (∀ i, n ≤ i → i < n + ps.length → τ i ≠ o) → lk (instPick τ nc ps n x) o = none
 | [], _, _, _, _ => rfl
 | p :: ps, n, x, o, h => by
  have ih := pick_lt τ (nc := nc) (ps := ps) (n := n + 1) (x := x.2) (o := o) (fun i h1 h2 => h i (by omega) (by simp; omega))
  show lk (bif nc.any (Nat.beq n) then _ else _) o = none
  cases nc.any (Nat.beq n) with
  | false => exact ih
  | true =>
   show lk (_ :: _) o = none
   rw [lk_cons, if_neg (h n (Nat.le_refl _) (by simp))]
   exact ih
theorem pick_get (τ : Nat → Nat) {nc : List Nat} : ∀ (ps : List PO) (n : Nat) (x : ObI ps) (i : Nat), ps.all PO.real = true → n ≤ i → i < n + ps.length → (∀ a b, n ≤ a → a < n + ps.length → n ≤ b → b < n + ps.length → τ a = τ b → a = b) →
  lk (instPick τ nc ps n x) (τ i) = if nc.any (Nat.beq i) = true then lk (instOb τ ps n x) (τ i) else none
 | [], n, x, i, _, h1, h2, _ => by simp at h2; omega
 | p :: ps, n, x, i, hr, h1, h2, hinj => by
  rw [List.all_cons, Bool.and_eq_true] at hr
  have hs : p.isSame = false := by
   have := hr.1
   unfold PO.real at this
   cases hq : p.isSame with
   | false => rfl
   | true => rw [hq, Bool.and_eq_true] at this; cases this.2
  rw [instOb_real τ hs]
  by_cases e : n = i
  ·subst e
   have hno : lk (instPick τ nc ps (n + 1) x.2) (τ n) = none := pick_lt τ (fun j h3 h4 e => by
    have := hinj j n (by omega) (by simp; omega) (Nat.le_refl _) (by simp) e
    omega)
   rw [lk_cons, if_pos rfl]
   show lk (bif nc.any (Nat.beq n) then _ else _) (τ n) = _
   cases hq : nc.any (Nat.beq n) with
   | false => rw [if_neg (by simp)]; exact hno
   | true =>
    rw [if_pos rfl]
    show lk (_ :: _) (τ n) = _
    rw [lk_cons, if_pos rfl]
  ·have hne : ¬ τ n = τ i := fun e2 => e (hinj n i (Nat.le_refl _) (by simp) h1 h2 e2)
   rw [lk_cons, if_neg hne]
   have ih := pick_get τ (nc := nc) ps (n + 1) x.2 i hr.2 (by omega) (by simp at h2; omega) (fun a b ha1 ha2 hb1 hb2 => hinj a b (by omega) (by simp; omega) (by omega) (by simp; omega))
   rw [← ih]
   show lk (bif nc.any (Nat.beq n) then _ else _) (τ i) = _
   cases nc.any (Nat.beq n) with
   | false => rfl
   | true =>
    show lk (_ :: _) (τ i) = _
    rw [lk_cons, if_neg hne]
theorem real_ng {p : PO} (h : p.real = true) (τ : Nat → Nat) (z : p.I) : p.inst τ z ≠ .gone := by
 cases p with
 | gone => cases h
 | same => cases h
 | _ => intro e; cases e

theorem rl.app_inv {α β : Type} {R : α → β → Prop} : ∀ {l l' : List α} {r : List β}, rl R (l ++ l') r → ∃ r1 r2, r = r1 ++ r2 ∧ rl R l r1 ∧ rl R l' r2
 | [], _, r, h => ⟨[], r, rfl, trivial, h⟩
 | _ :: l, l', y :: r, h => by
  obtain ⟨r1, r2, h1, h2, h3⟩ := rl.app_inv h.2
  exact ⟨y :: r1, r2, by rw [h1]; rfl, ⟨h.1, h2⟩, h3⟩
 | _ :: _, _, [], h => h.elim
theorem rl.single {α β : Type} {R S : α → β → Prop} {a : α} {ys : List β} (h : rl R [a] ys) (k : ∀ y, R a y → S a y) : rl S [a] ys := by
 cases ys with
 | nil => exact h.elim
 | cons y ys =>
  cases ys with
  | nil => exact ⟨k y h.1, trivial⟩
  | cons _ _ => exact h.2.elim
/-- What is told of data doesn't hang on where pieces lie. -/
theorem cells_any (π2 π3 : Pi) {J : Imm} : ∀ {c : TC} {x : c.I} {ys : List Value}, rl (relC π2 J) (c.cells x) ys → rl (relC π3 J) (c.cells x) ys := by
 intro c
 induction c with
 | int k => intro x ys h; exact rl.single h (fun y h => h)
 | bool => intro x ys h; exact rl.single h (fun y h => h)
 | str => intro x ys h; exact rl.single h (fun y h => h)
 | unit => intro x ys h; cases ys with | nil => trivial | cons _ _ => exact h.elim
 | row c _ => intro x ys h; exact rl.single h (fun y h => h)
 | pair a b iha ihb =>
  intro x ys h
  obtain ⟨r1, r2, rfl, h1, h2⟩ := rl.app_inv h
  exact (iha h1).app (ihb h2)

/-! ### other numbers -/
/-- Where the pieces of the one lie by the numbers of the other. -/
def Ren (τ : Nat → Nat) (π2 π3 : Pi) : Prop := ∀ i p, π2 i = some p → π3 (τ i) = some p
section
variable {π2 π3 : Pi} {τ : Nat → Nat}
theorem ren_P (hR : Ren τ π2 π3) : ∀ {l : List (Nat × Nat)} {ys : List Value}, rl (relP π2) (l.map fun p => (id p.1, p.2)) ys → rl (relP π3) (l.map fun p => (τ p.1, p.2)) ys
 | [], [], _ => trivial
 | q :: l, y :: ys, h => by
  obtain ⟨⟨p, g, h1, h2, h3⟩, h4⟩ := h
  exact ⟨⟨p, g, hR _ _ h1, h2, h3⟩, ren_P hR h4⟩
 | [], _ :: _, h => h.elim
 | _ :: _, [], h => h.elim
theorem one_any (π2 π3 : Pi) {J : Imm} {c : TC} {x : c.I} {y : Value} (h : relC π2 J (c.one x) y) : relC π3 J (c.one x) y := by
 cases c <;> exact h
theorem ren_C (hR : Ren τ π2 π3) {J : Imm} {p : PC} {x : p.I} {y : Value} (h : relC π2 J (p.inst id x) y) : relC π3 J (p.inst τ x) y := by
 cases p with
 | h c => exact one_any π2 π3 (c := c) h
 | full c => exact h
 | sl i => obtain ⟨p, h1, h2⟩ := h; exact ⟨p, hR _ _ h1, h2⟩
 | sb i n => obtain ⟨p, g, h1, h2⟩ := h; exact ⟨p, g, hR _ _ h1, h2⟩
 | ptr i q => obtain ⟨p, g, h1, h2⟩ := h; exact ⟨p, g, hR _ _ h1, h2⟩
 | fn f a b => obtain ⟨xs, ys, h1, h2, h3⟩ := h; exact ⟨xs, ys, h1, ren_P hR h2, ren_P hR h3⟩
 | kn x => exact h
 | nl => exact h
theorem ren_Cs (hR : Ren τ π2 π3) {J : Imm} : ∀ {ps : List PC} {x : PCsI ps} {ys : List Value}, rl (relC π2 J) (instCs id ps x) ys → rl (relC π3 J) (instCs τ ps x) ys
 | [], _, [], _ => trivial
 | p :: _, _, _ :: _, h => ⟨ren_C hR (p := p) h.1, ren_Cs hR h.2⟩
 | [], _, _ :: _, h => h.elim
 | _ :: _, _, [], h => h.elim
theorem ren_W (hR : Ren τ π2 π3) {J : Imm} {p : PW} {x : p.I} {y : Value} (h : relW π2 J (p.inst id x) y) : relW π3 J (p.inst τ x) y := by
 cases p with
 | c p => exact ren_C hR (p := p) h
 | st c => obtain ⟨ys, h1, h2⟩ := h; exact ⟨ys, h1, cells_any π2 π3 h2⟩
 | agg l => obtain ⟨ys, h1, h2⟩ := h; exact ⟨ys, h1, ren_Cs hR h2⟩
theorem ren_Ws (hR : Ren τ π2 π3) {J : Imm} : ∀ {ps : List PW} {x : PWsI ps} {ys : List Value}, rl (relW π2 J) (instWs id ps x) ys → rl (relW π3 J) (instWs τ ps x) ys
 | [], _, [], _ => trivial
 | p :: _, _, _ :: _, h => ⟨ren_W hR (p := p) h.1, ren_Ws hR h.2⟩
 | [], _, _ :: _, h => h.elim
 | _ :: _, _, [], h => h.elim
theorem ren_V (hR : Ren τ π2 π3) {J : Imm} {p : PV} {x : p.I} {y : Value} (h : relV π2 J (p.inst id x) y) : relV π3 J (p.inst τ x) y := by
 cases p with
 | w p => exact ren_W hR (p := p) h
 | tup l => obtain ⟨ys, h1, h2⟩ := h; exact ⟨ys, h1, ren_Ws hR h2⟩
theorem ren_Sl (hR : Ren τ π2 π3) {J : Imm} : ∀ {ps : List (Nat × PV)} {x : SlI ps} {t : Nat} {av : AV}, lk (instSl τ ps x) t = some av → ∃ av', lk (instSl id ps x) t = some av' ∧ ∀ y, relV π2 J av' y → relV π3 J av y
 | [], _, _, _, h => by cases h
 | p :: ps, x, t, av, h => by
  simp only [instSl] at h ⊢
  rw [lk_cons] at h
  split at h
  ·rename_i e
   injection h with h
   subst h
   exact ⟨_, by rw [lk_cons, if_pos e], fun y hy => ren_V hR (p := p.2) hy⟩
  ·rename_i e
   obtain ⟨av', h1, h2⟩ := ren_Sl hR h
   exact ⟨av', by rw [lk_cons, if_neg e]; exact h1, h2⟩
theorem ren_O (hR : Ren τ π2 π3) {J : Imm} {w : World} {i : Nat} {p : PO} {x : p.I} (h : atO π2 J w i (some (p.inst id x))) : atO π3 J w (τ i) (some (p.inst τ x)) ∧ ∀ k, fpO π3 (τ i) (some (p.inst τ x)) k → fpO π2 i (some (p.inst id x)) k := by
 cases p with
 | blk ty cs =>
  obtain ⟨p, g, ys, h1, h2, h3, h4⟩ := h
  refine ⟨⟨p, g, ys, hR _ _ h1, h2, ren_Cs hR h3, h4⟩, fun k ⟨p', k1, k2⟩ => ?_⟩
  rw [hR _ _ h1] at k1
  injection k1 with k1
  subst k1
  exact ⟨p, h1, k2⟩
 | stb ty c =>
  obtain ⟨p, g, ys, h1, h2, h3, h4⟩ := h
  refine ⟨⟨p, g, ys, hR _ _ h1, h2, cells_any π2 π3 h3, h4⟩, fun k ⟨p', k1, k2⟩ => ?_⟩
  rw [hR _ _ h1] at k1
  injection k1 with k1
  subst k1
  exact ⟨p, h1, k2⟩
 | row e c =>
  obtain ⟨p, cs, h1, h2⟩ := h
  refine ⟨⟨p, cs, hR _ _ h1, h2⟩, fun k ⟨p', a, k1, k2⟩ => ?_⟩
  rw [hR _ _ h1] at k1
  injection k1 with k1
  subst k1
  exact ⟨p, a, h1, k2⟩
 | frz c =>
  obtain ⟨p, h1, h2⟩ := h
  exact ⟨⟨p, hR _ _ h1, h2⟩, fun k hk => hk.elim⟩
 | gone => exact ⟨trivial, fun k hk => hk.elim⟩
 | same => exact ⟨trivial, fun k hk => hk.elim⟩
end

/-! ### a pattern, read off a state -/
def view (s : Sg) (n : Nat) (π : Pi) : Pi := fun i => if i < n then (lk s.b i).bind π else none
/-- The state as the pattern tells it. -/
structure Viewed (B : Base) (π : Pi) (w : World) (m : AMem) (I : Imm) (s0 : Sg) (p : Pat) (sl : ASl) (x : p.I) (s : Sg) (J : Imm) : Prop where
 le : I.le J
 sa : SA B J π (lk (s.fz ++ m)) w
 fz : FzOk s.fz m
 s0 : s0.le s
 inj : s.inj
 lt : ∀ i o, lk s.b i = some o → i < p.ob.length ∧ lk s.fz o = none
 slot : ∀ t av, lk (instSl id p.sl x.1) t = some av → ∃ av0, lk sl t = some av0 ∧ wkV π (view s p.ob.length π) J av0 av
 ob : ∀ i, i < p.ob.length → ObAt π (view s p.ob.length π) J w m s i p.ob[i]? (lk (instOb id p.ob 0 x.2) i)
theorem lk_mem' {l : List (Nat × Nat)} {i o : Nat} (h : lk l i = some o) : (i, o) ∈ l := by
 induction l with
 | nil => cases h
 | cons p l ih =>
  obtain ⟨j, q⟩ := p
  rw [lk_cons] at h
  split at h
  ·rename_i e
   injection h with h
   rw [← e, ← h]
   exact List.mem_cons_self
  ·exact List.mem_cons_of_mem _ (ih h)
theorem Sg.ok_spec {s : Sg} {n : Nat} (h : s.ok n = true) {i o : Nat} (hb : lk s.b i = some o) : i < n ∧ lk s.fz o = none := by
 unfold Sg.ok at h
 rw [Bool.and_eq_true, List.all_eq_true, List.all_eq_true] at h
 have hm := lk_mem' hb
 refine ⟨Nat.le_of_ble_eq_true (h.1 _ hm), any_beq ?_⟩
 rw [List.any_eq_false]
 intro q hq
 have h2 := h.2 q hq
 simp only [Bool.not_eq_true', List.any_eq_false] at h2
 intro e
 have e := Nat.eq_of_beq_eq_true e
 have := h2 _ hm
 simp only [e, Nat.beq_refl] at this
 exact this trivial
theorem pat_ok {p : Pat} {sl : ASl} {s0 : Sg} {k : p.I → Sg → Tr ρ} {r : ρ} {ws : AMem} {rs : List Nat} {I : Imm} (hx : Tr.Ex m (p.m sl s0 k) r ws rs) (h : SA B I π (lk m) w) (hf : s0.fz = []) (hi : s0.inj) :
  ∃ x s J rs', Tr.Ex m (k x s) r ws rs' ∧ Viewed B π w m I s0 p sl x s J := by
 unfold Pat.m at hx
 obtain ⟨x1, s1, J1, rs1, h1, h2, h3⟩ := mSl_ok hx (by rw [hf]; exact h) (by rw [hf]; exact FzOk.nil m) hi
 obtain ⟨x2, s2, J2, rs2, k1, k2, k3⟩ := mOb_ok h1 h2.sa h2.fz h2.inj
 generalize hok : s2.ok p.ob.length = b at k1
 cases b with
 | false => cases k1
 | true =>
  have hall := fun i o => Sg.ok_spec hok (i := i) (o := o)
  have hA : Ag s2 π (view s2 p.ob.length π) := fun i o hb q hq => by
   unfold view
   rw [if_pos (hall i o hb).1, hb]
   exact hq
  refine ⟨(x1, x2), s2, J2, rs2, k1, ⟨Imm.le_trans h2.le k2.le, k2.sa, k2.fz, Sg.le_trans h2.sl k2.sl, k2.inj, hall, fun t av ht => ?_, fun i hi => ?_⟩⟩
  ·obtain ⟨av0, q1, q2⟩ := h3 _ (hA.mono k2.sl) t av ht
   exact ⟨av0, q1, q2.mono k2.le⟩
  ·exact k3 _ hA i (Nat.zero_le _) (by omega)

/-- Which blocks the told pieces hold. -/
def fpS (π : Pi) (M : Nat → Option AObj) : Nat → Prop := fun k => ∃ i, fpO π i (M i) k
section
variable {I J : Imm} {s0 s : Sg} {p : Pat} {sl : ASl} {x : p.I}
/-- A memory that the pattern's numbers tell. -/
def Seen (π : Pi) (w : World) (m : AMem) (s : Sg) (n : Nat) (J : Imm) (M : Nat → Option AObj) : Prop :=
 ∀ i, (M i = none ∧ view s n π i = none) ∨ M i = some .gone ∨ ∃ o, lk s.b i = some o ∧ M i ≠ none ∧ (lk (s.fz ++ m) o).isSome ∧ atO (view s n π) J w i (M i) ∧ ∀ k, fpO (view s n π) i (M i) k → fpO π o (lk (s.fz ++ m) o) k
theorem Viewed.at (h : Viewed B π w m I s0 p sl x s J) {i : Nat} (hi : i < p.ob.length) : lk (instOb id p.ob 0 x.2) i = some .gone ∨ (lk (instOb id p.ob 0 x.2) i = none ∧ p.ob[i]? = some .same) ∨ ∃ o, lk s.b i = some o ∧ lk (instOb id p.ob 0 x.2) i ≠ none ∧ (lk (s.fz ++ m) o).isSome ∧ atO (view s p.ob.length π) J w i (lk (instOb id p.ob 0 x.2) i) ∧ ∀ k, fpO (view s p.ob.length π) i (lk (instOb id p.ob 0 x.2) i) k → fpO π o (lk (s.fz ++ m) o) k := by
 rcases h.ob i hi with q | q | ⟨o, ob, po, z, h1, _, _, h2, _, h3, h4, _⟩
 ·exact .inl q
 ·exact .inr (.inl q)
 have h4 := h4 (h.lt i o h1).2
 have hlk : lk (s.fz ++ m) o = some ob := by rw [lk_append, (h.lt i o h1).2, h2]; rfl
 have hat := h.sa.res o
 rw [hlk] at hat
 refine .inr (.inr ⟨o, h1, by rw [h3]; simp, by rw [hlk]; rfl, by rw [h3]; exact h4.1 J (Imm.le_refl _) hat, fun k hk => ?_⟩)
 rw [h3] at hk
 rw [hlk]
 exact h4.2 k hk hat
theorem Viewed.seen (h : Viewed B π w m I s0 p sl x s J) (hr : p.ob.all PO.real = true) : Seen π w m s p.ob.length J (lk (instOb id p.ob 0 x.2)) := by
 intro i
 by_cases hi : i < p.ob.length
 ·rcases h.at hi with q | ⟨_, q⟩ | q
  ·exact .inr (.inl q)
  ·cases real_at hr q
  ·exact .inr (.inr q)
 ·exact .inl ⟨instOb_id_none (by omega), by unfold view; rw [if_neg hi]⟩
theorem Viewed.real (h : Viewed B π w m I s0 p sl x s J) (hr : p.ob.all PO.real = true) {i : Nat} (hi : i < p.ob.length) : ∃ (o : Nat) (ob : AObj) (po : PO) (z : po.I), lk s.b i = some o ∧ p.ob[i]? = some po ∧ lk m o = some ob ∧ ob ≠ .gone ∧ lk (instOb id p.ob 0 x.2) i = some (po.inst id z) ∧ (canO po ob = true → ∀ τ, Tt s τ → po.inst τ z = ob) := by
 rcases h.ob i hi with q | ⟨_, q⟩ | ⟨o, ob, po, z, h1, h2, _, h3, h4, h5, _, h6⟩
 ·obtain ⟨po, z, h0, h1⟩ := instOb_id_some (x := x.2) hr hi
  rw [h1] at q
  injection q with q
  exact absurd q (real_ng (real_at hr h0) id z)
 ·cases real_at hr q
 ·exact ⟨o, ob, po, z, h1, h2, h3, h4, h5, h6⟩
theorem Viewed.sa_of (h : Viewed B π w m I s0 p sl x s J) {M : Nat → Option AObj} (hM : Seen π w m s p.ob.length J M) : SA ⟨w, fpS (view s p.ob.length π) M, J⟩ J (view s p.ob.length π) M w ∧ SA B J (view s p.ob.length π) M w := by
 have hfp : ∀ i k, fpO (view s p.ob.length π) i (M i) k → ∃ o, lk s.b i = some o ∧ fpO π o (lk (s.fz ++ m) o) k := fun i k hk => by
  rcases hM i with ⟨q, _⟩ | q | ⟨o, h1, _, _, _, h4⟩
  ·rw [q] at hk; exact hk.elim
  ·rw [q] at hk; exact hk.elim
  ·exact ⟨o, h1, h4 k hk⟩
 have dom : ∀ o, M o = none → view s p.ob.length π o = none := fun i hi => by
  rcases hM i with ⟨_, q⟩ | q | ⟨o, _, q, _⟩
  ·exact q
  ·rw [hi] at q; cases q
  ·exact absurd hi q
 have res : ∀ i, atO (view s p.ob.length π) J w i (M i) := fun i => by
  rcases hM i with ⟨q, _⟩ | q | ⟨o, _, _, _, q, _⟩
  ·rw [q]; trivial
  ·rw [q]; trivial
  ·exact q
 have dis : ∀ i i', i ≠ i' → ∀ k, fpO (view s p.ob.length π) i (M i) k → ¬ fpO (view s p.ob.length π) i' (M i') k := fun i i' hne k hk hk' => by
  obtain ⟨o, h1, h4⟩ := hfp i k hk
  obtain ⟨o', h1', h4'⟩ := hfp i' k hk'
  exact h.sa.dis o o' (fun e => hne (h.inj i i' o h1 (e ▸ h1'))) k h4 h4'
 have imX : ∀ a v, J a = some v → ∀ i, ¬ fpO (view s p.ob.length π) i (M i) a.block := fun a v ha i hk => by
  obtain ⟨o, _, h4⟩ := hfp i _ hk
  exact h.sa.imX a v ha o h4
 exact ⟨⟨Evo.refl _ _, dom, res, fun i k hk => by obtain ⟨o, _, h4⟩ := hfp i k hk; exact ⟨(h.sa.own o k h4).1, .inr ⟨i, hk⟩⟩, dis, h.sa.im, imX, Imm.le_refl _, fun _ _ h => .inl h⟩,
  ⟨h.sa.evo, dom, res, fun i k hk => by obtain ⟨o, _, h4⟩ := hfp i k hk; exact h.sa.own o k h4, dis, h.sa.im, imX, h.sa.le, h.sa.inew⟩⟩
theorem Viewed.start (h : Viewed B π w m I s0 p sl x s J) (hr : p.ob.all PO.real = true) : SA ⟨w, fpS (view s p.ob.length π) (lk (instOb id p.ob 0 x.2)), J⟩ J (view s p.ob.length π) (lk (instOb id p.ob 0 x.2)) w := (h.sa_of (h.seen hr)).1

def tau (s : Sg) (n base : Nat) (i : Nat) : Nat := bif Nat.blt i n then (lk s.b i).getD 0 else base + (i - n)
theorem tau_old {n base i o : Nat} (hi : i < n) (h : lk s.b i = some o) : tau s n base i = o := by
 unfold tau
 rw [show Nat.blt i n = true from Nat.ble_eq_true_of_le hi, h]
 rfl
theorem tau_new {n base i : Nat} (hi : n ≤ i) : tau s n base i = base + (i - n) := by
 unfold tau
 rw [show Nat.blt i n = false by
  cases e : Nat.blt i n with
  | false => rfl
  | true => have := Nat.le_of_ble_eq_true e; omega]
 rfl
/-- Behind a call, or a piece of code whose contract is known: the caller's state. -/
theorem Viewed.back (h : Viewed B π w m I s0 p sl x s J) {q : Pat} {z : q.I} {base : Nat} {nc : List Nat} (hnew : ∀ j, p.ob.length + j < q.ob.length → lk m (base + j) = none) (hlen : p.ob.length ≤ q.ob.length) (hr : p.ob.all PO.real = true) (hsm : ∀ i, q.ob[i]? = some .same → i < p.ob.length ∧ ∃ o ob po, lk s.b i = some o ∧ p.ob[i]? = some po ∧ lk m o = some ob ∧ (canO po ob = true ∨ nc.any (Nat.beq i) = true)) {π2 : Pi} {J2 : Imm} {w2 : World}
  (hπ : (view s p.ob.length π).le π2) (hJ : J.le J2) (h2 : SA ⟨w, fpS (view s p.ob.length π) (lk (instOb id p.ob 0 x.2)), J⟩ J2 π2 (lk (instOb id q.ob 0 z.2 ++ instOb id p.ob 0 x.2)) w2) :
  ∃ π3, π.le π3 ∧ Ren (tau s p.ob.length base) π2 π3 ∧ SA B J2 π3 (lk (instOb (tau s p.ob.length base) q.ob 0 z.2 ++ (instPick (tau s p.ob.length base) nc p.ob 0 x.2 ++ s.fz) ++ m)) w2 := by
 have hold : ∀ i, i < p.ob.length → ∃ o, lk s.b i = some o ∧ tau s p.ob.length base i = o ∧ lk (s.fz ++ m) o ≠ none := fun i hi => by
  obtain ⟨o, ob, po, z, h1, _, h3, _⟩ := h.real hr hi
  exact ⟨o, h1, tau_old hi h1, fun e => by rw [lk_append, (h.lt i o h1).2, h3] at e; cases e⟩
 have hTt : Tt s (tau s p.ob.length base) := fun i o hb => tau_old (h.lt i o hb).1 hb
 have hnew' : ∀ i, p.ob.length ≤ i → i < q.ob.length → lk (s.fz ++ m) (tau s p.ob.length base i) = none := fun i h1 h2 => by
  rw [tau_new h1]
  have hm := hnew (i - p.ob.length) (by omega)
  rw [lk_append, hm]
  cases hq : lk s.fz (base + (i - p.ob.length)) with
  | none => rfl
  | some ob =>
   obtain ⟨_, _, _, _, h5⟩ := h.fz _ ob hq
   rw [hm] at h5
   cases h5
 have hinj : ∀ a b, 0 ≤ a → a < 0 + q.ob.length → 0 ≤ b → b < 0 + q.ob.length → tau s p.ob.length base a = tau s p.ob.length base b → a = b := by
  intro a b _ ha _ hb e
  by_cases h3 : a < p.ob.length
  ·obtain ⟨o, k1, k2, k3⟩ := hold a h3
   by_cases h4 : b < p.ob.length
   ·obtain ⟨o', k1', k2', _⟩ := hold b h4
    exact h.inj a b o k1 (by rw [k1', ← k2', ← e, k2])
   ·exact absurd (hnew' b (by omega) (by omega)) (by rw [← e, k2]; exact k3)
  ·by_cases h4 : b < p.ob.length
   ·obtain ⟨o', k1', k2', k3'⟩ := hold b h4
    exact absurd (hnew' a (by omega) (by omega)) (by rw [e, k2']; exact k3')
   ·rw [tau_new (by omega), tau_new (by omega)] at e
    omega
 generalize hτ : tau s p.ob.length base = τ at *
 let T : Nat → Prop := fun o => ∃ i, i < q.ob.length ∧ τ i = o
 have hview : ∀ i o, i < p.ob.length → lk s.b i = some o → view s p.ob.length π i = π o := fun i o hi ho => by unfold view; rw [if_pos hi, ho]; rfl
 classical
 let π3 : Pi := fun o => if hT : ∃ j, p.ob.length + j < q.ob.length ∧ o = base + j then π2 (p.ob.length + hT.choose) else π o
 have h3new : ∀ i, p.ob.length ≤ i → i < q.ob.length → π3 (τ i) = π2 i := fun i h1 h2' => by
  have hτi : τ i = base + (i - p.ob.length) := by rw [← hτ]; exact tau_new h1
  have hT : ∃ j, p.ob.length + j < q.ob.length ∧ τ i = base + j := ⟨i - p.ob.length, by omega, hτi⟩
  show (if hT : ∃ j, p.ob.length + j < q.ob.length ∧ τ i = base + j then π2 (p.ob.length + hT.choose) else π (τ i)) = _
  rw [dif_pos hT]
  have := hT.choose_spec.2
  congr 1
  omega
 have h3old : ∀ o, (¬ ∃ j, p.ob.length + j < q.ob.length ∧ o = base + j) → π3 o = π o := fun o ho => dif_neg ho
 have hbase : ∀ o, lk (s.fz ++ m) o ≠ none → ¬ ∃ j, p.ob.length + j < q.ob.length ∧ o = base + j := by
  rintro o ho ⟨j, h1, rfl⟩
  have := hnew' (p.ob.length + j) (by omega) h1
  rw [← hτ, tau_new (by omega), show base + (p.ob.length + j - p.ob.length) = base + j by omega] at this
  exact ho this
 have hle : π.le π3 := fun o pl ho => by
  rw [h3old o (hbase o (fun e => by rw [h.sa.dom o e] at ho; cases ho))]
  exact ho
 have hRen : Ren τ π2 π3 := fun i pl hi => by
  by_cases h3 : i < p.ob.length
  ·obtain ⟨o, k1, k2, k3⟩ := hold i h3
   rw [k2, h3old o (hbase o k3)]
   -- the old piece lies where it lay
   cases hv : π o with
   | some pl' =>
    have := hπ i pl' (by rw [hview i o h3 k1]; exact hv)
    rw [hi] at this
    exact this.symm
   | none =>
    exfalso
    obtain ⟨o', ob, _, _, q1, _, q2, q5, _⟩ := h.real hr h3
    rw [k1] at q1
    injection q1 with q1
    subst q1
    have hlk : lk (s.fz ++ m) o = some ob := by rw [lk_append, (h.lt i o k1).2, q2]; rfl
    have hat := h.sa.res o
    rw [hlk] at hat
    cases ob with
    | gone => exact q5 rfl
    | blk ty cs => obtain ⟨p, g, ys, e, _⟩ := hat; rw [hv] at e; cases e
    | row e c l => obtain ⟨p, cs, e, _⟩ := hat; rw [hv] at e; cases e
    | frz c l => obtain ⟨p, e, _⟩ := hat; rw [hv] at e; cases e
  ·by_cases h4 : i < q.ob.length
   ·rw [h3new i (by omega) h4]; exact hi
   ·rw [h2.dom i (by rw [lk_append, instOb_id_none (by omega), instOb_id_none (by omega)]; rfl)] at hi; cases hi
 have hget : ∀ i, i < q.ob.length → ∃ (po : PO) (zz : po.I), lk (instOb τ q.ob 0 z.2 ++ (instPick τ nc p.ob 0 x.2 ++ s.fz) ++ m) (τ i) = some (po.inst τ zz) ∧ lk (instOb id q.ob 0 z.2 ++ instOb id p.ob 0 x.2) i = some (po.inst id zz) := fun i hi => by
  rcases instOb_get τ q.ob 0 z.2 i (Nat.zero_le _) (by omega) hinj with ⟨k0, k1, k2⟩ | ⟨po, zz, _, k1, k2⟩
  ·obtain ⟨hip, o, ob, po, j1, j2, j3, j4⟩ := hsm i k0
   obtain ⟨o', ob', po', zz, l1, l2, l3, _, l4, l5⟩ := h.real hr hip
   rw [j1] at l1
   injection l1 with l1
   subst l1
   rw [j2] at l2
   injection l2 with l2
   subst l2
   rw [j3] at l3
   injection l3 with l3
   subst l3
   have hτi : τ i = o := by rw [← hτ]; exact tau_old hip j1
   have hinjp : ∀ a b, 0 ≤ a → a < 0 + p.ob.length → 0 ≤ b → b < 0 + p.ob.length → τ a = τ b → a = b := fun a b h1 h2 h3 h4 => hinj a b h1 (by omega) h3 (by omega)
   have hbig : lk (instOb τ q.ob 0 z.2 ++ (instPick τ nc p.ob 0 x.2 ++ s.fz) ++ m) (τ i) = (if nc.any (Nat.beq i) = true then lk (instOb τ p.ob 0 x.2) (τ i) else none).or (lk (s.fz ++ m) (τ i)) := by
    rw [List.append_assoc, lk_append, k1, List.append_assoc]
    show lk (instPick τ nc p.ob 0 x.2 ++ (s.fz ++ m)) (τ i) = _
    rw [lk_append, pick_get τ p.ob 0 x.2 i hr (Nat.zero_le _) (by omega) hinjp]
   have hsm2 : lk (instOb id q.ob 0 z.2 ++ instOb id p.ob 0 x.2) i = lk (instOb id p.ob 0 x.2) i := by rw [lk_append, k2]; rfl
   rw [hbig, hsm2]
   by_cases hnc : nc.any (Nat.beq i) = true
   ·rcases instOb_get τ p.ob 0 x.2 i (Nat.zero_le _) (by omega) hinjp with ⟨e, _⟩ | ⟨po2, z2, _, e1, e2⟩
    ·cases real_at hr e
    ·exact ⟨po2, z2, by rw [if_pos hnc, e1]; rfl, e2⟩
   ·refine ⟨po, zz, ?_, l4⟩
    rw [if_neg hnc, hτi]
    show lk (s.fz ++ m) o = _
    rw [lk_append, (h.lt i o j1).2, j3, l5 (j4.resolve_right hnc) τ (hτ ▸ hTt)]
    rfl
  ·exact ⟨po, zz, by rw [List.append_assoc, lk_append, k1]; rfl, by rw [lk_append, k2]; rfl⟩
 have hout : ∀ o, ¬ T o → lk (instOb τ q.ob 0 z.2 ++ (instPick τ nc p.ob 0 x.2 ++ s.fz) ++ m) o = lk (s.fz ++ m) o := fun o ho => by
  rw [List.append_assoc, lk_append, instOb_none τ q.ob 0 z.2 o (fun i _ hi e => ho ⟨i, by omega, e⟩), List.append_assoc]
  show lk (instPick τ nc p.ob 0 x.2 ++ (s.fz ++ m)) o = _
  rw [lk_append, pick_lt τ (fun i _ hi e => ho ⟨i, by omega, e⟩)]
  rfl
 have hatO : ∀ i, i < q.ob.length → atO π3 J2 w2 (τ i) (lk (instOb τ q.ob 0 z.2 ++ (instPick τ nc p.ob 0 x.2 ++ s.fz) ++ m) (τ i)) ∧ ∀ k, fpO π3 (τ i) (lk (instOb τ q.ob 0 z.2 ++ (instPick τ nc p.ob 0 x.2 ++ s.fz) ++ m) (τ i)) k → fpO π2 i (lk (instOb id q.ob 0 z.2 ++ instOb id p.ob 0 x.2) i) k := fun i hi => by
  obtain ⟨po, zz, k1, k2⟩ := hget i hi
  have := h2.res i
  rw [k2] at this
  rw [k1, k2]
  exact ren_O hRen this
 have hS : ∀ k, fpS (view s p.ob.length π) (lk (instOb id p.ob 0 x.2)) k → ∃ o, T o ∧ fpO π o (lk (s.fz ++ m) o) k := by
  rintro k ⟨i, hk⟩
  have hi : i < p.ob.length := by
   by_cases hi : i < p.ob.length
   ·exact hi
   ·rw [instOb_id_none (by omega)] at hk; exact hk.elim
  rcases h.seen hr i with ⟨q, _⟩ | q | ⟨o, k1, _, _, _, k4⟩
  ·rw [q] at hk; exact hk.elim
  ·rw [q] at hk; exact hk.elim
  obtain ⟨o', k1', k2', _⟩ := hold i hi
  rw [k1] at k1'
  injection k1' with k1'
  subst k1'
  exact ⟨o, ⟨i, by omega, k2'⟩, k4 k hk⟩
 refine ⟨π3, hle, hRen, h.sa.step T hle hJ h2.evo.os h2.evo.tape h2.evo.output h2.evo.size (fun k hk hno => h2.evo.blk k hk (fun hSk => ?_)) hout (fun o ho hn => ?_) ?_ ?_ ?_ ?_ h2.im (fun a v ha => ?_) ?_⟩
 ·obtain ⟨o, hT, hf⟩ := hS k hSk
  exact hno o hT hf
 ·rw [h3old o (fun ⟨j, h5, h6⟩ => ho ⟨p.ob.length + j, h5, by rw [← hτ, tau_new (by omega), h6]; congr 1; omega⟩)]
  exact h.sa.dom o hn
 ·rintro o ⟨i, hi, rfl⟩ hn
  obtain ⟨po, zz, k1, _⟩ := hget i hi
  rw [k1] at hn
  cases hn
 ·rintro o ⟨i, hi, rfl⟩
  exact (hatO i hi).1
 ·rintro o ⟨i, hi, rfl⟩ k hk
  have := h2.own i k ((hatO i hi).2 k hk)
  refine ⟨this.1, ?_⟩
  rcases this.2 with h5 | h5
  ·exact .inr h5
  ·exact .inl (hS k h5)
 ·rintro o o' ⟨i, hi, rfl⟩ ⟨i', hi', rfl⟩ hne k hk hk'
  exact h2.dis i i' (fun e => hne (by rw [e])) k ((hatO i hi).2 k hk) ((hatO i' hi').2 k hk')
 ·rcases h2.inew a v ha with h5 | h5 | h5
  ·exact .inl h5
  ·exact .inr (.inr h5)
  ·exact .inr (.inl (hS _ h5))
 ·rintro a v ha o ⟨i, hi, rfl⟩ hk
  exact h2.imX a v ha i ((hatO i hi).2 _ hk)
end
end
end Go.Proofs.YtfecniimkgkmfaaGreat.AM
namespace Go.Proofs.YtfecniimkgkmfaaGreat.AM
open Go Go.RowKit Go.Proofs.YtfecniimkgkmfaaGreat.RW

/-- Which way out, with which data. -/
def outD : (os : List OutD) → OutI os → Option (Σ d : OutD, d.R)
 | [], _ => none
 | [d], y => some ⟨d, y⟩
 | d :: _ :: _, .inl y => some ⟨d, y⟩
 | _ :: q :: r, .inr y => outD (q :: r) y

/-- A function does what its contract tells. -/
def FunOK (P : Program) (f : FuncId) (d : FragD) : Prop :=
 ∀ x y q z, d.g x = some y → outD d.outs y = some ⟨q, z⟩ → ∀ (I : Imm) (π : Pi) (w : World) (vs : List Value), (∀ fn, P.funcs[f]? = some fn → vs.length ≤ fn.ntmps) → vs.length = d.pin.sl.length →
  (∀ t av, lk (instSl id d.pin.sl x.1) t = some av → ∃ v, vs[t]? = some v ∧ relV π I av v) →
  SA ⟨w, fpS π (lk (instOb id d.pin.ob 0 x.2)), I⟩ I π (lk (instOb id d.pin.ob 0 x.2)) w →
  Calls P f vs.toArray w fun e w' => ∃ v, e = .returned v ∧ ∃ π' J, π.le π' ∧ I.le J ∧ SA ⟨w, fpS π (lk (instOb id d.pin.ob 0 x.2)), I⟩ J π' (lk (instOb id q.p.ob 0 (q.of z).2 ++ instOb id d.pin.ob 0 x.2)) w' ∧ ∀ av, lk (instSl id q.p.sl (q.of z).1) 0 = some av → relV π' J av v

section
variable {ρ : Type} {P : Program} {B : Base} {I : Imm} {π : Pi} {w : World} {m : AMem}

theorem newTr_ok {t : Tr ρ} {r : ρ} {ws : AMem} : ∀ {n b : Nat} {rs : List Nat}, Tr.Ex m (newTr n b t) r ws rs → (∀ j, j < n → lk m (b + j) = none) ∧ ∃ rs', Tr.Ex m t r ws rs'
 | 0, b, rs, h => ⟨fun j hj => by omega, rs, h⟩
 | n + 1, b, rs, h => by
  simp only [newTr] at h
  cases h with
  | look h =>
   dsimp only at h
   split at h
   ·rename_i ho
    obtain ⟨h1, h2⟩ := newTr_ok h
    refine ⟨fun j hj => ?_, h2⟩
    cases j with
    | zero => exact ho
    | succ j => rw [show b + (j + 1) = b + 1 + j by omega]; exact h1 j (by omega)
   ·cases h
theorem outsN_ge : ∀ (os : List OutD) (n : Nat), n ≤ outsN os n ∧ ∀ d ∈ os, d.p.ob.length ≤ outsN os n
 | [], n => ⟨Nat.le_refl _, fun _ h => by cases h⟩
 | d :: r, n => by
  obtain ⟨h1, h2⟩ := outsN_ge r (max d.p.ob.length n)
  refine ⟨Nat.le_trans (Nat.le_max_right _ _) h1, fun q hq => ?_⟩
  rcases List.mem_cons.1 hq with rfl | hq
  ·exact Nat.le_trans (Nat.le_max_left _ _) h1
  ·exact h2 q hq
theorem outD_mem : ∀ {os : List OutD} {y : OutI os} {q : OutD} {z : q.R}, outD os y = some ⟨q, z⟩ → q ∈ os
 | [], _, _, _, h => by cases h
 | [d], y, q, z, h => by
  simp only [outD, Option.some.injEq] at h
  cases h
  exact List.mem_cons_self
 | d :: q' :: r, .inl y, q, z, h => by
  simp only [outD, Option.some.injEq] at h
  cases h
  exact List.mem_cons_self
 | d :: q' :: r, .inr y, q, z, h => List.mem_cons_of_mem _ (outD_mem (os := q' :: r) h)
theorem outTr_ok {fz : AMem} {τ : Nat → Nat} : ∀ {os : List OutD} {y : OutI os} {r : Nat × ASl} {ws : AMem} {rs : List Nat}, Tr.Ex m (outTr fz τ os y) r ws rs →
  ∃ q z, outD os y = some ⟨q, z⟩ ∧ r = (q.k, instSl τ q.p.sl (q.of z).1) ∧ ws = instOb τ q.p.ob 0 (q.of z).2 ++ fz
 | [], _, _, _, _, h => by cases h
 | [d], y, r, ws, rs, h => by
  simp only [outTr, OutD.tr] at h
  cases h
  exact ⟨d, y, rfl, rfl, rfl⟩
 | d :: q :: os, y, r, ws, rs, h => by
  simp only [outTr] at h
  cases h with
  | inl y h =>
   simp only [OutD.tr] at h
   cases h
   exact ⟨d, y, rfl, rfl, rfl⟩
  | inr y h =>
   obtain ⟨q', z, h1, h2⟩ := outTr_ok h
   exact ⟨q', z, h1, h2⟩
theorem canTr_ok {obs : List PO} {b : List (Nat × Nat)} {t : List Nat → Tr ρ} {r : ρ} {ws : AMem} : ∀ {l nc : List Nat} {rs : List Nat}, Tr.Ex m (canTr obs b t l nc) r ws rs → ∃ nc', (∀ i ∈ nc, i ∈ nc') ∧ (∀ i ∈ l, ∃ o ob po, lk b i = some o ∧ obs[i]? = some po ∧ lk m o = some ob ∧ (canO po ob = true ∨ i ∈ nc')) ∧ ∃ rs', Tr.Ex m (t nc') r ws rs'
 | [], nc, rs, h => ⟨nc, fun _ h => h, fun _ h => (by cases h), rs, h⟩
 | i :: l, nc, rs, h => by
  unfold canTr at h
  split at h
  ·rename_i po o h1 h2
   cases h with
   | look h =>
    dsimp only at h
    split at h
    ·rename_i ob ho
     cases hc : canO po ob with
     | false =>
      rw [hc] at h
      obtain ⟨nc', k0, k1, k2⟩ := canTr_ok h
      exact ⟨nc', fun j hj => k0 j (List.mem_cons_of_mem _ hj), List.forall_mem_cons.2 ⟨⟨o, ob, po, h2, h1, ho, .inr (k0 i List.mem_cons_self)⟩, k1⟩, k2⟩
     | true =>
      rw [hc] at h
      obtain ⟨nc', k0, k1, k2⟩ := canTr_ok h
      exact ⟨nc', k0, List.forall_mem_cons.2 ⟨⟨o, ob, po, h2, h1, ho, .inl hc⟩, k1⟩, k2⟩
    ·cases h
  ·cases h
theorem frTr_ok {d : FragD} {sl : ASl} {base : Nat} {r : Nat × ASl} {ws : AMem} {rs : List Nat} (hx : Tr.Ex m (frTr d sl base) r ws rs) (h : SA B I π (lk m) w) :
  ∃ x s J y q z nc, d.g x = some y ∧ outD d.outs y = some ⟨q, z⟩ ∧ Viewed B π w m I ⟨[], []⟩ d.pin sl x s J ∧ (∀ j, d.pin.ob.length + j < q.p.ob.length → lk m (base + j) = none) ∧ (d.pin.ob.length ≤ q.p.ob.length ∧ d.pin.ob.all PO.real = true ∧ ∀ i, q.p.ob[i]? = some .same → i < d.pin.ob.length ∧ ∃ o ob po, lk s.b i = some o ∧ d.pin.ob[i]? = some po ∧ lk m o = some ob ∧ (canO po ob = true ∨ nc.any (Nat.beq i) = true)) ∧
   r = (q.k, instSl (tau s d.pin.ob.length base) q.p.sl (q.of z).1) ∧ ws = instOb (tau s d.pin.ob.length base) q.p.ob 0 (q.of z).2 ++ (instPick (tau s d.pin.ob.length base) nc d.pin.ob 0 x.2 ++ s.fz) := by
 unfold frTr at hx
 obtain ⟨x, s, J, rs1, h1, h2⟩ := pat_ok hx h rfl (fun i j o h => by cases h)
 obtain ⟨h3, rs2, h4⟩ := newTr_ok h1
 obtain ⟨nc, _, hcan, rs3, h4⟩ := canTr_ok h4
 generalize hok : (outsOk d.pin.ob.length d.outs && d.pin.ob.all PO.real) = b at h4
 cases b with
 | false => cases h4
 | true =>
  simp only [cond_true] at h4
  rw [Bool.and_eq_true] at hok
  obtain ⟨hok, hliv⟩ := hok
  cases h4 with
  | opt y hy h4 =>
   obtain ⟨q, z, k1, k2, k3⟩ := outTr_ok h4
   have hm := outD_mem k1
   have hle : d.pin.ob.length ≤ q.p.ob.length := by
    unfold outsOk at hok
    rw [List.all_eq_true] at hok
    have := hok q hm
    rw [Bool.and_eq_true] at this
    exact Nat.le_of_ble_eq_true this.1
   have hsm : ∀ i, q.p.ob[i]? = some .same → i < d.pin.ob.length ∧ ∃ o ob po, lk s.b i = some o ∧ d.pin.ob[i]? = some po ∧ lk m o = some ob ∧ (canO po ob = true ∨ nc.any (Nat.beq i) = true) := fun i hi => by
    have hlt : i < d.pin.ob.length := by
     refine Nat.lt_of_not_le fun hge => ?_
     unfold outsOk at hok
     rw [List.all_eq_true] at hok
     have := hok q hm
     rw [Bool.and_eq_true, List.all_eq_true] at this
     have h5 : (PO.same) ∈ q.p.ob.drop d.pin.ob.length := by
      refine List.mem_of_getElem? (i := i - d.pin.ob.length) ?_
      rw [List.getElem?_drop, show d.pin.ob.length + (i - d.pin.ob.length) = i by omega]
      exact hi
     have := this.2 _ h5
     cases this
    suffices hmem : i ∈ sames d.pin.ob.length d.outs by
     obtain ⟨o, ob, po, l1, l2, l3, l4⟩ := hcan i hmem
     exact ⟨hlt, o, ob, po, l1, l2, l3, l4.imp id (fun hm => List.any_eq_true.2 ⟨i, hm, Nat.beq_refl i⟩)⟩
    unfold sames
    rw [List.mem_filter]
    refine ⟨List.mem_range.2 hlt, ?_⟩
    rw [List.any_eq_true]
    exact ⟨q, hm, by rw [hi]; rfl⟩
   have hN := (outsN_ge d.outs 0).2 q hm
   exact ⟨x, s, J, y, q, z, nc, hy, k1, h2, fun j hj => h3 j (by omega), ⟨hle, hliv, hsm⟩, k2, k3⟩
theorem trBind_ok : ∀ {t : Tr (Nat × ASl)} {v : AV} {ws : AMem} {rs : List Nat}, Tr.Ex m (trBind t) v ws rs → ∃ r, Tr.Ex m t r ws rs ∧ lk r.2 0 = some v := by
 intro t
 induction t with
 | ret r ws0 =>
  intro v ws rs h
  simp only [trBind] at h
  split at h
  ·rename_i a ha
   cases h
   exact ⟨r, .ret _ _, ha⟩
  ·cases h
 | look o k ih =>
  intro v ws rs h
  simp only [trBind] at h
  cases h with
  | look h => obtain ⟨r, h1, h2⟩ := ih _ h; exact ⟨r, .look h1, h2⟩
 | chk b t ih =>
  intro v ws rs h
  simp only [trBind] at h
  cases h with
  | chk h => obtain ⟨r, h1, h2⟩ := ih h; exact ⟨r, .chk h1, h2⟩
 | ite b t e iht ihe =>
  intro v ws rs h
  simp only [trBind] at h
  cases h with
  | iteT h => obtain ⟨r, h1, h2⟩ := iht h; exact ⟨r, .iteT h1, h2⟩
  | iteF h => obtain ⟨r, h1, h2⟩ := ihe h; exact ⟨r, .iteF h1, h2⟩
 | opt α x k ih =>
  intro v ws rs h
  simp only [trBind] at h
  cases h with
  | opt y hy h => obtain ⟨r, h1, h2⟩ := ih _ h; exact ⟨r, .opt y hy h1, h2⟩
 | sum α β x k l ihk ihl =>
  intro v ws rs h
  simp only [trBind] at h
  cases h with
  | inl y h => obtain ⟨r, h1, h2⟩ := ihk _ h; exact ⟨r, .inl y h1, h2⟩
  | inr y h => obtain ⟨r, h1, h2⟩ := ihl _ h; exact ⟨r, .inr y h1, h2⟩
 | fail => intro v ws rs h; simp only [trBind] at h; cases h

/-- A call of a function whose contract is known. -/
theorem call_ok {f : Nat} {d : FragD} (hf : FunOK P f d) {l : ASl} {nb : Nat} {v : AV} {ws : AMem} {rs : List Nat} (h : SA B I π (lk m) w) {vs : List Value} (hlen : ∀ fn, P.funcs[f]? = some fn → vs.length ≤ fn.ntmps) (hls : vs.length = d.pin.sl.length) (hvs : ∀ t av, lk l t = some av → ∃ u, vs[t]? = some u ∧ relV π I av u)
  (hx : Tr.Ex m (trBind (frTr d l nb)) v ws rs) : Calls P f vs.toArray w fun e w' => ∃ y, e = .returned y ∧ Post B I π v (lk (ws ++ m)) y w' := by
 obtain ⟨r, h1, h2⟩ := trBind_ok hx
 obtain ⟨x, s, J, y, q, z, nc, hg, ho, hv, hnew, hle, rfl, rfl⟩ := frTr_ok h1 h
 refine (hf x y q z hg ho J (view s d.pin.ob.length π) w vs hlen hls (fun t av ht => ?_) (hv.start hle.2.1)).mono ?_
 ·obtain ⟨av0, k1, k2⟩ := hv.slot t av ht
  obtain ⟨u, k3, k4⟩ := hvs t av0 k1
  exact ⟨u, k3, k2 J (Imm.le_refl _) u (k4.ext (Pi.le_refl _) hv.le)⟩
 ·rintro e w' ⟨u, rfl, π', J', k1, k2, k3, k4⟩
  obtain ⟨π3, q1, q2, q3⟩ := hv.back hnew hle.1 hle.2.1 hle.2.2 k1 k2 k3
  obtain ⟨av', q4, q5⟩ := ren_Sl (J := J') q2 h2
  exact ⟨u, rfl, π3, J', q1, Imm.le_trans hv.le k2, q3, q5 u (k4 av' q4)⟩
theorem fitObs_ok {obs : List PO} {k : Bool → Tr ρ} {r : ρ} {ws : AMem} : ∀ {n : Nat} {l : List (Nat × Nat)} {rs : List Nat}, Tr.Ex m (fitObs obs k n l) r ws rs → ∃ b rs', Tr.Ex m (k b) r ws rs'
 | 0, _, rs, h => by unfold fitObs at h; exact ⟨_, _, h⟩
 | n + 1, [], rs, h => by unfold fitObs at h; exact ⟨_, _, h⟩
 | n + 1, (i, o) :: l, rs, h => by
  unfold fitObs at h
  split at h
  ·exact ⟨_, _, h⟩
  ·cases h with
   | look h =>
    dsimp only at h
    cases hb : fitO _ (lk m o) with
    | true => rw [hb] at h; exact fitObs_ok h
    | false => rw [hb] at h; exact ⟨_, _, h⟩
theorem callTr_ok {f : Nat} {ds : List FragD} (hf : ∀ d ∈ ds, FunOK P f d) {l : ASl} {nb : Nat} {v : AV} {ws : AMem} {rs : List Nat} (h : SA B I π (lk m) w) {vs : List Value} (hlen : ∀ fn, P.funcs[f]? = some fn → vs.length ≤ fn.ntmps) (hll : l.length = vs.length) (hvs : ∀ t av, lk l t = some av → ∃ u, vs[t]? = some u ∧ relV π I av u)
  (hx : Tr.Ex m (callTr l nb ds) v ws rs) : Calls P f vs.toArray w fun e w' => ∃ y, e = .returned y ∧ Post B I π v (lk (ws ++ m)) y w' := by
 induction ds generalizing rs with
 | nil => simp only [callTr] at hx; cases hx
 | cons d r ih =>
  cases r with
  | nil =>
   simp only [callTr] at hx
   cases hb : Nat.beq l.length d.pin.sl.length with
   | false => rw [hb] at hx; cases hx
   | true =>
    rw [hb] at hx
    exact call_ok (hf d List.mem_cons_self) h hlen (hll.symm.trans (Nat.eq_of_beq_eq_true hb)) hvs hx
  | cons q r =>
   simp only [callTr] at hx
   cases hb : fits d l with
   | true =>
    rw [hb] at hx
    obtain ⟨b, rs', hx⟩ := fitObs_ok hx
    cases hb2 : (b && Nat.beq l.length d.pin.sl.length) with
    | true =>
     rw [hb2] at hx
     rw [Bool.and_eq_true] at hb2
     exact call_ok (hf d List.mem_cons_self) h hlen (hll.symm.trans (Nat.eq_of_beq_eq_true hb2.2)) hvs hx
    | false =>
     rw [hb2] at hx
     exact ih (fun d hd => hf d (List.mem_cons_of_mem _ hd)) hx
   | false => rw [hb] at hx; exact ih (fun d hd => hf d (List.mem_cons_of_mem _ hd)) hx
theorem fnsOf_ok {fns : List (Nat × FragD)} {f : Nat} (hf : ∀ g d, (g, d) ∈ fns → FunOK P g d) : ∀ d ∈ fnsOf fns f, FunOK P f d := by
 intro d hd
 unfold fnsOf at hd
 obtain ⟨p, hp, h⟩ := List.mem_filterMap.1 hd
 cases hb : Nat.beq p.1 f with
 | false => rw [hb] at h; cases h
 | true =>
  rw [hb] at h
  injection h with h
  subst h
  have := Nat.eq_of_beq_eq_true hb
  subst this
  exact hf p.1 p.2 hp
theorem argSl_ok : ∀ {L : List (Option AV)} {vs : List Value} {i : Nat} {l : ASl}, argSl L i = some l → rl (fun a v => ∃ av, a = some av ∧ relV π I av v) L vs → ∀ t av, lk l t = some av → i ≤ t ∧ ∃ v, vs[t - i]? = some v ∧ relV π I av v
 | [], vs, i, l, h, _, t, av, ht => by
  simp only [argSl, Option.some.injEq] at h
  subst h
  cases ht
 | none :: L, vs, i, l, h, _, _, _, _ => by simp [argSl] at h
 | some a :: L, [], i, l, h, hr, _, _, _ => hr.elim
 | some a :: L, v :: vs, i, l, h, hr, t, av, ht => by
  simp only [argSl] at h
  split at h
  ·rename_i l' hl
   injection h with h
   subst h
   rw [lk_cons] at ht
   split at ht
   ·rename_i e
    subst e
    injection ht with ht
    subst ht
    obtain ⟨⟨av', e1, e2⟩, _⟩ := hr
    injection e1 with e1
    subst e1
    exact ⟨Nat.le_refl _, v, by simp, e2⟩
   ·obtain ⟨h1, v', h2, h3⟩ := argSl_ok hl hr.2 t av ht
    refine ⟨by omega, v', ?_, h3⟩
    rw [show t - i = (t - (i + 1)) + 1 by omega]
    simpa using h2
  ·cases h
theorem argSl_len : ∀ {L : List (Option AV)} {i : Nat} {l : ASl}, argSl L i = some l → l.length = L.length
 | [], i, l, h => by
  simp only [argSl, Option.some.injEq] at h
  subst h
  rfl
 | none :: L, i, l, h => by simp [argSl] at h
 | some a :: L, i, l, h => by
  simp only [argSl] at h
  split at h
  ·rename_i l' hl
   injection h with h
   subst h
   rw [List.length_cons, List.length_cons, argSl_len hl]
  ·cases h
theorem rl_len {α β : Type} {R : α → β → Prop} : ∀ {l : List α} {r : List β}, rl R l r → l.length = r.length
 | [], [], _ => rfl
 | _ :: _, _ :: _, h => by rw [List.length_cons, List.length_cons, rl_len h.2]
 | [], _ :: _, h => h.elim
 | _ :: _, [], h => h.elim
theorem capA_ok : ∀ {l : List (Nat × Nat)} {ys : List Value}, rl (relP π) l ys → rl (fun a v => ∃ av, a = some av ∧ relV π I av v) (capA l) ys
 | [], [], _ => trivial
 | _ :: _, _ :: _, h => ⟨⟨_, rfl, h.1⟩, capA_ok h.2⟩
 | [], _ :: _, h => h.elim
 | _ :: _, [], h => h.elim
theorem enter_len {g n : Nat} (h : enterOk P g n = true) : ∀ fn, P.funcs[g]? = some fn → n ≤ fn.ntmps := by
 intro fn hfn
 unfold enterOk at h
 rw [hfn] at h
 simp only [Bool.and_eq_true] at h
 exact Nat.le_of_ble_eq_true h.2
theorem enter_ok {g n : Nat} (h : enterOk P g n = true) (args : Array Value) (w : World) : (callFunc g args).run P w = .ok (.enter g args) w := by
 unfold enterOk at h
 split at h
 ·rename_i fn hfn
  rw [Bool.and_eq_true, Bool.and_eq_true] at h
  obtain ⟨⟨h1, h2⟩, _⟩ := h
  simp [callFunc, hfn] at h1 h2 ⊢
  simp [h1]
  intro e
  rw [e] at h2
  cases h2
 ·cases h
theorem argSl_ok' {L : List (Option AV)} {i : Nat} {l : ASl} (h : argSl L i = some l) : ∀ a ∈ L, a ≠ none := by
 induction L generalizing i l with
 | nil => intro a ha; cases ha
 | cons b L ih =>
  cases b with
  | none => simp [argSl] at h
  | some b =>
   simp only [argSl] at h
   split at h
   ·rename_i l' hl
    intro a ha
    rcases List.mem_cons.1 ha with rfl | ha
    ·simp
    ·exact ih hl a ha
   ·cases h
theorem sl_rel {sl : Operand → Option AV} {σ : Operand → Value} {xs : List Operand} (hsl : ∀ x ∈ xs, ∀ av, sl x = some av → relV π I av (σ x)) (hn : ∀ x ∈ xs, sl x ≠ none) : rl (fun a v => ∃ av, a = some av ∧ relV π I av v) (xs.map sl) (xs.map σ) := by
 induction xs with
 | nil => trivial
 | cons x xs ih =>
  refine ⟨?_, ih (fun y hy => hsl y (List.mem_cons_of_mem _ hy)) (fun y hy => hn y (List.mem_cons_of_mem _ hy))⟩
  obtain ⟨av, hav⟩ := Option.ne_none_iff_exists'.1 (hn x List.mem_cons_self)
  exact ⟨av, hav, hsl x List.mem_cons_self av hav⟩
theorem ofAC_some {o : Option AV} {a : AC} (h : ofAC o = some a) : o = some (ac a) := by
 unfold ofAC at h
 split at h
 ·injection h with h
  subst h
  rfl
 ·cases h
theorem intA_some {o : Option AV} {i : Int} (h : intA o = some i) : ∃ k, o = some (ac (.v (.int k i))) := by
 unfold intA at h
 split at h
 ·injection h with h
  subst h
  exact ⟨_, rfl⟩
 ·cases h
theorem ptrs_ok {l : List Operand} {sl : Operand → Option AV} {σ : Operand → Value} (hsl : ∀ x ∈ l, ∀ av, sl x = some av → relV π I av (σ x)) : ∀ {r : List (Nat × Nat)}, ptrs (l.map sl) = some r → rl (relP π) r (l.map σ) := by
 induction l with
 | nil =>
  intro r h
  simp only [List.map_nil, ptrs, Option.some.injEq] at h
  subst h
  trivial
 | cons x l ih =>
  intro r h
  simp only [List.map_cons] at h
  unfold ptrs at h
  split at h
  ·rename_i heq; cases heq
  ·rename_i o q r' heq
   injection heq with h1 h2
   subst h2
   split at h
   ·rename_i l' hl
    injection h with h
    subst h
    exact ⟨hsl x List.mem_cons_self _ h1, ih (fun y hy => hsl y (List.mem_cons_of_mem _ hy)) hl⟩
   ·cases h
  ·cases h
theorem parts_ok {sl : Operand → Option AV} {σ : Operand → Value} : ∀ {ps : List (Nat × Operand)} {cs cs' : List AC} {place : Nat → Option (Nat × Nat)}, (∀ p ∈ ps, ∀ av, sl p.2 = some av → relV π I av (σ p.2)) → fillA place cs (ps.map fun p => (p.1, sl p.2)) = some cs' →
  rl (fun p q => p.1 = q.1 ∧ ∃ av, p.2 = some av ∧ relV π I av q.2) (ps.map fun p => (p.1, sl p.2)) (ps.map fun p => (p.1, σ p.2))
 | [], _, _, _, _, _ => trivial
 | p :: ps, cs, cs', place, hsl, h => by
  simp only [List.map_cons, fillA] at h
  split at h
  ·rename_i off n v hp hv
   split at h
   ·cases hb : Nat.beq _ _ with
    | false => rw [hb] at h; cases h
    | true =>
     rw [hb] at h
     simp only [cond_true] at h
     split at h
     ·exact ⟨⟨rfl, v, hv, hsl p List.mem_cons_self v hv⟩, parts_ok (fun q hq => hsl q (List.mem_cons_of_mem _ hq)) h⟩
     ·cases h
   ·cases h
  ·cases h
end
end Go.Proofs.YtfecniimkgkmfaaGreat.AM
namespace Go.Proofs.YtfecniimkgkmfaaGreat.AM
open Go Go.RowKit Go.Proofs.YtfecniimkgkmfaaGreat.RW

section
variable {P : Program} {B : Base} {I : Imm} {π : Pi} {w : World} {m : AMem}

theorem Does.pure {y : Value} {N : Value → World → Prop} (hN : N y w) : Does P (pure (.value y)) w N := .inl ⟨y, w, .inl rfl, hN⟩
theorem nilTr_ok {ρ : Type} (h : SA B I π (lk m) w) {t : TypeId} {v : AV} {y : Value} (hv : relV π I v y) {nb : Nat} {k : AV → AMem → Tr ρ} {r : ρ} {ws : AMem} {rs : List Nat} (hx : Tr.Ex m (nilTr P t v nb k) r ws rs) :
  ∃ v' w0 π' rs', Tr.Ex m (k v' w0) r ws rs' ∧ π.le π' ∧ SA B I π' (lk (w0 ++ m)) w ∧ relV π' I v' y ∧ ∀ o, o ≠ nb → lk w0 o = none := by
 have same : Tr.Ex m (k v []) r ws rs → ∃ v' w0 π' rs', Tr.Ex m (k v' w0) r ws rs' ∧ π.le π' ∧ SA B I π' (lk (w0 ++ m)) w ∧ relV π' I v' y ∧ ∀ o, o ≠ nb → lk w0 o = none := fun hx => ⟨v, [], π, rs, hx, Pi.le_refl _, h, hv, fun _ _ => rfl⟩
 unfold nilTr at hx
 split at hx
 ·split at hx
  ·rename_i e hu
   split at hx
   ·rename_i c hc
    obtain ⟨hnb, rs', hx'⟩ := freshTr_inv hx
    obtain ⟨rfl, _⟩ := hv
    obtain ⟨p, h1, h2, h3⟩ := h.row (c := c) (l := []) hnb (World.ownsRow_nil w 0 e c.sz) rfl (grownBy_refl w none) (fun k hk => by cases hk)
    refine ⟨_, _, _, rs', hx', updP_le (h.dom nb hnb) p, ?_, ⟨p, updP_self _ _ _, h1⟩, fun o ho => ?_⟩
    ·show SA B I _ (lk ((nb, .row e c []) :: m)) w
     rw [lk_upd]
     exact h3
    ·rw [lk_cons, if_neg (fun e => ho e.symm)]
     rfl
   ·exact same hx
  ·exact same hx
 ·exact same hx
theorem boxTr_ok (h : SA B I π (lk m) w) {e : TypeId} {v : AV} {u : Value} (hv : relV π I v u) {nb : Nat} {r : AV} {ws : AMem} {rs : List Nat} (hx : Tr.Ex m (boxTr P e v nb) r ws rs) :
  ∃ w', (newVar e u).run P w = .ok ⟨w.heap.size, 0, none⟩ w' ∧ Post B I π r (lk (ws ++ m)) (.pointer (some ⟨w.heap.size, 0, none⟩)) w' := by
 unfold boxTr at hx
 obtain ⟨v', w0, π', rs', h1, h2, h3, h4, h5⟩ := nilTr_ok h hv hx
 split at h1
 ·rename_i cs hc
  obtain ⟨hnb, rs2, h6⟩ := freshTr_inv h1
  cases h6
  have hnb' : lk (w0 ++ m) nb = none := by rw [lk_append, h5 nb (by omega), hnb]; rfl
  obtain ⟨w', k1, π2, I2, k2, k3, k4, k5⟩ := new_ok (P := P) h3 hnb' e (relV.cells hc h4)
  exact ⟨w', by simpa [newVar] using k1, π2, I2, Pi.le_trans h2 k2, k3, k4, k5⟩
 ·cases h1
theorem nilFn_run {t : TypeId} (h : nilFn P t = true) (w : World) : (zeroValue t).run P w = .ok .nilFunc w := by
 unfold nilFn at h
 split at h
 ·rename_i hs
  exact simQ_sound (RFacts.nil ⟨w, fun _ => False, fun _ => none⟩ (fun _ => none) []) (Sat.start w _ _ (fun _ _ h => by cases h)) _ _ _ _ _ hs (fun p hp => by cases hp)
 ·cases h
theorem mget_map (l : List (Int × Nat)) (i : Int) : (RW.mget (l.map fun p => (p.1, some p.2)) i) = (RW.mget l i).map some := by
 induction l with
 | nil => rfl
 | cons p l ih =>
  obtain ⟨a, f⟩ := p
  simp only [List.map_cons, RW.mget]
  split
  ·rfl
  ·exact ih
theorem mpTr_ok {i : Int} (h : SA B I π (lk m) w) : ∀ {l : List (Int × Nat)} {v : AV} {ws : AMem} {rs : List Nat}, Tr.Ex m (mpTr i l) v ws rs → ws = [] ∧ relV π I v (.tuple #[fnV (((RW.mget l i).map some).getD none), .bool ((RW.mget l i).map some).isSome])
 | [], v, ws, rs, hx => by
  cases hx
  exact ⟨rfl, [.nilFunc, .bool false], rfl, ⟨rfl, rfl⟩, ⟨rfl, rfl⟩, trivial⟩
 | (a, f) :: r, v, ws, rs, hx => by
  unfold mpTr at hx
  generalize hd : decide (i = a) = b at hx
  cases hx with
  | iteT hx =>
   cases hx
   have e : i = a := of_decide_eq_true hd
   subst e
   refine ⟨rfl, [.func (.func f) #[] #[], .bool true], ?_, ⟨[], [], rfl, trivial, trivial⟩, ⟨rfl, rfl⟩, trivial⟩
   simp [RW.mget, fnV]
  | iteF hx =>
   have e : ¬ i = a := of_decide_eq_false hd
   obtain ⟨h1, h2⟩ := mpTr_ok h hx
   refine ⟨h1, ?_⟩
   rw [show RW.mget ((a, f) :: r) i = RW.mget r i from by simp [RW.mget, e]]
   exact h2
theorem lookA_ok (h : SA B I π (lk m) w) {t : TypeId} {k : IntKind} {i : Int} {a : AC} {y : Value} {ok : Bool} (ha : relC π I a y) {v : AV} {ws : AMem} {rs : List Nat} (hx : Tr.Ex m (lookA P t a k i ok) v ws rs) :
  Does P (toNext (Instr.lookup t y (.int k i) ok)) w (Post B I π v (lk (ws ++ m))) := by
 unfold lookA at hx
 split at hx
 ·rename_i kt et k1 l hu
  split at hx
  ·rename_i k2 hk
   cases hb : (decide (k1 = k2) && (decide (k1 = k) && (ok && nilFn P et))) with
   | false => rw [hb] at hx; cases hx
   | true =>
    rw [hb] at hx
    simp only [cond_true] at hx
    simp only [Bool.and_eq_true, decide_eq_true_eq] at hb
    obtain ⟨e1, e2, e3, e4⟩ := hb
    subst e1; subst e2; subst e3
    obtain ⟨g, rfl, hm⟩ := ha
    have hM : RW.MT P t kt et (Value.int k1) fnV none := RW.MT.ofInt hu hk (fun w => nilFn_run e4 w)
    obtain ⟨h1, h2⟩ := mpTr_ok h hx
    subst h1
    have h3 := RW.run_lookF hM hm h.im i true
    rw [mget_map, if_pos rfl] at h3
    exact Does.val h3 (Post.here h h2)
  ·cases hx
 ·cases hx
theorem aop_ok {fns : List (Nat × FragD)} (hfns : ∀ g d, (g, d) ∈ fns → FunOK P g d) (h : SA B I π (lk m) w) {sl : Operand → Option AV} {σ : Operand → Value} {o : Oper} (hsl : ∀ x ∈ o.op.operands, ∀ av, sl x = some av → relV π I av (σ x))
  {nb : Nat} {v : AV} {ws : AMem} {rs : List Nat} (hx : Tr.Ex m (aop P fns sl o nb) v ws rs) : Does P (execOp σ o) w (Post B I π v (lk (ws ++ m))) := by
 have hac : ∀ x ∈ o.op.operands, ∀ a, ofAC (sl x) = some a → relC π I a (σ x) := fun x hx a ha => hsl x hx _ (ofAC_some ha)
 have hint : ∀ x ∈ o.op.operands, ∀ i, intA (sl x) = some i → isInt i (σ x) := fun x hx i hi => by
  obtain ⟨k, hk⟩ := intA_some hi
  obtain ⟨h1, _⟩ := hsl x hx _ hk
  exact ⟨k, h1⟩
 have mv2 : ∀ x ∈ o.op.operands, execOp σ o = pure (.value (σ x)) → Tr.Ex m (match sl x with | some v => nilTr P o.type v nb .ret | none => .fail) v ws rs → Does P (execOp σ o) w (Post B I π v (lk (ws ++ m))) := fun x hm he hx => by
  split at hx
  ·rename_i av hav
   obtain ⟨v', w0, π', rs', h1, h2, h3, h4, _⟩ := nilTr_ok h (hsl x hm _ hav) hx
   cases h1
   rw [he]
   exact Does.pure ⟨π', I, h2, Imm.le_refl _, h3, h4⟩
  ·cases hx
 have mv : ∀ x ∈ o.op.operands, execOp σ o = pure (.value (σ x)) → Tr.Ex m (Tr.ofO (sl x)) v ws rs → Does P (execOp σ o) w (Post B I π v (lk (ws ++ m))) := fun x hm he hx => by
  unfold Tr.ofO at hx
  split at hx
  ·rename_i av hav
   cases hx
   rw [he]
   exact Does.pure (Post.here h (hsl x hm _ hav))
  ·cases hx
 have scal : Tr.Ex m (scalA P sl o) v ws rs → Does P (execOp σ o) w (Post B I π v (lk (ws ++ m))) := fun hx => scalA_ok h hsl hx
 unfold aop at hx
 split at hx
 ·-- move
  rename_i x ho
  exact mv2 x (by rw [ho]; simp [Op.operands]) (by unfold execOp; rw [ho]) hx
 ·rename_i x ho
  exact mv2 x (by rw [ho]; simp [Op.operands]) (by unfold execOp; rw [ho]) hx
 ·-- pick
  rename_i c a b ho
  split at hx
  ·rename_i t ht
   have hc := hac c (by rw [ho]; simp [Op.operands]) _ ht
   have hex : execOp σ o = pure (.value (if t = true then σ a else σ b)) := by
    have hc : σ c = .bool t := hc.1
    unfold execOp
    rw [ho]
    simp only [hc]
    rfl
   cases hx with
   | iteT hx => exact mv a (by rw [ho]; simp [Op.operands]) (by rw [hex]; rfl) hx
   | iteF hx => exact mv b (by rw [ho]; simp [Op.operands]) (by rw [hex]; rfl) hx
  ·cases hx
 ·-- alloc
  rename_i e ho
  have hex : execOp σ o = toNext (Instr.alloc e true (.tuple #[])) := by unfold execOp; rw [ho]; rfl
  have fin : ∀ (cs : List AC) (av : AV), zeroT P e = some cs → (∀ z : Value, cs = z.cells.toList.map AC.v → z.cells.toList.all (·.oneCell') = true → ∃ u : Value, u.cells = z.cells ∧ relV π I av u) → Tr.Ex m (boxTr P e av nb) v ws rs → Does P (execOp σ o) w (Post B I π v (lk (ws ++ m))) := by
   intro cs av hz hu hx
   obtain ⟨i, z, hi, hz1, hcs, hall⟩ := zeroT_spec hz
   obtain ⟨u, hu1, hu2⟩ := hu z hcs hall
   obtain ⟨w', h1, h2⟩ := boxTr_ok h hu2 hx
   rw [hex]
   refine Does.val (y := .pointer (some ⟨w.heap.size, 0, none⟩)) (w' := w') ?_ h2
   have h1' : (newVar e z).run P w = .ok ⟨w.heap.size, 0, none⟩ w' := by
    unfold newVar at h1 ⊢
    rw [← hu1]
    exact h1
   simp [Instr.alloc, zeroValue, typeInfo, hi, hz1, h1']
  split at hx
  ·rename_i a hz
   refine fin [a] _ hz (fun z hcs hall => ?_) hx
   cases hl : z.cells.toList with
   | nil => rw [hl] at hcs; cases hcs
   | cons x xs =>
    cases xs with
    | cons _ _ => rw [hl] at hcs; simp at hcs
    | nil =>
     rw [hl] at hcs hall
     simp only [List.map_cons, List.map_nil, List.cons.injEq, and_true] at hcs
     have hone : x.oneCell' = true := by simpa using hall
     refine ⟨x, ?_, ?_⟩
     ·rw [cells_one hone, ← Array.toList_inj, hl]
     ·rw [hcs]; exact ⟨rfl, hone⟩
  ·rename_i cs _ hz
   refine fin cs _ hz (fun z hcs hall => ?_) hx
   exact ⟨.agg z.cells, rfl, z.cells.toList, by simp, by rw [hcs]; exact rl_v hall⟩
  ·cases hx
 ·-- box
  rename_i e x ho
  split at hx
  ·rename_i av hav
   obtain ⟨w', h1, h2⟩ := boxTr_ok h (hsl x (by rw [ho]; simp [Op.operands]) _ hav) hx
   have hex : execOp σ o = toNext (Instr.box e (σ x)) := by unfold execOp; rw [ho]; rfl
   rw [hex]
   refine Does.val (y := .pointer (some ⟨w.heap.size, 0, none⟩)) (w' := w') ?_ h2
   simp [Instr.box, h1]
  ·cases hx
 ·-- load
  rename_i t x ho
  split at hx
  ·rename_i a ha
   obtain ⟨rfl, y, h1, h2⟩ := ldA_ok h (hac x (by rw [ho]; simp [Op.operands]) _ ha) hx
   have hex : execOp σ o = toNext (Instr.loadAt t (σ x)) := by unfold execOp; rw [ho]; rfl
   rw [hex]
   exact Does.val h1 (Post.here h h2)
  ·cases hx
 ·-- store
  rename_i t x u ho
  split at hx
  ·rename_i a av ha hav
   obtain ⟨rfl, w', J, h1, h2, h3⟩ := stA_ok h (hac x (by rw [ho]; simp [Op.operands]) _ ha) (hsl u (by rw [ho]; simp [Op.operands]) _ hav) hx
   have hex : execOp σ o = (Instr.storeAt t (σ x) (σ u)).bind fun _ => .pure .skip := by unfold execOp; rw [ho]; rfl
   rw [hex]
   exact Does.unit h1 ⟨π, J, Pi.le_refl _, h2, h3, [], rfl, trivial⟩
  ·cases hx
 ·-- fieldAddr
  rename_i s x f ho
  split at hx
  ·rename_i a ha
   obtain ⟨rfl, y, h1, h2⟩ := fldA_ok (w := w) (hac x (by rw [ho]; simp [Op.operands]) _ ha) hx
   have hex : execOp σ o = toNext (Instr.fieldAt s (σ x) f) := by unfold execOp; rw [ho]; rfl
   rw [hex]
   exact Does.val h1 (Post.here h h2)
  ·cases hx
 ·-- indexAddr
  rename_i t x i ho
  split at hx
  ·rename_i a n ha hi
   obtain ⟨k, hk⟩ := hint i (by rw [ho]; simp [Op.operands]) _ hi
   obtain ⟨rfl, y, h1, h2⟩ := idxA_ok (k := k) h (hac x (by rw [ho]; simp [Op.operands]) _ ha) hx
   have hex : execOp σ o = toNext (Instr.indexAt t (σ x) (σ i)) := by unfold execOp; rw [ho]; rfl
   rw [hex, hk]
   exact Does.val h1 (Post.here h h2)
  ·cases hx
 ·-- field
  rename_i t x f ho
  split at hx
  ·rename_i fs cs hu hcs
   split at hx
   ·rename_i fd hfd
    split at hx
    ·rename_i y hp
     cases hx
     obtain ⟨ys, h1, h2⟩ := hsl x (by rw [ho]; simp [Op.operands]) _ hcs
     have hex : execOp σ o = toNext (Instr.field t (σ x) f) := by unfold execOp; rw [ho]; rfl
     have key : ∃ y', (part fd.type ys.toArray fd.offset).run P w = .ok y' w ∧ relW π I y y' := by
      unfold partA at hp
      split at hp
      ·rename_i n hag hn
       cases hb : Nat.ble (fd.offset + n) cs.length with
       | false => rw [hb] at hp; cases hp
       | true =>
        rw [hb] at hp
        injection hp with hp
        subst hp
        obtain ⟨dd, hud, hd⟩ := aggT_true hag
        obtain ⟨i, hi, hs⟩ := Option.map_eq_some_iff.1 (szT_info hn)
        have hisagg : (isAgg fd.type).run P w = .ok true w := by
         unfold isAgg
         rw [Sem.run_bind, run_underlying hud w]
         cases dd <;> simp_all
        refine ⟨.agg ((ys.drop fd.offset).take n).toArray, ?_, _, rfl, (h2.drop _).take _⟩
        simp [part, hisagg, sizeOf, typeInfo, hi, hs]
      ·rename_i hf _ hag
       split at hp
       ·rename_i a hc
        injection hp with hp
        subst hp
        obtain ⟨y', hy, hry⟩ := h2.get hc
        refine ⟨y', ?_, hry⟩
        simp [part, aggT_false hag, hy]
       ·cases hp
      ·cases hp
     obtain ⟨y', h3, h4⟩ := key
     rw [hex]
     refine Does.val (y := y') (w' := w) ?_ (Post.here h h4)
     rw [h1]
     simp [Instr.field, run_underlying hu, hfd, asAgg, h3]
    ·cases hx
   ·cases hx
  ·cases hx
 ·-- index
  rename_i t x i ho
  split at hx
  ·rename_i s n hu hs hi
   obtain ⟨k, hk⟩ := hint i (by rw [ho]; simp [Op.operands]) _ hi
   have hs := (hac x (by rw [ho]; simp [Op.operands]) _ hs).1
   generalize hb : inb n s.size = b at hx
   cases hx with
   | chk hx =>
   cases hx
   obtain ⟨h0, h1⟩ := inb_spec hb
   have hex : execOp σ o = toNext (Instr.index t (σ x) (σ i)) := by unfold execOp; rw [ho]; rfl
   rw [hex, hk, hs]
   refine Does.val (y := .int .u8 (sb s n)) (w' := w) ?_ (Post.here h ⟨rfl, rfl⟩)
   have h2 : n.toNat < s.size := by omega
   have h3 : s[n.toNat]? = some s[n.toNat] := getElem?_pos s n.toNat h2
   simp [Instr.index, asIntOf, run_underlying hu, h0, h3, sb]
  ·cases hx
 ·-- lookup
  rename_i t x i ok ho
  split at hx
  ·rename_i a ki n ha hi
   have hk : σ i = .int ki n := (hac i (by rw [ho]; simp [Op.operands]) _ hi).1
   have hex : execOp σ o = toNext (Instr.lookup t (σ x) (σ i) ok) := by unfold execOp; rw [ho]; rfl
   rw [hex, hk]
   exact lookA_ok h (hac x (by rw [ho]; simp [Op.operands]) _ ha) hx
  ·cases hx
 ·-- extract
  rename_i x i ho
  split at hx
  ·rename_i l hl
   split at hx
   ·rename_i y hy
    cases hx
    obtain ⟨ys, h1, h2⟩ := hsl x (by rw [ho]; simp [Op.operands]) _ hl
    obtain ⟨y', h3, h4⟩ := h2.get hy
    have hex : execOp σ o = toNext (Instr.extract (σ x) i) := by unfold execOp; rw [ho]; rfl
    rw [hex]
    refine Does.val (y := y') (w' := w) ?_ (Post.here h h4)
    rw [h1]
    simp [Instr.extract, h3]
   ·cases hx
  ·cases hx
 ·-- nilCheck
  rename_i x ho
  have hm : x ∈ o.op.operands := by rw [ho]; simp [Op.operands]
  split at hx
  ·rename_i q off ha
   cases hx
   obtain ⟨p, g, h1, h2, h3⟩ := hac x hm _ ha
   have hex : execOp σ o = pure (.value (σ x)) := by unfold execOp; rw [ho]; simp only [h3]
   rw [hex]
   exact Does.pure (Post.here h (hac x hm _ ha))
  ·rename_i c z off ha
   cases hx
   obtain ⟨g, q, cs, h3, _⟩ := hac x hm _ ha
   have hex : execOp σ o = pure (.value (σ x)) := by unfold execOp; rw [ho]; simp only [h3]
   rw [hex]
   exact Does.pure (Post.here h (hac x hm _ ha))
  ·rename_i q z i off ha
   cases hx
   obtain ⟨p, g, h1, h2, _, h3⟩ := hac x hm _ ha
   have hex : execOp σ o = pure (.value (σ x)) := by unfold execOp; rw [ho]; simp only [h3]
   rw [hex]
   exact Does.pure (Post.here h (hac x hm _ ha))
  ·rename_i f a b ha
   split at hx
   ·rename_i g
    cases hx
    obtain ⟨xs, ys, h3, _⟩ := hac x hm _ ha
    have hex : execOp σ o = pure (.value (σ x)) := by unfold execOp; rw [ho]; simp only [h3]
    rw [hex]
    exact Does.pure (Post.here h (hac x hm _ ha))
   ·cases hx
  ·exact scal hx
 ·-- build
  rename_i t ps ho
  have hmem : ∀ p ∈ ps.toList, p.2 ∈ o.op.operands := fun p hp => by rw [ho]; simp only [Op.operands, List.mem_toArray, List.mem_map]; exact ⟨p, hp, rfl⟩
  have hpr : rl (fun p q => p.1 = q.1 ∧ ∃ av, p.2 = some av ∧ relV π I av q.2) (ps.toList.map fun p => (p.1, sl p.2)) (ps.toList.map fun p => (p.1, σ p.2)) := by
   have hx2 := hx
   unfold buildA at hx2
   split at hx2
   ·split at hx2
    ·rename_i cs hf
     exact parts_ok (fun p hp => hsl _ (hmem p hp)) hf
    ·cases hx2
   ·cases hx2
  obtain ⟨rfl, y, h1, h2⟩ := buildA_ok (w := w) (vs := ps.map fun (i, x) => (i, σ x)) (by simpa using hpr) hx
  have hex : execOp σ o = toNext (Instr.build t (ps.map fun (i, x) => (i, σ x))) := by unfold execOp; rw [ho]; rfl
  rw [hex]
  exact Does.val h1 (Post.here h h2)
 ·-- buildSlice
  rename_i t n ps ho
  have hmem : ∀ p ∈ ps.toList, p.2 ∈ o.op.operands := fun p hp => by rw [ho]; simp only [Op.operands, List.mem_toArray, List.mem_map]; exact ⟨p, hp, rfl⟩
  have hpr : rl (fun p q => p.1 = q.1 ∧ ∃ av, p.2 = some av ∧ relV π I av q.2) (ps.toList.map fun p => (p.1, sl p.2)) (ps.toList.map fun p => (p.1, σ p.2)) := by
   have hx2 := hx
   unfold bslA at hx2
   split at hx2
   ·split at hx2
    ·split at hx2
     ·rename_i cs hf
      exact parts_ok (fun p hp => hsl _ (hmem p hp)) hf
     ·cases hx2
    ·split at hx2
     ·rename_i cs hf
      exact parts_ok (fun p hp => hsl _ (hmem p hp)) hf
     ·cases hx2
    ·cases hx2
   ·cases hx2
  obtain ⟨y, w', h1, h2⟩ := bslA_ok (P := P) h (vs := ps.map fun (i, x) => (i, σ x)) (by simpa using hpr) hx
  have hex : execOp σ o = toNext (Instr.buildSlice t n (ps.map fun (i, x) => (i, σ x))) := by unfold execOp; rw [ho]; rfl
  rw [hex]
  exact Does.val h1 h2
 ·-- makeSlice
  rename_i t l c ho
  split at hx
  ·rename_i l' c' hl hc
   obtain ⟨kl, h1⟩ := hint l (by rw [ho]; simp [Op.operands]) _ hl
   obtain ⟨kc, h2⟩ := hint c (by rw [ho]; simp [Op.operands]) _ hc
   obtain ⟨y, w', h3, h4⟩ := mkA_ok (P := P) (kl := kl) (kc := kc) h hx
   have hex : execOp σ o = toNext (Instr.makeSlice t (σ l) (σ c)) := by unfold execOp; rw [ho]; rfl
   rw [hex, h1, h2]
   exact Does.val h3 h4
  ·cases hx
 ·-- makeFunc
  rename_i fn a b ho
  split at hx
  ·rename_i a' b' ha hb
   cases hx
   have h1 := ptrs_ok (σ := σ) (fun x hx => hsl x (by rw [ho]; simp only [Op.operands, Array.mem_append]; exact .inl (by simpa using hx))) ha
   have h2 := ptrs_ok (σ := σ) (fun x hx => hsl x (by rw [ho]; simp only [Op.operands, Array.mem_append]; exact .inr (by simpa using hx))) hb
   have hex : execOp σ o = toNext (Instr.makeFunc fn (a.map σ) (b.map σ)) := by unfold execOp; rw [ho]; rfl
   rw [hex]
   refine Does.val (y := .func fn (a.map σ) (b.map σ)) (w' := w) rfl (Post.here h ⟨_, _, ?_, h1, h2⟩)
   simp only [Value.func.injEq, true_and]
   constructor <;> (apply Array.ext'; simp)
  ·cases hx
 ·-- slice
  rename_i t x lo hi mx ho
  split at hx
  ·rename_i a ha
   split at hx
   ·rename_i lo' hi' mx' hlo hhi hmx
    have num : ∀ (y : Option Operand) r, (∀ z, y = some z → z ∈ o.op.operands) → numA sl y = some r → optInt r (y.map σ) := by
     intro y r hm hr
     cases y with
     | none =>
      simp only [numA, Option.some.injEq] at hr
      subst hr
      trivial
     | some z =>
      simp only [numA] at hr
      split at hr
      ·rename_i i hi
       injection hr with hr
       subst hr
       exact hint z (hm z rfl) i hi
      ·cases hr
    obtain ⟨y, J, h1, h2, h3, h4⟩ := slcA_ok h (hac x (by rw [ho]; simp [Op.operands]) _ ha) (num lo lo' (fun z hz => by rw [ho]; simp [Op.operands, hz]) hlo) (num hi hi' (fun z hz => by rw [ho]; simp [Op.operands, hz]) hhi) (num mx mx' (fun z hz => by rw [ho]; simp [Op.operands, hz]) hmx) hx
    have hex : execOp σ o = toNext (Instr.sliceAt t (σ x) (lo.map σ) (hi.map σ) (mx.map σ)) := by unfold execOp; rw [ho]; rfl
    rw [hex]
    exact Does.val h1 ⟨π, J, Pi.le_refl _, h2, h3, h4⟩
   ·cases hx
  ·cases hx
 ·-- binOp
  rename_i op t x y t2 ho
  have hmx : x ∈ o.op.operands := by rw [ho]; simp [Op.operands]
  have hmy : y ∈ o.op.operands := by rw [ho]; simp [Op.operands]
  split at hx
  ·rename_i k a k' b hxa hyb
   have h1 := (hac x hmx _ hxa).1
   have h2 := (hac y hmy _ hyb).1
   generalize hk : (k == k') = kb at hx
   cases kb with
   | false => cases hx
   | true =>
   simp only [cond_true] at hx
   have hk : k = k' := by simpa using hk
   subst hk
   generalize hb : (!decide (b = 0)) = nb2 at hx
   cases hx with
   | chk hx =>
   cases hx
   have hb : b ≠ 0 := by simpa using hb
   refine .inl ⟨_, w, .inl ?_, Post.here h ⟨rfl, rfl⟩⟩
   unfold execOp
   rw [ho]
   simp [h1, h2, eqGuard, binOp, Op.intDiv, hb]
  ·rename_i k a k' b hxa hyb
   have h1 := (hac x hmx _ hxa).1
   have h2 := (hac y hmy _ hyb).1
   generalize hk : (k == k') = kb at hx
   cases kb with
   | false => cases hx
   | true =>
   simp only [cond_true] at hx
   have hk : k = k' := by simpa using hk
   subst hk
   generalize hb : (!decide (b = 0)) = nb2 at hx
   cases hx with
   | chk hx =>
   cases hx
   have hb : b ≠ 0 := by simpa using hb
   refine .inl ⟨_, w, .inl ?_, Post.here h ⟨rfl, rfl⟩⟩
   unfold execOp
   rw [ho]
   simp [h1, h2, eqGuard, binOp, Op.intDiv, hb]
  ·rename_i k a k' b hxa hyb
   have h1 := (hac x hmx _ hxa).1
   have h2 := (hac y hmy _ hyb).1
   generalize hb : decide (0 ≤ b) = nb2 at hx
   cases hx with
   | chk hx =>
   cases hx
   have hb : ¬ b < 0 := by have := of_decide_eq_true hb; omega
   refine .inl ⟨_, w, .inl ?_, Post.here h ⟨rfl, rfl⟩⟩
   unfold execOp
   rw [ho]
   simp [h1, h2, eqGuard, binOp, Op.shift, hb]
  ·rename_i k a k' b hxa hyb
   have h1 := (hac x hmx _ hxa).1
   have h2 := (hac y hmy _ hyb).1
   generalize hb : decide (0 ≤ b) = nb2 at hx
   cases hx with
   | chk hx =>
   cases hx
   have hb : ¬ b < 0 := by have := of_decide_eq_true hb; omega
   refine .inl ⟨_, w, .inl ?_, Post.here h ⟨rfl, rfl⟩⟩
   unfold execOp
   rw [ho]
   simp [h1, h2, eqGuard, binOp, Op.shift, hb]
  ·exact scal hx
 ·-- convert
  rename_i src dst x ho
  exact convA_ok h ho (hsl x (by rw [ho]; simp [Op.operands])) scal hx
 ·-- call
  rename_i c ho
  unfold callA at hx
  have hmem : ∀ x ∈ c.args.toList, x ∈ o.op.operands := fun x hx => by
   rw [ho]
   simp only [Op.operands, Call.operands, Array.mem_append]
   exact .inr (by simpa using hx)
  split at hx
  ·rename_i x t hcal hargs htys
   split at hx
   ·rename_i a ha
    obtain ⟨rfl, y, h1, h2⟩ := lenA_ok (ty := o.type) h (hac x (hmem x (by rw [hargs]; simp)) _ ha) hx
    refine .inl ⟨y, w, .inl ?_, Post.here h h2⟩
    have e1 : c.args = #[x] := by rw [← Array.toList_inj, hargs]
    have e2 : c.argTypes = #[t] := by rw [← Array.toList_inj, htys]
    unfold execOp
    rw [ho]
    simp [resolve, hcal, e1, e2, invoke, builtin, h1]
   ·cases hx
  ·rename_i d s t t' hcal hargs htys
   split at hx
   ·rename_i a b ha hb
    cases hq : Nat.beq t t' with
    | false => rw [hq] at hx; cases hx
    | true =>
    rw [hq] at hx
    have hq := Nat.eq_of_beq_eq_true hq
    subst hq
    simp only [cond_true] at hx
    obtain ⟨y, w', h1, h2⟩ := appA_ok (ty := o.type) h (hac d (hmem d (by rw [hargs]; simp)) _ ha) (hac s (hmem s (by rw [hargs]; simp)) _ hb) hx
    refine .inl ⟨y, w', .inl ?_, h2⟩
    have e1 : c.args = #[d, s] := by rw [← Array.toList_inj, hargs]
    have e2 : c.argTypes = #[t, t] := by rw [← Array.toList_inj, htys]
    unfold execOp
    rw [ho]
    simp [resolve, hcal, e1, e2, invoke, builtin, h1]
   ·cases hx
  ·rename_i f hcal
   split at hx
   ·rename_i g a b hf
    split at hx
    ·rename_i l hl
     cases he : enterOk P g (a.length + c.args.toList.length + b.length) with
     | false => rw [he] at hx; cases hx
     | true =>
     rw [he] at hx
     simp only [cond_true] at hx
     have hfm : f ∈ o.op.operands := by rw [ho]; simp [Op.operands, Call.operands, hcal]
     obtain ⟨xs, ys, h1, h2, h3⟩ := hac f hfm _ hf
     have hns := argSl_ok' hl
     have hrel : rl (fun a v => ∃ av, a = some av ∧ relV π I av v) (capA a ++ c.args.toList.map sl ++ capA b) (xs ++ c.args.toList.map σ ++ ys) := by
      refine ((capA_ok h2).app (sl_rel (fun x hx => hsl x (hmem x hx)) (fun x hx => hns _ ?_))).app (capA_ok h3)
      exact List.mem_append_left _ (List.mem_append_right _ (List.mem_map.2 ⟨x, hx, rfl⟩))
     refine .inr ⟨g, (xs ++ c.args.toList.map σ ++ ys).toArray, ?_, callTr_ok (fnsOf_ok hfns) h (fun fn hfn => ?_) ((argSl_len hl).trans (rl_len hrel)) (fun t av ht => ?_) hx⟩
     ·unfold execOp
      rw [ho]
      simp only [resolve, hcal, h1, Deferred.ofValue]
      show ((Pure.pure _ : Sem Deferred) >>= fun d => invoke d.target d.args).run P w = _
      simp only [Sem.run_bind, Sem.run_pure, Result.andThen_ok, invoke]
      rw [enter_ok he]
      congr 2
      apply Array.ext'
      simp
     ·have := enter_len he fn hfn
      rw [List.length_append, List.length_append, List.length_map, ← h2.len, ← h3.len]
      exact this
     ·obtain ⟨_, v', k1, k2⟩ := argSl_ok hl hrel t av ht
      exact ⟨v', k1, k2⟩
    ·cases hx
   ·cases hx
  ·exact scal hx
 ·exact scal hx
end
end Go.Proofs.YtfecniimkgkmfaaGreat.AM
namespace Go.Proofs.YtfecniimkgkmfaaGreat.AM
open Go Go.RowKit Go.Proofs.YtfecniimkgkmfaaGreat.RW

section
variable {ρ β : Type} {P : Program} {B : Base} {I : Imm} {π : Pi} {w : World}

/-- The run of told steps: it comes to an end, and what comes behind goes on. -/
theorem Tr.run_ex {m : AMem} : ∀ {t : Tr ρ} {rs : List Nat} {κ : ρ → AMem → List Nat → Option β} {r : β}, t.run m rs κ = some r → ∃ v ws rs', Tr.Ex m t v ws rs' ∧ κ v ws (rs'.reverse ++ rs) = some r := by
 intro t
 induction t with
 | ret v ws => intro rs κ r h; exact ⟨v, ws, [], .ret _ _, h⟩
 | look o k ih =>
  intro rs κ r h
  simp only [Tr.run] at h
  obtain ⟨v, ws, rs', h1, h2⟩ := ih _ h
  exact ⟨v, ws, o :: rs', .look h1, by simpa using h2⟩
 | chk b t ih =>
  intro rs κ r h
  cases b with
  | false => cases h
  | true =>
   simp only [Tr.run, cond_true] at h
   obtain ⟨v, ws, rs', h1, h2⟩ := ih h
   exact ⟨v, ws, rs', .chk h1, h2⟩
 | ite b t e iht ihe =>
  intro rs κ r h
  cases b with
  | false =>
   simp only [Tr.run, cond_false] at h
   obtain ⟨v, ws, rs', h1, h2⟩ := ihe h
   exact ⟨v, ws, rs', .iteF h1, h2⟩
  | true =>
   simp only [Tr.run, cond_true] at h
   obtain ⟨v, ws, rs', h1, h2⟩ := iht h
   exact ⟨v, ws, rs', .iteT h1, h2⟩
 | opt α x k ih =>
  intro rs κ r h
  simp only [Tr.run] at h
  obtain ⟨y, hy, h⟩ := Option.bind_eq_some_iff.1 h
  obtain ⟨v, ws, rs', h1, h2⟩ := ih y h
  exact ⟨v, ws, rs', .opt y hy h1, h2⟩
 | sum α β x k l ihk ihl =>
  intro rs κ r h
  cases x with
  | inl y =>
   simp only [Tr.run] at h
   obtain ⟨v, ws, rs', h1, h2⟩ := ihk y h
   exact ⟨v, ws, rs', .inl y h1, h2⟩
  | inr y =>
   simp only [Tr.run] at h
   obtain ⟨v, ws, rs', h1, h2⟩ := ihl y h
   exact ⟨v, ws, rs', .inr y h1, h2⟩
 | fail => intro rs κ r h; cases h
/-- What was not looked at doesn't matter. -/
theorem Tr.Ex.other {m m' : AMem} {t : Tr ρ} {v : ρ} {ws : AMem} {rs : List Nat} (h : Tr.Ex m t v ws rs) : (∀ o ∈ rs, lk m' o = lk m o) → Tr.Ex m' t v ws rs := by
 induction h with
 | ret r ws => intro _; exact .ret r ws
 | look h ih => intro hm; exact .look (by rw [hm _ List.mem_cons_self]; exact ih (fun o ho => hm o (List.mem_cons_of_mem _ ho)))
 | chk h ih => intro hm; exact .chk (ih hm)
 | iteT h ih => intro hm; exact .iteT (ih hm)
 | iteF h ih => intro hm; exact .iteF (ih hm)
 | opt y hx h ih => intro hm; exact .opt y hx (ih hm)
 | inl y h ih => intro hm; exact .inl y (ih hm)
 | inr y h ih => intro hm; exact .inr y (ih hm)

/-- What is told of a frame's slots. -/
def SlR (π : Pi) (I : Imm) (sl : ASl) (a : Act) : Prop := ∀ t av, lk sl t = some av → ∃ y, a.tmps[t]? = some y ∧ relV π I av y
theorem SlR.ext {π π' : Pi} {I J : Imm} {sl : ASl} {a : Act} (hπ : π.le π') (hI : I.le J) (h : SlR π I sl a) : SlR π' J sl a := fun t av ht => by
 obtain ⟨y, h1, h2⟩ := h t av ht
 exact ⟨y, h1, h2.ext hπ hI⟩
theorem SlR.congr {sl sl' : ASl} {a : Act} (h : SlR π I sl a) (e : ∀ x, lk sl' x = lk sl x) : SlR π I sl' a := fun t av ht => h t av (by rw [← e]; exact ht)
def consD (d : Option Tmp) (v : AV) (sl : ASl) : ASl := match d with | none => sl | some d => (d, v) :: sl
theorem SlR.put {sl : ASl} {a : Act} {d : Option Tmp} {v : AV} {y : Value} (h : SlR π I sl a) (hv : relV π I v y) (hd : ∀ t, d = some t → t < a.tmps.size) : SlR π I (consD d v sl) (a.put d y) := by
 cases d with
 | none => exact h
 | some d =>
  intro t av ht
  simp only [consD] at ht
  rw [lk_cons] at ht
  split at ht
  ·rename_i e
   subst e
   injection ht with ht
   subst ht
   refine ⟨y, ?_, hv⟩
   simp only [Act.put]
   rw [Array.getElem?_setIfInBounds_self_of_lt (hd d rfl)]
  ·rename_i e
   obtain ⟨y', h1, h2⟩ := h t av ht
   refine ⟨y', ?_, h2⟩
   simp only [Act.put]
   rw [Array.getElem?_setIfInBounds_ne e]
   exact h1
theorem put_size (a : Act) (d : Option Tmp) (y : Value) : (a.put d y).tmps.size = a.tmps.size := by cases d <;> simp [Act.put]
theorem put_defers (a : Act) (d : Option Tmp) (y : Value) : (a.put d y).defers = a.defers := by cases d <;> rfl
theorem put_other (a : Act) {d : Option Tmp} (y : Value) {t : Nat} (h : d ≠ some t) : (a.put d y).tmps[t]? = a.tmps[t]? := by
 cases d with
 | none => rfl
 | some d =>
  simp only [Act.put]
  rw [Array.getElem?_setIfInBounds_ne (fun e => h (by rw [e]))]
theorem SlR.eval {sl : ASl} {a : Act} (h : SlR π I sl a) (x : Operand) (av : AV) (hx : evA sl x = some av) : relV π I av (a.eval x) := by
 cases x with
 | tmp t =>
  obtain ⟨y, h1, h2⟩ := h t av hx
  simp only [Act.eval]
  rw [Array.getD_eq_getD_getElem?, h1]
  exact h2
 | const v =>
  simp only [evA] at hx
  cases hb : okV v with
  | false => rw [hb] at hx; cases hx
  | true =>
   rw [hb] at hx
   injection hx with hx
   subst hx
   exact rel_back hb
 | func f =>
  injection hx with hx
  subst hx
  exact ⟨[], [], rfl, trivial, trivial⟩
 | global g => cases hx
theorem evA_congr {sl sl' : ASl} {x : Operand} (h : ∀ t, x = .tmp t → lk sl' t = lk sl t) : evA sl' x = evA sl x := by
 cases x with
 | tmp t => exact h t rfl
 | _ => rfl
/-- From what an operation does to its rule. -/
theorem Does.wp {o : Oper} {a : Act} {N : Value → World → Prop} {K : Act → World → Prop} {Q : Exit → Act → World → Prop} (h : Does P (execOp a.eval o) w N) (k : ∀ y w', N y w' → K (a.put o.dst y) w') : o.wp P a w K Q := by
 unfold Oper.wp
 rcases h with ⟨y, w', hr, hN⟩ | ⟨f, xs, hr, hc⟩
 ·rcases hr with hr | ⟨hr, rfl⟩
  ·rw [hr, Oper.upon_value]; exact k y w' hN
  ·rw [hr, Oper.upon_skip]; exact k _ w' hN
 ·rw [hr, Oper.upon_enter]
  refine hc.mono ?_
  rintro e w' ⟨y, rfl, hN⟩
  exact k y w' hN
theorem wanted_bool {ops : List Oper} {o : Oper} {j : Nat} {want b : Bool} {q : Oper} {t : Tmp} {tmps : Array Value} (hg : o.guard = some (j, want)) (hq : ops[j]? = some q) (ht : q.dst = some t) (hs : tmps[t]? = some (.bool b)) : Region.wanted o (yielded ops.toArray tmps) = (b == want) := by
 unfold Region.wanted
 rw [hg]
 have hy : yielded ops.toArray tmps j = some b := by
  unfold yielded
  simp [hq, ht, hs]
 simp only [hy]
 cases b <;> cases want <;> rfl
theorem wanted_undef {ops : List Oper} {o : Oper} {j : Nat} {want : Bool} {q : Oper} {t : Tmp} {tmps : Array Value} {l : Array Value} (hg : o.guard = some (j, want)) (hq : ops[j]? = some q) (ht : q.dst = some t) (hs : tmps[t]? = some (.tuple l)) : Region.wanted o (yielded ops.toArray tmps) = false := by
 unfold Region.wanted
 rw [hg]
 have hy : yielded ops.toArray tmps j = none := by
  unfold yielded
  simp [hq, ht, hs]
 simp only [hy]
 rfl

/-! ### what the run in the text's order says of each operation -/
structure Rec where
 d : Option Tmp
 v : AV
 ws : AMem
 rs : List Nat
 ex : Bool
def accS (R : Nat → Rec) (sl0 : ASl) (D : Nat → Bool) : Nat → ASl
 | 0 => sl0
 | k + 1 => if D k = true then consD (R k).d (R k).v (accS R sl0 D k) else accS R sl0 D k
def accM (R : Nat → Rec) (m0 : AMem) (D : Nat → Bool) : Nat → AMem
 | 0 => m0
 | k + 1 => if D k = true then (R k).ws ++ accM R m0 D k else accM R m0 D k
def allD : Nat → Bool := fun _ => true
theorem accS_congr {R R' : Nat → Rec} {sl0 : ASl} {D D' : Nat → Bool} : ∀ k, (∀ j, j < k → R j = R' j) → (∀ j, j < k → D j = D' j) → accS R sl0 D k = accS R' sl0 D' k
 | 0, _, _ => rfl
 | k + 1, h, hD => by simp only [accS]; rw [accS_congr k (fun j hj => h j (by omega)) (fun j hj => hD j (by omega)), h k (by omega), hD k (by omega)]
theorem accM_congr {R R' : Nat → Rec} {m0 : AMem} {D D' : Nat → Bool} : ∀ k, (∀ j, j < k → R j = R' j) → (∀ j, j < k → D j = D' j) → accM R m0 D k = accM R' m0 D' k
 | 0, _, _ => rfl
 | k + 1, h, hD => by simp only [accM]; rw [accM_congr k (fun j hj => h j (by omega)) (fun j hj => hD j (by omega)), h k (by omega), hD k (by omega)]

structure RecOK (E : Env) (ops : List Oper) (base : Nat) (R : Nat → Rec) (sl0 : ASl) (m0 : AMem) (i : Nat) (o : Oper) : Prop where
 op : ops[i]? = some o
 dst : (R i).d = o.dst
 dlt : ∀ d, o.dst = some d → d < E.n
 gnone : o.guard = none → (R i).ex = true
 gsome : ∀ j want, o.guard = some (j, want) → ∃ q t, ops[j]? = some q ∧ q.dst = some t ∧ ((∃ b, lk (accS R sl0 allD i) t = some (ac (.v (.bool b))) ∧ (R i).ex = (b == want)) ∨ (lk (accS R sl0 allD i) t = some (.tup []) ∧ (R i).ex = false))
 run : (R i).ex = true → Tr.Ex (accM R m0 allD i) (aop E.P E.fns (evA (accS R sl0 allD i)) o (base + 64 * i)) (R i).v (R i).ws (R i).rs
 skp : (R i).ex = false → (R i).v = undefA ∧ (R i).ws = []
theorem RecOK.congr {E : Env} {ops : List Oper} {base : Nat} {R R' : Nat → Rec} {sl0 : ASl} {m0 : AMem} {i : Nat} {o : Oper} (h : RecOK E ops base R sl0 m0 i o) (e : ∀ j, j ≤ i → R j = R' j) : RecOK E ops base R' sl0 m0 i o := by
 have e1 : accS R' sl0 allD i = accS R sl0 allD i := accS_congr i (fun j hj => (e j (by omega)).symm) (fun _ _ => rfl)
 have e2 : accM R' m0 allD i = accM R m0 allD i := accM_congr i (fun j hj => (e j (by omega)).symm) (fun _ _ => rfl)
 have e3 := e i (Nat.le_refl _)
 exact ⟨h.op, by rw [← e3]; exact h.dst, h.dlt, by rw [← e3]; exact h.gnone, by rw [← e3, e1]; exact h.gsome, by rw [← e3, e1, e2]; exact h.run, by rw [← e3]; exact h.skp⟩
/-- What the log keeps. -/
def LgOf (R : Nat → Rec) (lg : Lg) (n : Nat) : Prop := ∀ j, j < n → (R j).ex = true → (j, (R j).rs.reverse, (R j).ws.map (·.1)) ∈ lg

theorem putA_some {E : Env} {sl : ASl} {d : Option Tmp} {v : AV} {k : ASl → Option β} {r : β} (h : putA E sl d v k = some r) : (∀ t, d = some t → t < E.n) ∧ k (consD d v sl) = some r := by
 cases d with
 | none => exact ⟨fun t e => by (cases e), h⟩
 | some d =>
  simp only [putA] at h
  cases hb : Nat.blt d E.n with
  | false => rw [hb] at h; cases h
  | true =>
   rw [hb] at h
   refine ⟨fun t e => ?_, h⟩
   injection e with e
   subst e
   exact Nat.le_of_ble_eq_true hb
theorem consD_lk {d : Option Tmp} {v : AV} {sl sl' : ASl} (h : ∀ x, lk sl x = lk sl' x) (x : Nat) : lk (consD d v sl) x = lk (consD d v sl') x := by
 cases d with
 | none => exact h x
 | some d => simp only [consD]; rw [lk_cons, lk_cons, h x]
theorem lk_app_congr {m m' ws : AMem} (h : ∀ o, lk m o = lk m' o) (o : Nat) : lk (ws ++ m) o = lk (ws ++ m') o := by rw [lk_append, lk_append, h o]

theorem runOps_tr {E : Env} {ops : List Oper} {base : Nat} {sl0 : ASl} {m0 : AMem} {κ : ASl → AMem → Lg → Option β} {r : β} : ∀ (l : List Oper) (i : Nat) (sl : ASl) (m : AMem) (lg : Lg) (R : Nat → Rec), i ≤ ops.length → l = ops.drop i →
  (∀ x, lk sl x = lk (accS R sl0 allD i) x) → (∀ o, lk m o = lk (accM R m0 allD i) o) → (∀ j, j < i → ∃ o, RecOK E ops base R sl0 m0 j o) → LgOf R lg i → runOps E ops base l i sl m lg κ = some r →
  ∃ R' slF mF lgF, (∀ x, lk slF x = lk (accS R' sl0 allD ops.length) x) ∧ (∀ o, lk mF o = lk (accM R' m0 allD ops.length) o) ∧ (∀ j, j < ops.length → ∃ o, RecOK E ops base R' sl0 m0 j o) ∧ LgOf R' lgF ops.length ∧ κ slF mF lgF = some r := by
 intro l
 induction l with
 | nil =>
  intro i sl m lg R hle hl hs hm hR hlg h
  have hi : ops.length ≤ i := by simpa using hl.symm
  obtain rfl : i = ops.length := by omega
  exact ⟨R, sl, m, lg, hs, hm, hR, hlg, h⟩
 | cons o rest ih =>
  intro i sl m lg R hle hl hs hm hR hlg h
  have hil : i < ops.length := by
   have := congrArg List.length hl
   simp at this
   omega
  have hoi : ops[i]? = some o := by
   rw [List.drop_eq_getElem_cons hil] at hl
   injection hl with h1 h2
   rw [List.getElem?_eq_getElem hil, ← h1]
  have hrest : rest = ops.drop (i + 1) := by
   rw [List.drop_eq_getElem_cons hil] at hl
   injection hl
  -- one step of whichever kind
  have step : ∀ (rec : Rec) (sl2 : ASl) (m2 : AMem) (lg2 : Lg), (let R2 : Nat → Rec := fun j => if j = i then rec else R j
    RecOK E ops base R2 sl0 m0 i o) → (∀ x, lk sl2 x = lk (consD rec.d rec.v sl) x) → (∀ o, lk m2 o = lk (rec.ws ++ m) o) → (∀ p ∈ lg, p ∈ lg2) → (rec.ex = true → (i, rec.rs.reverse, rec.ws.map (·.1)) ∈ lg2) → runOps E ops base rest (i + 1) sl2 m2 lg2 κ = some r →
    ∃ R' slF mF lgF, (∀ x, lk slF x = lk (accS R' sl0 allD ops.length) x) ∧ (∀ o, lk mF o = lk (accM R' m0 allD ops.length) o) ∧ (∀ j, j < ops.length → ∃ o, RecOK E ops base R' sl0 m0 j o) ∧ LgOf R' lgF ops.length ∧ κ slF mF lgF = some r := by
   intro rec sl2 m2 lg2 hrec hs2 hm2 hlg2 hlgi h2
   have hRlt : ∀ j, j < i → R j = (fun j => if j = i then rec else R j) j := fun j hj => by simp only; rw [if_neg (by omega)]
   refine ih (i + 1) sl2 m2 lg2 (fun j => if j = i then rec else R j) (by omega) hrest (fun x => ?_) (fun q => ?_) (fun j hj => ?_) (fun j hj hex => ?_) h2
   ·rw [hs2]
    simp only [accS, allD, if_true]
    rw [← accS_congr i hRlt (fun _ _ => rfl)]
    exact consD_lk hs x
   ·rw [hm2]
    simp only [accM, allD, if_true]
    rw [← accM_congr i hRlt (fun _ _ => rfl)]
    exact lk_app_congr hm q
   ·rcases Nat.lt_succ_iff_lt_or_eq.1 hj with hj | rfl
    ·obtain ⟨o', ho'⟩ := hR j hj
     exact ⟨o', ho'.congr (fun k hk => hRlt k (by omega))⟩
    ·exact ⟨o, hrec⟩
   ·simp only at hex ⊢
    rcases Nat.lt_succ_iff_lt_or_eq.1 hj with hj | rfl
    ·rw [if_neg (by omega)] at hex ⊢
     exact hlg2 _ (hlg j hj hex)
    ·rw [if_pos rfl] at hex ⊢
     exact hlgi hex
  have hev : ∀ (sl' : ASl), (∀ x, lk sl' x = lk sl x) → evA sl' = evA (accS R sl0 allD i) := fun sl' h' => by
   funext x
   exact evA_congr (fun t _ => by rw [h' t, hs t])
  have hacc : ∀ rec : Rec, accS (fun j => if j = i then rec else R j) sl0 allD i = accS R sl0 allD i := fun rec => accS_congr i (fun j hj => by rw [if_neg (by omega)]) (fun _ _ => rfl)
  have haccM : ∀ rec : Rec, accM (fun j => if j = i then rec else R j) m0 allD i = accM R m0 allD i := fun rec => accM_congr i (fun j hj => by rw [if_neg (by omega)]) (fun _ _ => rfl)
  have goS : ∀ (sl' : ASl) (hg1 : o.guard = none → true = true) (hg2 : ∀ j want, o.guard = some (j, want) → ∃ q t, ops[j]? = some q ∧ q.dst = some t ∧ ((∃ b, lk (accS R sl0 allD i) t = some (ac (.v (.bool b))) ∧ true = (b == want)) ∨ (lk (accS R sl0 allD i) t = some (.tup []) ∧ true = false))), (∀ x, lk sl' x = lk sl x) →
    ((aop E.P E.fns (evA sl') o (base + 64 * i)).run m [] fun v ws rs => putA E sl' o.dst v fun sl => runOps E ops base rest (i + 1) sl (ws ++ m) ((i, rs, ws.map (·.1)) :: lg) κ) = some r →
    ∃ R' slF mF lgF, (∀ x, lk slF x = lk (accS R' sl0 allD ops.length) x) ∧ (∀ o, lk mF o = lk (accM R' m0 allD ops.length) o) ∧ (∀ j, j < ops.length → ∃ o, RecOK E ops base R' sl0 m0 j o) ∧ LgOf R' lgF ops.length ∧ κ slF mF lgF = some r := by
   intro sl' hg1 hg2 hsl' h1
   obtain ⟨v, ws, rs, hex, h2⟩ := Tr.run_ex h1
   obtain ⟨hd, h3⟩ := putA_some h2
   refine step ⟨o.dst, v, ws, rs, true⟩ _ _ _ ⟨hoi, by simp, hd, by simp, ?_, ?_, by simp⟩ (fun x => consD_lk hsl' x) (fun _ => rfl) (fun p hp => List.mem_cons_of_mem _ hp) (fun _ => ?_) h3
   ·simpa only [hacc, if_true] using hg2
   ·intro _
    simp only [hacc, haccM, if_true]
    rw [hev sl' hsl'] at hex
    exact hex.other (fun q _ => (hm q).symm)
   ·simp
  have skS : ∀ (sl' : ASl) (hg1 : o.guard = none → false = true) (hg2 : ∀ j want, o.guard = some (j, want) → ∃ q t, ops[j]? = some q ∧ q.dst = some t ∧ ((∃ b, lk (accS R sl0 allD i) t = some (ac (.v (.bool b))) ∧ false = (b == want)) ∨ (lk (accS R sl0 allD i) t = some (.tup []) ∧ false = false))), (∀ x, lk sl' x = lk sl x) →
    (putA E sl' o.dst undefA fun sl => runOps E ops base rest (i + 1) sl m lg κ) = some r →
    ∃ R' slF mF lgF, (∀ x, lk slF x = lk (accS R' sl0 allD ops.length) x) ∧ (∀ o, lk mF o = lk (accM R' m0 allD ops.length) o) ∧ (∀ j, j < ops.length → ∃ o, RecOK E ops base R' sl0 m0 j o) ∧ LgOf R' lgF ops.length ∧ κ slF mF lgF = some r := by
   intro sl' hg1 hg2 hsl' h1
   obtain ⟨hd, h3⟩ := putA_some h1
   refine step ⟨o.dst, undefA, [], [], false⟩ _ _ _ ⟨hoi, by simp, hd, by simpa using hg1, ?_, by simp, by simp⟩ (fun x => consD_lk hsl' x) (fun _ => rfl) (fun p hp => hp) (fun e => by cases e) h3
   simpa only [hacc, if_true] using hg2
  simp only [runOps] at h
  split at h
  ·rename_i hg
   exact goS sl (fun _ => rfl) (fun j want e => by rw [hg] at e; cases e) (fun _ => rfl) h
  ·rename_i j want hg
   split at h
   ·cases h
   ·rename_i q hq
    split at h
    ·cases h
    ·rename_i t ht
     split at h
     ·rename_i b hb
      have hsame : ∀ bb : Bool, bb = b → ∀ x, lk ((t, ac (.v (.bool bb))) :: sl) x = lk sl x := fun bb e x => by
       rw [lk_cons]
       split
       ·rename_i e2; subst e2; rw [hb, e]; rfl
       ·rfl
      have hb' := hs t
      rw [hb] at hb'
      cases b with
      | true =>
       simp only [cond_true] at h
       cases want with
       | true => exact goS _ (fun _ => rfl) (fun j' want' e => by rw [hg] at e; injection e with e; injection e with e1 e2; subst e1; subst e2; exact ⟨q, t, hq, ht, .inl ⟨true, hb'.symm, rfl⟩⟩) (hsame true rfl) h
       | false => exact skS _ (fun e => by rw [hg] at e; cases e) (fun j' want' e => by rw [hg] at e; injection e with e; injection e with e1 e2; subst e1; subst e2; exact ⟨q, t, hq, ht, .inl ⟨true, hb'.symm, rfl⟩⟩) (hsame true rfl) h
      | false =>
       simp only [cond_false] at h
       cases want with
       | true => exact skS _ (fun e => by rw [hg] at e; cases e) (fun j' want' e => by rw [hg] at e; injection e with e; injection e with e1 e2; subst e1; subst e2; exact ⟨q, t, hq, ht, .inl ⟨false, hb'.symm, rfl⟩⟩) (hsame false rfl) h
       | false => exact goS _ (fun _ => rfl) (fun j' want' e => by rw [hg] at e; injection e with e; injection e with e1 e2; subst e1; subst e2; exact ⟨q, t, hq, ht, .inl ⟨false, hb'.symm, rfl⟩⟩) (hsame false rfl) h
     ·rename_i hb
      have hb' := hs t
      rw [hb] at hb'
      exact skS sl (fun e => by rw [hg] at e; cases e) (fun j' want' e => by rw [hg] at e; injection e with e; injection e with e1 e2; subst e1; subst e2; exact ⟨q, t, hq, ht, .inr ⟨hb'.symm, rfl⟩⟩) (fun _ => rfl) h
     ·cases h

/-! ### in the text's order -/
theorem seq_ok {E : Env} (hfns : ∀ g d, (g, d) ∈ E.fns → FunOK E.P g d) {ops : List Oper} {base : Nat} {κ : ASl → AMem → Lg → Option β} {r : β} {Q : Exit → Act → World → Prop} : ∀ (l : List Oper) (i : Nat) (sl : ASl) (m : AMem) (lg : Lg) (I : Imm) (π : Pi) (a : Act) (w : World), runOps E ops base l i sl m lg κ = some r →
  SlR π I sl a → SA B I π (lk m) w → a.tmps.size = E.n →
  (∀ sl' m' lg' I' π' a' w', κ sl' m' lg' = some r → π.le π' → I.le I' → SlR π' I' sl' a' → SA B I' π' (lk m') w' → a'.tmps.size = a.tmps.size → a'.defers = a.defers → (∀ t, (∀ o ∈ l, o.dst ≠ some t) → a'.tmps[t]? = a.tmps[t]?) → Q .normal a' w') → wpList E.P ops.toArray Q l a w := by
 intro l
 induction l with
 | nil =>
  intro i sl m lg I π a w h hs hm hn hk
  exact hk sl m lg I π a w h (Pi.le_refl _) (Imm.le_refl _) hs hm rfl rfl (fun _ _ => rfl)
 | cons o rest ih =>
  intro i sl m lg I π a w h hs hm hn hk
  -- behind the operation
  have next : ∀ (v : AV) (y : Value) (sl' : ASl) (ws : AMem) (lg' : Lg) (I' : Imm) (π' : Pi) (w' : World), (∀ x, lk sl' x = lk sl x) → (∀ t, o.dst = some t → t < E.n) → runOps E ops base rest (i + 1) (consD o.dst v sl') (ws ++ m) lg' κ = some r → π.le π' → I.le I' → SA B I' π' (lk (ws ++ m)) w' → relV π' I' v y → wpList E.P ops.toArray Q rest (a.put o.dst y) w' := by
   intro v y sl' ws lg' I' π' w' hsl hd h2 hπ hI hm' hv
   refine ih (i + 1) _ _ _ I' π' _ w' h2 (((hs.congr hsl).ext hπ hI).put hv (fun t e => by rw [hn]; exact hd t e)) hm' (by rw [put_size]; exact hn) (fun sl2 m2 lg2 I2 π2 a2 w2 k1 k2 k3 k4 k5 k6 k7 k8 => ?_)
   refine hk sl2 m2 lg2 I2 π2 a2 w2 k1 (Pi.le_trans hπ k2) (Imm.le_trans hI k3) k4 k5 (by rw [k6, put_size]) (by rw [k7, put_defers]) (fun t ht => ?_)
   rw [k8 t (fun o' ho' => ht o' (List.mem_cons_of_mem _ ho')), put_other a y (ht o List.mem_cons_self)]
  have goS : ∀ sl' : ASl, (∀ x, lk sl' x = lk sl x) → ((aop E.P E.fns (evA sl') o (base + 64 * i)).run m [] fun v ws rs => putA E sl' o.dst v fun sl => runOps E ops base rest (i + 1) sl (ws ++ m) ((i, rs, ws.map (·.1)) :: lg) κ) = some r → o.wp E.P a w (fun a' w' => wpList E.P ops.toArray Q rest a' w') Q := by
   intro sl' hsl h1
   obtain ⟨v, ws, rs, hex, h2⟩ := Tr.run_ex h1
   obtain ⟨hd, h3⟩ := putA_some h2
   refine Does.wp (aop_ok hfns hm (fun x _ av hx => (hs.congr hsl).eval x av hx) hex) (fun y w' ⟨π', I', k1, k2, k3, k4⟩ => ?_)
   exact next v y sl' ws _ I' π' w' hsl hd h3 k1 k2 k3 k4
  have skS : ∀ sl' : ASl, (∀ x, lk sl' x = lk sl x) → (putA E sl' o.dst undefA fun sl => runOps E ops base rest (i + 1) sl m lg κ) = some r → wpList E.P ops.toArray Q rest (a.put o.dst undef) w := by
   intro sl' hsl h1
   obtain ⟨hd, h3⟩ := putA_some h1
   exact next undefA undef sl' [] lg I π w hsl hd h3 (Pi.le_refl _) (Imm.le_refl _) hm ⟨[], rfl, trivial⟩
  simp only [wpList]
  simp only [runOps] at h
  split at h
  ·rename_i hg
   rw [if_pos (by unfold Region.wanted; rw [hg])]
   exact .inl (goS sl (fun _ => rfl) h)
  ·rename_i j want hg
   split at h
   ·cases h
   ·rename_i q hq
    split at h
    ·cases h
    ·rename_i t ht
     split at h
     ·rename_i b hb
      obtain ⟨y, hy, hrel⟩ := hs t _ hb
      have hy2 : a.tmps[t]? = some (.bool b) := by rw [hy, hrel.1]
      have hwant := wanted_bool hg hq ht hy2
      have hsame : ∀ bb : Bool, bb = b → ∀ x, lk ((t, ac (.v (.bool bb))) :: sl) x = lk sl x := fun bb e x => by
       rw [lk_cons]
       split
       ·rename_i e2; subst e2; rw [hb, e]; rfl
       ·rfl
      cases b with
      | true =>
       simp only [cond_true] at h
       cases want with
       | true => rw [if_pos (by rw [hwant]; rfl)]; exact .inl (goS _ (hsame true rfl) h)
       | false => rw [if_neg (by rw [hwant]; decide)]; exact skS _ (hsame true rfl) h
      | false =>
       simp only [cond_false] at h
       cases want with
       | true => rw [if_neg (by rw [hwant]; decide)]; exact skS _ (hsame false rfl) h
       | false => rw [if_pos (by rw [hwant]; rfl)]; exact .inl (goS _ (hsame false rfl) h)
     ·rename_i hb
      obtain ⟨y, hy, ys, hrel, _⟩ := hs t _ hb
      rw [hrel] at hy
      rw [if_neg (by rw [wanted_undef hg hq ht hy]; decide)]
      exact skS sl (fun _ => rfl) h
     ·cases h
end
end Go.Proofs.YtfecniimkgkmfaaGreat.AM
namespace Go.Proofs.YtfecniimkgkmfaaGreat.AM
open Go Go.RowKit Go.Proofs.YtfecniimkgkmfaaGreat.RW

section
variable {β : Type} {P : Program} {B : Base} {I : Imm} {π : Pi} {w : World}

theorem lk_consD {d : Option Tmp} {v : AV} {sl : ASl} {x : Nat} : lk (consD d v sl) x = if d = some x then some v else lk sl x := by
 cases d with
 | none => simp [consD]
 | some d =>
  simp only [consD]
  rw [lk_cons]
  by_cases h : d = x
  ·rw [if_pos h, if_pos (by rw [h])]
  ·rw [if_neg h, if_neg (fun e => h (by injection e))]
theorem lk_keys {l : AMem} {q : Nat} (h : q ∉ l.map (·.1)) : lk l q = none := by
 induction l with
 | nil => rfl
 | cons p l ih =>
  obtain ⟨j, a⟩ := p
  simp only [List.map_cons, List.mem_cons, not_or] at h
  rw [lk_cons, if_neg (fun e => h.1 e.symm)]
  exact ih h.2
theorem any_mem {l : List Nat} {q : Nat} (h : l.any (Nat.beq q) = false) : q ∉ l := by
 intro hm
 rw [List.any_eq_false] at h
 exact h q hm (by simp)

structure Drw (E : Env) (ops : List Oper) (base : Nat) (R : Nat → Rec) (sl0 : ASl) (m0 : AMem) : Prop where
 ok : ∀ j, j < ops.length → ∃ o, RecOK E ops base R sl0 m0 j o
 rd : ∀ i o, ops[i]? = some o → readsOk ops (ancs ops []) ops.length i o = true
 low : ∀ i o, ops[i]? = some o → ∀ e ∈ o.after, Region.binds .any e = true → e.on < i
 dst : ∀ i j, i < ops.length → j < ops.length → i ≠ j → ∀ d, (R i).d = some d → (R j).d ≠ some d
 conf : ∀ i j, i < ops.length → j < i → (R i).ex = true → (R j).ex = true → behind (ancs ops []) i j = true ∨ ((∀ q ∈ (R i).ws.map (·.1), q ∉ (R j).rs ∧ q ∉ (R j).ws.map (·.1)) ∧ ∀ q ∈ (R j).ws.map (·.1), q ∉ (R i).rs)

theorem Drw.of {E : Env} {ops : List Oper} {base : Nat} {R : Nat → Rec} {sl0 : ASl} {m0 : AMem} {lg : Lg} (hok : ∀ j, j < ops.length → ∃ o, RecOK E ops base R sl0 m0 j o) (hlg : LgOf R lg ops.length) (hd : drawOk ops (ancs ops []) ops.length = true) (hl : lgOk ops lg = true) : Drw E ops base R sl0 m0 := by
 unfold drawOk at hd
 simp only [Bool.and_eq_true, decide_eq_true_eq, List.all_eq_true, List.mem_range] at hd
 obtain ⟨⟨⟨_, hops⟩, hdst⟩, _⟩ := hd
 have hop : ∀ i o, ops[i]? = some o → readsOk ops (ancs ops []) ops.length i o = true ∧ ∀ e ∈ o.after, Region.binds .any e = true → e.on < i := fun i o ho => by
  have := hops i (List.getElem?_eq_some_iff.1 ho).1
  rw [ho] at this
  simp only [Bool.and_eq_true, List.all_eq_true, Bool.or_eq_true, Bool.not_eq_true', decide_eq_true_eq] at this
  refine ⟨this.1.1, fun e he hb => ?_⟩
  rcases this.2 e (by simpa using he) with h1 | h1
  ·rw [hb] at h1; cases h1
  ·exact h1
 refine ⟨hok, fun i o ho => (hop i o ho).1, fun i o ho => (hop i o ho).2, fun i j hi hj hne d hdi hdj => ?_, fun i j hi hji hei hej => ?_⟩
 ·obtain ⟨o, ho⟩ := hok i hi
  obtain ⟨o', ho'⟩ := hok j hj
  unfold dstsOk at hdst
  simp only [List.all_eq_true, List.mem_range, Bool.or_eq_true, beq_iff_eq, bne_iff_ne] at hdst
  have h1 : dstOf ops i = some d := by unfold dstOf; rw [ho.op]; show o.dst = some d; rw [← ho.dst]; exact hdi
  have h2 : dstOf ops j = some d := by unfold dstOf; rw [ho'.op]; show o'.dst = some d; rw [← ho'.dst]; exact hdj
  rcases hdst i hi j hj with (h3 | h3) | h3
  ·exact hne h3
  ·rw [h1] at h3; cases h3
  ·exact h3 (h1.trans h2.symm)
 ·have h1 := hlg i hi hei
  have h2 := hlg j (by omega) hej
  unfold lgOk at hl
  simp only [List.all_eq_true] at hl
  have h3 := hl _ h2 _ h1
  rw [show Nat.blt j i = true from Nat.ble_eq_true_of_le hji] at h3
  simp only [cond_true, Bool.or_eq_true, Bool.and_eq_true, List.all_eq_true, Bool.not_eq_true'] at h3
  rcases h3 with h3 | ⟨h3, h4⟩
  ·exact .inl h3
  ·refine .inr ⟨fun q hq => ?_, fun q hq => ?_⟩
   ·have := h3 q hq
    refine ⟨fun hm => any_mem this.1 (by simpa using hm), any_mem this.2⟩
   ·exact fun hm => any_mem (h4 q hq) (by simpa using hm)

section
variable {E : Env} {ops : List Oper} {base : Nat} {R : Nat → Rec} {sl0 : ASl} {m0 : AMem} (H : Drw E ops base R sl0 m0) {D : Nat → Bool} {i : Nat} {o : Oper}
include H
theorem Drw.slot (ho : ops[i]? = some o) (_ : D i = false) (hb : ∀ j, behind (ancs ops []) i j = true → D j = true) (hf : ∀ j, j < ops.length → behind (ancs ops []) j i = true → D j = false) {x : Nat} (hx : x ∈ readTmps ops o) : lk (accS R sl0 D ops.length) x = lk (accS R sl0 allD i) x := by
 have hil : i < ops.length := (List.getElem?_eq_some_iff.1 ho).1
 have hr := H.rd i o ho
 unfold readsOk at hr
 rw [List.all_eq_true] at hr
 have hrx := hr x hx
 rw [List.all_eq_true] at hrx
 have key : ∀ k, k ≤ ops.length → lk (accS R sl0 D k) x = lk (accS R sl0 allD (min k i)) x := by
  intro k
  induction k with
  | zero => intro _; rw [Nat.zero_min]; rfl
  | succ k ih =>
   intro hk
   have ihk := ih (by omega)
   obtain ⟨ok, hok⟩ := H.ok k (by omega)
   have hdk : dstOf ops k = (R k).d := by unfold dstOf; rw [hok.op]; exact hok.dst.symm
   have h1 := hrx k (List.mem_range.2 (by omega))
   simp only [accS]
   by_cases hki : k < i
   ·rw [show min (k + 1) i = k + 1 by omega]
    rw [show min k i = k by omega] at ihk
    simp only [accS, allD, if_true]
    rw [lk_consD]
    by_cases hd : (R k).d = some x
    ·rw [hdk, hd] at h1
     simp only [bne_self_eq_false, Bool.false_or, if_pos hki] at h1
     rw [if_pos (hb k h1), lk_consD, if_pos hd, if_pos hd]
    ·rw [if_neg hd]
     split
     ·rw [lk_consD, if_neg hd]; exact ihk
     ·exact ihk
   ·rw [show min (k + 1) i = i by omega]
    rw [show min k i = i by omega] at ihk
    by_cases hd : (R k).d = some x
    ·rw [hdk, hd] at h1
     simp only [bne_self_eq_false, Bool.false_or, if_neg hki] at h1
     rw [if_neg (by rw [hf k (by omega) h1]; decide)]
     exact ihk
    ·split
     ·rw [lk_consD, if_neg hd]; exact ihk
     ·exact ihk
 have := key ops.length (Nat.le_refl _)
 rwa [show min ops.length i = i by omega] at this
theorem Drw.wsNone {k : Nat} (hk : k < ops.length) (h : (R k).ex = false) : (R k).ws = [] := by
 obtain ⟨ok, hok⟩ := H.ok k hk
 exact (hok.skp h).2
theorem Drw.mem (hil : i < ops.length) (hi : D i = false) (hex : (R i).ex = true) (hb : ∀ j, behind (ancs ops []) i j = true → D j = true) (hf : ∀ j, j < ops.length → behind (ancs ops []) j i = true → D j = false) {q : Nat} (hq : q ∈ (R i).rs) : lk (accM R m0 D ops.length) q = lk (accM R m0 allD i) q := by
 have key : ∀ k, k ≤ ops.length → lk (accM R m0 D k) q = lk (accM R m0 allD (min k i)) q := by
  intro k
  induction k with
  | zero => intro _; rw [Nat.zero_min]; rfl
  | succ k ih =>
   intro hk
   have ihk := ih (by omega)
   simp only [accM]
   by_cases hki : k < i
   ·rw [show min (k + 1) i = k + 1 by omega]
    rw [show min k i = k by omega] at ihk
    simp only [accM, allD, if_true]
    rw [lk_append]
    by_cases hm : q ∈ (R k).ws.map (·.1)
    ·have hek : (R k).ex = true := by
      cases he : (R k).ex with
      | true => rfl
      | false => rw [H.wsNone (by omega) he] at hm; simp at hm
     rcases H.conf i k hil hki hex hek with h1 | ⟨_, h1⟩
     ·rw [if_pos (hb k h1), lk_append, ihk]
     ·exact absurd hq (h1 q hm)
    ·rw [lk_keys hm]
     split
     ·rw [lk_append, lk_keys hm]; exact ihk
     ·exact ihk
   ·rw [show min (k + 1) i = i by omega]
    rw [show min k i = i by omega] at ihk
    by_cases hm : q ∈ (R k).ws.map (·.1)
    ·have hDk : D k = false := by
      by_cases e : k = i
      ·rw [e]; exact hi
      ·have hek : (R k).ex = true := by
        cases he : (R k).ex with
        | true => rfl
        | false => rw [H.wsNone (by omega) he] at hm; simp at hm
       rcases H.conf k i (by omega) (by omega) hek hex with h1 | ⟨h1, _⟩
       ·exact hf k (by omega) h1
       ·exact absurd hq (h1 q hm).1
     rw [if_neg (by rw [hDk]; decide)]
     exact ihk
    ·split
     ·rw [lk_append, lk_keys hm]; exact ihk
     ·exact ihk
 have := key ops.length (Nat.le_refl _)
 rwa [show min ops.length i = i by omega] at this
theorem Drw.slot' {D' : Nat → Bool} (hil : i < ops.length) (hi : D i = false) (hD : ∀ j, j ≠ i → D' j = D j) (hDi : D' i = true) (x : Nat) : lk (accS R sl0 D' ops.length) x = lk (consD (R i).d (R i).v (accS R sl0 D ops.length)) x := by
 have key : ∀ k, k ≤ ops.length → lk (accS R sl0 D' k) x = if i < k then lk (consD (R i).d (R i).v (accS R sl0 D k)) x else lk (accS R sl0 D k) x := by
  intro k
  induction k with
  | zero => intro _; rw [if_neg (by omega)]; rfl
  | succ k ih =>
   intro hk
   have ihk := ih (by omega)
   simp only [accS]
   by_cases e : k = i
   ·subst e
    rw [if_neg (show ¬ k < k by omega)] at ihk
    rw [if_pos hDi, if_pos (show k < k + 1 by omega), hi, if_neg (show ¬ false = true by decide), lk_consD, lk_consD, ihk]
   ·rw [hD k e]
    by_cases hki : i < k
    ·rw [if_pos hki] at ihk
     rw [if_pos (show i < k + 1 by omega)]
     split
     ·rw [lk_consD, lk_consD, lk_consD, ihk, lk_consD]
      by_cases h1 : (R k).d = some x
      ·rw [if_pos h1, if_pos h1]
       by_cases h2 : (R i).d = some x
       ·exact absurd h1 (H.dst i k hil (by omega) (fun e2 => e e2.symm) x h2)
       ·rw [if_neg h2]
      ·rw [if_neg h1, if_neg h1]
     ·exact ihk
    ·rw [if_neg hki] at ihk
     rw [if_neg (show ¬ i < k + 1 by omega)]
     split
     ·rw [lk_consD, lk_consD, ihk]
     ·exact ihk
 have := key ops.length (Nat.le_refl _)
 rwa [if_pos hil] at this
theorem Drw.mem' {D' : Nat → Bool} (hil : i < ops.length) (hi : D i = false) (hex : (R i).ex = true ∨ (R i).ws = []) (hf : ∀ j, j < ops.length → behind (ancs ops []) j i = true → D j = false) (hD : ∀ j, j ≠ i → D' j = D j) (hDi : D' i = true) (q : Nat) : lk (accM R m0 D' ops.length) q = lk ((R i).ws ++ accM R m0 D ops.length) q := by
 have key : ∀ k, k ≤ ops.length → lk (accM R m0 D' k) q = if i < k then lk ((R i).ws ++ accM R m0 D k) q else lk (accM R m0 D k) q := by
  intro k
  induction k with
  | zero => intro _; rw [if_neg (by omega)]; rfl
  | succ k ih =>
   intro hk
   have ihk := ih (by omega)
   simp only [accM]
   by_cases e : k = i
   ·subst e
    rw [if_neg (show ¬ k < k by omega)] at ihk
    rw [if_pos hDi, if_pos (show k < k + 1 by omega), hi, if_neg (show ¬ false = true by decide), lk_append, lk_append, ihk]
   ·rw [hD k e]
    by_cases hki : i < k
    ·rw [if_pos hki] at ihk
     rw [if_pos (show i < k + 1 by omega)]
     split
     ·rename_i hDk
      rw [lk_append, ihk, lk_append, lk_append, lk_append]
      by_cases h1 : q ∈ (R k).ws.map (·.1)
      ·by_cases h2 : q ∈ (R i).ws.map (·.1)
       ·exfalso
        have hei : (R i).ex = true := by
         rcases hex with h3 | h3
         ·exact h3
         ·rw [h3] at h2; simp at h2
        have hek : (R k).ex = true := by
         cases he : (R k).ex with
         | true => rfl
         | false => rw [H.wsNone (by omega) he] at h1; simp at h1
        rcases H.conf k i (by omega) hki hek hei with h3 | ⟨h3, _⟩
        ·rw [hf k (by omega) h3] at hDk; cases hDk
        ·exact (h3 q h1).2 h2
       ·rw [lk_keys h2]; rfl
      ·rw [lk_keys h1]; rfl
     ·exact ihk
    ·rw [if_neg hki] at ihk
     rw [if_neg (show ¬ i < k + 1 by omega)]
     split
     ·rw [lk_append, lk_append, ihk]
     ·exact ihk
 have := key ops.length (Nat.le_refl _)
 rwa [if_pos hil] at this
end

theorem drawn_ok {E : Env} (hfns : ∀ g d, (g, d) ∈ E.fns → FunOK E.P g d) {ops : List Oper} {base : Nat} {R : Nat → Rec} {sl0 : ASl} {m0 : AMem} (H : Drw E ops base R sl0 m0) {Q : Exit → Act → World → Prop} {a0 : Act}
  (hk : ∀ I' π' a' w', SlR π' I' (accS R sl0 allD ops.length) a' → SA B I' π' (lk (accM R m0 allD ops.length)) w' → π.le π' → I.le I' → a'.tmps.size = E.n → a'.defers = a0.defers → (∀ t, (∀ o ∈ ops, o.dst ≠ some t) → a'.tmps[t]? = a0.tmps[t]?) → Q .normal a' w') :
  ∀ (fuel : Nat) (listed : Array Bool) (a : Act) (w : World) (I' : Imm) (π' : Pi), listed.size = ops.length → Closed ops (lstOf listed) → SlR π' I' (accS R sl0 (fun j => listed.getD j false) ops.length) a → SA B I' π' (lk (accM R m0 (fun j => listed.getD j false) ops.length)) w →
   π.le π' → I.le I' → a.tmps.size = E.n → a.defers = a0.defers → (∀ t, (∀ o ∈ ops, o.dst ≠ some t) → a.tmps[t]? = a0.tmps[t]?) → cntF (fun i => !listed.getD i false) ops.length ≤ fuel → wpAny E.P .any ops.toArray Q fuel listed a w := by
 have hgt : ∀ (l : Array Bool), l.size = ops.length → ∀ i, i < ops.length → l.getD i true = l.getD i false := fun l hl i hi => by
  rw [Array.getD_eq_getD_getElem?, Array.getD_eq_getD_getElem?, Array.getElem?_eq_getElem (by rw [hl]; exact hi)]
  rfl
 have fin : ∀ (listed : Array Bool) (a : Act) (w : World) (I' : Imm) (π' : Pi), (∀ i, i < ops.length → listed.getD i false = true) → SlR π' I' (accS R sl0 (fun j => listed.getD j false) ops.length) a → SA B I' π' (lk (accM R m0 (fun j => listed.getD j false) ops.length)) w → π.le π' → I.le I' → a.tmps.size = E.n → a.defers = a0.defers → (∀ t, (∀ o ∈ ops, o.dst ≠ some t) → a.tmps[t]? = a0.tmps[t]?) → Q .normal a w := by
  intro listed a w I' π' hall hs hm h1 h2 h3 h4 h5
  rw [accS_congr ops.length (fun _ _ => rfl) (D' := allD) (fun j hj => hall j hj)] at hs
  rw [accM_congr ops.length (fun _ _ => rfl) (D' := allD) (fun j hj => hall j hj)] at hm
  exact hk I' π' a w hs hm h1 h2 h3 h4 h5
 have noready : ∀ (listed : Array Bool), listed.size = ops.length → Region.ready .any ops.toArray listed = [] → ∀ i, i < ops.length → listed.getD i false = true := by
  intro listed hsz hr
  have key : ∀ n i, i < n → i < ops.length → listed.getD i false = true := by
   intro n
   induction n with
   | zero => intro i hi; omega
   | succ n ih =>
    intro i hi hil
    rcases Nat.lt_succ_iff_lt_or_eq.1 hi with hi | rfl
    ·exact ih i hi hil
    ·cases hc : listed.getD i false with
     | true => rfl
     | false =>
      exfalso
      have ho : ops[i]? = some ops[i] := List.getElem?_eq_getElem hil
      have : i ∈ Region.ready .any ops.toArray listed := by
       refine mem_ready.2 ⟨by rw [hgt listed hsz i hil]; exact hc, ops[i], by simp, fun e he hb => ?_⟩
       have hlt := H.low i _ ho e he hb
       exact ih e.on hlt (by omega)
      rw [hr] at this
      cases this
  exact fun i hi => key (i + 1) i (by omega) hi
 intro fuel
 induction fuel with
 | zero =>
  intro listed a w I' π' hsz hcl hs hm h1 h2 h3 h4 h5 hcnt
  have hall : ∀ i, i < ops.length → listed.getD i false = true := fun i hi => by
   have := cntF_zero (f := fun i => !listed.getD i false) ops.length (Nat.le_zero.1 hcnt) i hi
   simpa using this
  refine ⟨?_, fin listed a w I' π' hall hs hm h1 h2 h3 h4 h5⟩
  rw [List.eq_nil_iff_forall_not_mem]
  intro j hj
  obtain ⟨k1, o, ho, _⟩ := mem_ready.1 hj
  have hjl : j < ops.length := by
   have := (Array.getElem?_eq_some_iff.1 ho).1
   simpa using this
  rw [hgt listed hsz j hjl, hall j hjl] at k1
  cases k1
 | succ fuel ih =>
  intro listed a w I' π' hsz hcl hs hm h1 h2 h3 h4 h5 hcnt
  refine ⟨fun hr => fin listed a w I' π' (noready listed hsz hr) hs hm h1 h2 h3 h4 h5, fun i hi => ?_⟩
  obtain ⟨k1, o, hoi, k2⟩ := mem_ready.1 hi
  have ho : ops[i]? = some o := by simpa using hoi
  have hil : i < ops.length := (List.getElem?_eq_some_iff.1 ho).1
  have hni : listed.getD i false = false := by rw [← hgt listed hsz i hil]; exact k1
  have hed : ∀ e ∈ o.after, Region.binds .any e = true → lstOf listed e.on := fun e he hb => k2 e he hb
  have hb : ∀ j, behind (ancs ops []) i j = true → listed.getD j false = true := fun j hj => behind_listed hcl rfl i j hj (fun o' ho' => by rw [ho] at ho'; injection ho' with ho'; subst ho'; exact hed)
  have hf : ∀ j, j < ops.length → behind (ancs ops []) j i = true → listed.getD j false = false := fun j _ hj => by
   cases hc : listed.getD j false with
   | false => rfl
   | true =>
    have : lstOf listed i := behind_listed hcl rfl j i hj (fun o' ho' => hcl j o' hc ho')
    unfold lstOf at this
    rw [hni] at this
    cases this
  obtain ⟨o', hok⟩ := H.ok i hil
  have hoo : o' = o := by
   have := hok.op
   rw [ho] at this
   injection this with this
   exact this.symm
  subst hoo
  have hisz : i < listed.size := by omega
  have hcl' : Closed ops (lstOf (listed.setIfInBounds i true)) := fun j o2 hj ho2 e he hb2 => by
   rw [lstOf_set hisz] at hj ⊢
   rcases hj with hj | rfl
   ·exact .inl (hcl j o2 hj ho2 e he hb2)
   ·rw [ho] at ho2
    injection ho2 with ho2
    subst ho2
    exact .inl (hed e he hb2)
  have hDne : ∀ j, j ≠ i → (listed.setIfInBounds i true).getD j false = listed.getD j false := fun j hj => by
   simp only [Array.getD_eq_getD_getElem?, Array.getElem?_setIfInBounds_ne (fun h => hj h.symm)]
  have hDi : (listed.setIfInBounds i true).getD i false = true := (lstOf_set hisz).2 (.inr rfl)
  have hcnt' : cntF (fun j => !(listed.setIfInBounds i true).getD j false) ops.length ≤ fuel := by
   have : cntF (fun j => !(listed.setIfInBounds i true).getD j false) ops.length < cntF (fun j => !listed.getD j false) ops.length := by
    refine cntF_lt (i := i) (by rw [hni]; rfl) (by rw [hDi]; rfl) (fun j hj => by rw [hDne j hj]) _ hil
   omega
  have hslot : ∀ x ∈ readTmps ops o', lk (accS R sl0 (fun j => listed.getD j false) ops.length) x = lk (accS R sl0 allD i) x := fun x hx => H.slot ho hni hb hf hx
  -- behind the operation
  have next : ∀ (y : Value) (w' : World) (I2 : Imm) (π2 : Pi), ((R i).ex = true ∨ (R i).ws = []) → π'.le π2 → I'.le I2 → SA B I2 π2 (lk ((R i).ws ++ accM R m0 (fun j => listed.getD j false) ops.length)) w' → relV π2 I2 (R i).v y → wpAny E.P .any ops.toArray Q fuel (listed.setIfInBounds i true) (a.put o'.dst y) w' := by
   intro y w' I2 π2 hex q1 q2 q3 q4
   refine ih _ _ w' I2 π2 (by simp [hsz]) hcl' ?_ (q3.congr (fun q => (H.mem' hil hni hex hf hDne hDi q).symm)) (Pi.le_trans h1 q1) (Imm.le_trans h2 q2) (by rw [put_size]; exact h3) (by rw [put_defers]; exact h4) (fun t ht => ?_) hcnt'
   ·have := (hs.ext q1 q2).put (d := o'.dst) q4 (fun t e => by rw [h3]; exact hok.dlt t e)
    exact this.congr (fun x => by rw [H.slot' hil hni hDne hDi x, hok.dst])
   ·rw [put_other a y (ht o' (List.mem_of_getElem? ho))]
    exact h5 t ht
  have hwant : Region.wanted o' (yielded ops.toArray a.tmps) = (R i).ex := by
   cases hg : o'.guard with
   | none => unfold Region.wanted; rw [hg, hok.gnone hg]
   | some jw =>
    obtain ⟨j, want⟩ := jw
    obtain ⟨q, t, e1, e2, e3⟩ := hok.gsome j want hg
    have hxt : t ∈ readTmps ops o' := by
     unfold readTmps guardTmp dstOf
     rw [hg]
     simp only [e1, Option.bind_some, e2]
     exact List.mem_append_right _ (by simp)
    rcases e3 with ⟨b, e3, e4⟩ | ⟨e3, e4⟩
    ·rw [← hslot t hxt] at e3
     obtain ⟨y, hy, hrel⟩ := hs t _ e3
     rw [wanted_bool hg e1 e2 (by rw [hy, hrel.1]), e4]
    ·rw [← hslot t hxt] at e3
     obtain ⟨y, hy, ys, hrel, _⟩ := hs t _ e3
     rw [hrel] at hy
     rw [wanted_undef hg e1 e2 hy, e4]
  unfold wpOp
  rw [show ops.toArray[i]? = some o' from hoi]
  simp only
  cases hex : (R i).ex with
  | true =>
   rw [if_pos (by rw [hwant, hex])]
   refine .inl ?_
   have hrun := (hok.run hex).other (m' := accM R m0 (fun j => listed.getD j false) ops.length) (fun q hq => H.mem hil hni hex hb hf hq)
   refine Does.wp (aop_ok hfns hm (σ := a.eval) (fun x hx av hav => ?_) hrun) (fun y w' ⟨π2, I2, q1, q2, q3, q4⟩ => next y w' I2 π2 (.inl hex) q1 q2 q3 q4)
   refine hs.eval x av ?_
   rw [← hav]
   exact evA_congr (fun t et => hslot t (by
    unfold readTmps
    refine List.mem_append_left _ (List.mem_filterMap.2 ⟨x, by simpa using hx, ?_⟩)
    rw [et]))
  | false =>
   rw [if_neg (by rw [hwant, hex]; decide)]
   obtain ⟨e1, e2⟩ := hok.skp hex
   exact next undef w I' π' (.inr e2) (Pi.le_refl _) (Imm.le_refl _) (by rw [e2]; exact hm) (by rw [e1]; exact ⟨[], rfl, trivial⟩)
end
end Go.Proofs.YtfecniimkgkmfaaGreat.AM
namespace Go.Proofs.YtfecniimkgkmfaaGreat.AM
open Go Go.RowKit Go.Proofs.YtfecniimkgkmfaaGreat.RW

/-- A piece of code does what its contract tells. -/
def FragOKC (C : (Exit → Act → World → Prop) → Act → World → Prop) (n : Nat) (c : Code) (d : FragD) : Prop :=
 ∀ x y q z, d.g x = some y → outD d.outs y = some ⟨q, z⟩ → ∀ (I : Imm) (π : Pi) (a : Act) (w : World),
  SlR π I (instSl id d.pin.sl x.1) a → SA ⟨w, fpS π (lk (instOb id d.pin.ob 0 x.2)), I⟩ I π (lk (instOb id d.pin.ob 0 x.2)) w → a.tmps.size = n → ∀ Q : Exit → Act → World → Prop,
  (∀ I' π' a' w', π.le π' → I.le I' → SlR π' I' (instSl id q.p.sl (q.of z).1) a' → SA ⟨w, fpS π (lk (instOb id d.pin.ob 0 x.2)), I⟩ I' π' (lk (instOb id q.p.ob 0 (q.of z).2 ++ instOb id d.pin.ob 0 x.2)) w' → a'.tmps.size = a.tmps.size → a'.defers = a.defers → (∀ t, t ∉ wr c → a'.tmps[t]? = a.tmps[t]?) → Q (ofK q.k) a' w') →
  C Q a w
def FragOK (P : Program) (n : Nat) (c : Code) (d : FragD) : Prop := FragOKC (fun Q a w => c.wp P Q a w) n c d
/-- The rounds of a loop, by a contract. -/
def FragOKL (k : Nat) (P : Program) (n : Nat) (b : Code) (d : FragD) : Prop := FragOKC (fun Q a w => Code.rounds P b Q k a w) n (.loop b) d

section
variable {β : Type} {P : Program} {B : Base} {I : Imm} {π : Pi} {w : World}

theorem SA.drew {M : Nat → Option AObj} (h : SA B I π M w) : SA B I π M { w with drawn := w.drawn + 1 } :=
 ⟨⟨h.evo.os, h.evo.tape, h.evo.output, h.evo.size, h.evo.blk⟩, h.dom, fun o => (h.res o).mono (Pi.le_refl _) (Imm.le_refl _) (fun _ _ => rfl), h.own, h.dis, fun a v ha => (look_of_block (w := w) rfl).trans (h.im a v ha), h.imX, h.le, h.inew⟩
theorem SA.restart {M : Nat → Option AObj} (h : SA B I π M w) : SA ⟨w, fpS π M, I⟩ I π M w :=
 ⟨Evo.refl _ _, h.dom, h.res, fun o k hk => ⟨(h.own o k hk).1, .inr ⟨o, hk⟩⟩, h.dis, h.im, h.imX, Imm.le_refl _, fun _ _ h => .inl h⟩
theorem SA.comp {M M' : Nat → Option AObj} {I' : Imm} {π' : Pi} {w' : World} (h : SA B I π M w) (k : SA ⟨w, fpS π M, I⟩ I' π' M' w') : SA B I' π' M' w' := by
 have hS : ∀ q, fpS π M q → B.w0.heap.size ≤ q ∨ B.S q := fun q ⟨i, hi⟩ => (h.own i q hi).2
 refine ⟨⟨k.evo.os.trans h.evo.os, k.evo.tape.trans h.evo.tape, k.evo.output.trans h.evo.output, Nat.le_trans h.evo.size k.evo.size, fun q hq hn => ?_⟩, k.dom, k.res, fun o q hq => ?_, k.dis, k.im, k.imX, Imm.le_trans h.le k.le, fun a v ha => ?_⟩
 ·rw [k.evo.blk q (Nat.lt_of_lt_of_le hq h.evo.size) (fun hf => by
   rcases hS q hf with h1 | h1
   ·omega
   ·exact hn h1)]
  exact h.evo.blk q hq hn
 ·have := k.own o q hq
  refine ⟨this.1, ?_⟩
  rcases this.2 with h1 | h1
  ·exact .inl (Nat.le_trans h.evo.size h1)
  ·exact hS q h1
 ·rcases k.inew a v ha with h1 | h1 | h1
  ·exact h.inew a v h1
  ·exact .inr (.inl (Nat.le_trans h.evo.size h1))
  ·exact .inr (hS _ h1)

theorem wr_region {id : Nat} {ops : Array Oper} {draw : Bool} {t : Nat} (h : t ∉ wr (.region id ops draw)) : ∀ o ∈ ops.toList, o.dst ≠ some t := by
 intro o ho e
 refine h ?_
 simp only [wr]
 exact List.mem_append_left _ (List.mem_filterMap.2 ⟨o, ho, e⟩)
theorem region_ok {E : Env} (hfns : ∀ g d, (g, d) ∈ E.fns → FunOK E.P g d) {id : Nat} {ops : Array Oper} {draw : Bool} {st : ASt} {κ : ASt → Option β} {r : β} (h : runRegion E ops.toList draw st κ = some r) {a : Act}
  (hs : SlR π I st.sl a) (hm : SA B I π (lk st.m) w) (hn : a.tmps.size = E.n) {Q : Exit → Act → World → Prop}
  (hk : ∀ st' I' π' a' w', κ st' = some r → π.le π' → I.le I' → SlR π' I' st'.sl a' → SA B I' π' (lk st'.m) w' → a'.tmps.size = a.tmps.size → a'.defers = a.defers → (∀ t, t ∉ wr (.region id ops draw) → a'.tmps[t]? = a.tmps[t]?) → Q .normal a' w') : (Code.region id ops draw).wp E.P Q a w := by
 unfold runRegion at h
 cases draw with
 | false =>
  rw [show ops = ops.toList.toArray by simp]
  refine wp_region_lit (seq_ok hfns _ _ _ _ _ I π a w h hs hm hn (fun sl' m' lg' I' π' a' w' k1 k2 k3 k4 k5 k6 k7 k8 => ?_))
  simp only [Bool.not_false, Bool.true_or, cond_true] at k1
  exact hk _ I' π' a' w' k1 k2 k3 k4 k5 k6 k7 (fun t ht => k8 t (wr_region ht))
 | true =>
  obtain ⟨R, slF, mF, lgF, e1, e2, e3, e4, e5⟩ := runOps_tr ops.toList 0 st.sl st.m [] (fun _ => ⟨none, undefA, [], [], false⟩) (Nat.zero_le _) (by simp) (fun _ => rfl) (fun _ => rfl) (fun j hj => by omega) (fun j hj => by omega) h
  generalize hok : (!true || (E.P.follows .mixedOrders && drawOk ops.toList (ancs ops.toList []) ops.toList.length && lgOk ops.toList lgF)) = b at e5
  cases b with
  | false => cases e5
  | true =>
   simp only [Bool.not_true, Bool.false_or, Bool.and_eq_true] at hok
   obtain ⟨⟨hmo, hd⟩, hl⟩ := hok
   simp only [cond_true] at e5
   have H := Drw.of e3 e4 hd hl
   refine wp_region_any hmo ?_
   have hops : ops = ops.toList.toArray := by simp
   have hD : (fun j => (Array.replicate ops.size false).getD j false) = fun _ => false := by
    funext j
    rw [Array.getD_eq_getD_getElem?]
    by_cases hj : j < ops.size
    ·simp [hj]
    ·simp [hj]
   have hS0 : ∀ n, accS R st.sl (fun _ => false) n = st.sl := by
    intro n
    induction n with
    | zero => rfl
    | succ n ih => simp only [accS]; exact ih
   have hM0 : ∀ n, accM R st.m (fun _ => false) n = st.m := by
    intro n
    induction n with
    | zero => rfl
    | succ n ih => simp only [accM]; exact ih
   rw [show wpAny E.P .any ops Q ops.size (Array.replicate ops.size false) a { w with drawn := w.drawn + 1 } = wpAny E.P .any ops.toList.toArray Q ops.size (Array.replicate ops.size false) a { w with drawn := w.drawn + 1 } by rw [← hops]]
   refine drawn_ok (B := B) (I := I) (π := π) hfns H (a0 := a) (fun I' π' a' w' k1 k2 k3 k4 k5 k6 k7 => ?_) ops.size _ a _ I π (by simp) ?_ ?_ ?_ (Pi.le_refl _) (Imm.le_refl _) hn rfl (fun _ _ => rfl) ?_
   ·exact hk ⟨slF, mF, st.nx + 64 * ops.toList.length⟩ I' π' a' w' e5 k3 k4 (k1.congr e1) (k2.congr (fun o => (e2 o).symm)) (by rw [k5, hn]) k6 (fun t ht => k7 t (wr_region ht))
   ·intro i o hi
    have : (fun j => (Array.replicate ops.size false).getD j false) i = false := by rw [hD]
    unfold lstOf at hi
    simp only at this
    rw [this] at hi
    cases hi
   ·rw [hD, hS0]; exact hs
   ·rw [hD, hM0]; exact hm.drew
   ·have : (fun i => !(Array.replicate ops.size false).getD i false) = fun _ => true := by
     funext i
     rw [congrFun hD i]
     rfl
    rw [this]
    have hc : ∀ n, cntF (fun _ => true) n = n := by
     intro n
     induction n with
     | zero => rfl
     | succ n ih => simp only [cntF, ih, if_true]
    rw [hc]
    simp

/-! ### paths -/
theorem atN_step (K : Code) (n p : Nat) (hp : 1 ≤ p) : atN K (n + 1) (2 * p) = cL (atN K n p) ∧ atN K (n + 1) (2 * p + 1) = cR (atN K n p) := by
 constructor
 ·unfold atN
  rw [show Nat.ble (2 * p) 1 = false by cases e : Nat.ble (2 * p) 1 with | false => rfl | true => have := Nat.le_of_ble_eq_true e; omega, show 2 * p % 2 = 0 by omega, show 2 * p / 2 = p by omega]
  cases n <;> rfl
 ·unfold atN
  rw [show Nat.ble (2 * p + 1) 1 = false by cases e : Nat.ble (2 * p + 1) 1 with | false => rfl | true => have := Nat.le_of_ble_eq_true e; omega, show (2 * p + 1) % 2 = 1 by omega, show (2 * p + 1) / 2 = p by omega]
  cases n <;> rfl
theorem atN_more (K : Code) : ∀ (n p : Nat), p < 2 ^ n → ∀ m, n ≤ m → atN K m p = atN K n p := by
 intro n
 induction n with
 | zero =>
  intro p hp m _
  have : p = 0 := by simpa using hp
  subst this
  cases m <;> rfl
 | succ n ih =>
  intro p hp m hm
  obtain ⟨m, rfl⟩ : ∃ m', m = m' + 1 := ⟨m - 1, by omega⟩
  have h2 : p / 2 < 2 ^ n := by
   have : p < 2 ^ n * 2 := by rwa [Nat.pow_succ] at hp
   omega
  unfold atN
  rw [ih (p / 2) h2 m (by omega)]
/-- The code at place p is c. -/
def At (K : Code) (p : Nat) (c : Code) : Prop := 1 ≤ p ∧ ∃ n, p < 2 ^ n ∧ atN K n p = c
theorem At.left {K : Code} {p : Nat} {c : Code} (h : At K p c) : At K (2 * p) (cL c) := by
 obtain ⟨h1, n, h2, rfl⟩ := h
 exact ⟨by omega, n + 1, by rw [Nat.pow_succ]; omega, (atN_step K n p h1).1⟩
theorem At.right {K : Code} {p : Nat} {c : Code} (h : At K p c) : At K (2 * p + 1) (cR c) := by
 obtain ⟨h1, n, h2, rfl⟩ := h
 exact ⟨by omega, n + 1, by rw [Nat.pow_succ]; omega, (atN_step K n p h1).2⟩
theorem At.top (K : Code) : At K 1 K := ⟨Nat.le_refl _, 1, by decide, rfl⟩
theorem At.mk {K : Code} {p : Nat} (h1 : 1 ≤ p) (h : p < 2 ^ 400) : At K p (atN K 400 p) := ⟨h1, 400, h, rfl⟩
theorem At.uniq {K : Code} {p : Nat} {c : Code} (h : At K p c) (hp : p < 2 ^ 400) : c = atN K 400 p := by
 obtain ⟨_, n, h2, rfl⟩ := h
 rw [← atN_more K n p h2 (max n 400) (Nat.le_max_left _ _), ← atN_more K 400 p hp (max n 400) (Nat.le_max_right _ _)]
def FrsOK (E : Env) (K : Code) : Prop := (∀ q d, lk E.frs q = some d → ∀ c, At K q c → FragOK E.P E.n c d) ∧ ∃ k, ∀ q d, lk E.lps q = some d → ∀ b, At K q (.loop b) → FragOKL k E.P E.n b d

theorem lk_filter {α : Type} {S : List Nat} {l : List (Nat × α)} {t : Nat} {v : α} (h : lk (l.filter fun q => !S.any (Nat.beq q.1)) t = some v) : lk l t = some v ∧ t ∉ S := by
 induction l with
 | nil => cases h
 | cons p l ih =>
  obtain ⟨j, a⟩ := p
  rw [List.filter_cons] at h
  split at h
  ·rename_i hs
   rw [lk_cons] at h ⊢
   split at h
   ·rename_i e
    subst e
    rw [if_pos rfl]
    refine ⟨h, fun hm => ?_⟩
    simp only [Bool.not_eq_true', List.any_eq_false] at hs
    exact hs _ hm (by simp)
   ·rename_i e
    rw [if_neg e]
    exact ih h
  ·rename_i hs
   obtain ⟨h1, h2⟩ := ih h
   rw [lk_cons]
   split
   ·rename_i e
    subst e
    exfalso
    simp only [Bool.not_eq_true', Bool.not_eq_false, List.any_eq_true] at hs
    obtain ⟨y, hy, e⟩ := hs
    have e := Nat.eq_of_beq_eq_true e
    subst e
    exact h2 hy
   ·exact ⟨h1, h2⟩
/-- A piece of code whose contract is known. -/
theorem frag_ok {n : Nat} {C : (Exit → Act → World → Prop) → Act → World → Prop} {frs : List (Nat × FragD)} {p : Nat} {c : Code} {st : ASt} {κ : Nat → ASt → Option β} {dflt : Option β} {r : β} (hfr : ∀ d, lk frs p = some d → FragOKC C n c d) (h : frag frs p c st κ dflt = some r) {a : Act}
  (hs : SlR π I st.sl a) (hm : SA B I π (lk st.m) w) (hn : a.tmps.size = n) {Q : Exit → Act → World → Prop}
  (hk : ∀ k st' I' π' a' w', κ k st' = some r → π.le π' → I.le I' → SlR π' I' st'.sl a' → SA B I' π' (lk st'.m) w' → a'.tmps.size = a.tmps.size → a'.defers = a.defers → (∀ t, t ∉ wr c → a'.tmps[t]? = a.tmps[t]?) → Q (ofK k) a' w') (hd : dflt = some r → C Q a w) : C Q a w := by
 unfold frag at h
 split at h
 ·rename_i d hlk
  obtain ⟨rr, ws, rs, hex, h2⟩ := Tr.run_ex h
  obtain ⟨x, s, J, y, q, z, nc, hg, ho, hv, hnew, hle, rfl, rfl⟩ := frTr_ok hex hm
  refine hfr d hlk x y q z hg ho J (view s d.pin.ob.length π) a w (fun t av ht => ?_) (hv.start hle.2.1) hn Q (fun I' π' a' w' k1 k2 k3 k4 k5 k6 k7 => ?_)
  ·obtain ⟨av0, q1, q2⟩ := hv.slot t av ht
   obtain ⟨u, q3, q4⟩ := hs t av0 q1
   exact ⟨u, q3, q2 J (Imm.le_refl _) u (q4.ext (Pi.le_refl _) hv.le)⟩
  ·obtain ⟨π3, q1, q2, q3⟩ := hv.back hnew hle.1 hle.2.1 hle.2.2 k1 k2 k4
   refine hk q.k _ I' π3 a' w' h2 q1 (Imm.le_trans hv.le k2) (fun t av ht => ?_) q3 k5 k6 k7
   simp only at ht
   rw [lk_append] at ht
   cases hl : lk (instSl (tau s d.pin.ob.length st.nx) q.p.sl (q.of z).1) t with
   | some av1 =>
    rw [hl] at ht
    injection ht with ht
    subst ht
    obtain ⟨av', q4, q5⟩ := ren_Sl (J := I') q2 hl
    obtain ⟨u, q6, q7⟩ := k3 t av' q4
    exact ⟨u, q6, q5 u q7⟩
   | none =>
    rw [hl] at ht
    obtain ⟨q4, q5⟩ := lk_filter ht
    obtain ⟨u, q6, q7⟩ := hs t av q4
    exact ⟨u, by rw [k7 t q5]; exact q6, q7.ext q1 (Imm.le_trans hv.le k2)⟩
 ·exact hd h

theorem run_ok {E : Env} (hfns : ∀ g d, (g, d) ∈ E.fns → FunOK E.P g d) {K : Code} (hfrs : FrsOK E K) : ∀ (c : Code) (p : Nat) (st : ASt) (κ : Nat → ASt → Option β) (r : β), At K p c → run E c p st κ = some r → ∀ (I : Imm) (π : Pi) (a : Act) (w : World),
  SlR π I st.sl a → SA B I π (lk st.m) w → a.tmps.size = E.n → ∀ Q : Exit → Act → World → Prop,
  (∀ k st' I' π' a' w', κ k st' = some r → π.le π' → I.le I' → SlR π' I' st'.sl a' → SA B I' π' (lk st'.m) w' → a'.tmps.size = a.tmps.size → a'.defers = a.defers → (∀ t, t ∉ wr c → a'.tmps[t]? = a.tmps[t]?) → Q (ofK k) a' w') → c.wp E.P Q a w := by
 intro c
 induction c with
 | skip =>
  intro p st κ r hp h I π a w hs hm hn Q hk
  exact wp_skip (hk 0 st I π a w h (Pi.le_refl _) (Imm.le_refl _) hs hm rfl rfl (fun _ _ => rfl))
 | region id ops draw =>
  intro p st κ r hp h I π a w hs hm hn Q hk
  have h : frag E.frs p (.region id ops draw) st κ (runRegion E ops.toList draw st fun st => κ 0 st) = some r := h
  exact frag_ok (C := fun Q a w => Code.wp E.P _ Q a w) (fun d hd => hfrs.1 p d hd _ hp) h hs hm hn hk (fun h => region_ok hfns h hs hm hn (fun st' I' π' a' w' k1 => hk 0 st' I' π' a' w' k1))
 | seq x y ihx ihy =>
  intro p st κ r hp h I π a w hs hm hn Q hk
  have h : frag E.frs p (.seq x y) st κ (run E x (2 * p) st fun e st => match e with | 0 => run E y (2 * p + 1) st κ | e + 1 => κ (e + 1) st) = some r := h
  refine frag_ok (C := fun Q a w => Code.wp E.P _ Q a w) (fun d hd => hfrs.1 p d hd _ hp) h hs hm hn hk (fun h => wp_seq ?_)
  refine ihx (2 * p) st _ r hp.left h I π a w hs hm hn _ (fun k st' I' π' a' w' k1 k2 k3 k4 k5 k6 k7 k8 => ?_)
  have hwr : ∀ t, t ∉ wr (.seq x y) → t ∉ wr x ∧ t ∉ wr y := fun t ht => ⟨fun h => ht (by simp only [wr]; exact List.mem_append_left _ h), fun h => ht (by simp only [wr]; exact List.mem_append_right _ h)⟩
  cases k with
  | zero =>
   show y.wp E.P Q a' w'
   refine ihy (2 * p + 1) st' κ r hp.right k1 I' π' a' w' k4 k5 (by rw [k6]; exact hn) Q (fun k st2 I2 π2 a2 w2 q1 q2 q3 q4 q5 q6 q7 q8 => ?_)
   exact hk k st2 I2 π2 a2 w2 q1 (Pi.le_trans k2 q2) (Imm.le_trans k3 q3) q4 q5 (q6.trans k6) (q7.trans k7) (fun t ht => (q8 t (hwr t ht).2).trans (k8 t (hwr t ht).1))
  | succ k =>
   have := hk (k + 1) st' I' π' a' w' k1 k2 k3 k4 k5 k6 k7 (fun t ht => k8 t (hwr t ht).1)
   cases k <;> exact this
 | cond o x y ihx ihy =>
  intro p st κ r hp h I π a w hs hm hn Q hk
  have h : frag E.frs p (.cond o x y) st κ (match evA st.sl o with | some (.w (.c (.v (.bool t)))) => bif t then run E x (2 * p) st κ else run E y (2 * p + 1) st κ | _ => none) = some r := h
  refine frag_ok (C := fun Q a w => Code.wp E.P _ Q a w) (fun d hd => hfrs.1 p d hd _ hp) h hs hm hn hk (fun h => ?_)
  split at h
  ·rename_i t ht
   have he : a.eval o = .bool t := (hs.eval o _ ht).1
   have hwr : ∀ t, t ∉ wr (.cond o x y) → t ∉ wr x ∧ t ∉ wr y := fun t ht => ⟨fun h => ht (by simp only [wr]; exact List.mem_append_left _ h), fun h => ht (by simp only [wr]; exact List.mem_append_right _ h)⟩
   cases t with
   | true => exact wp_cond_true he (ihx (2 * p) st κ r hp.left h I π a w hs hm hn Q (fun k st' I' π' a' w' k1 k2 k3 k4 k5 k6 k7 k8 => hk k st' I' π' a' w' k1 k2 k3 k4 k5 k6 k7 (fun t ht => k8 t (hwr t ht).1)))
   | false => exact wp_cond_false he (ihy (2 * p + 1) st κ r hp.right h I π a w hs hm hn Q (fun k st' I' π' a' w' k1 k2 k3 k4 k5 k6 k7 k8 => hk k st' I' π' a' w' k1 k2 k3 k4 k5 k6 k7 (fun t ht => k8 t (hwr t ht).2)))
  ·cases h
 | block id x ihx =>
  intro p st κ r hp h I π a w hs hm hn Q hk
  have h : frag E.frs p (.block id x) st κ (run E x (2 * p) st fun e st => κ (bif Nat.beq e (id + 2) then 0 else e) st) = some r := h
  refine frag_ok (C := fun Q a w => Code.wp E.P _ Q a w) (fun d hd => hfrs.1 p d hd _ hp) h hs hm hn hk (fun h => wp_block ?_)
  refine ihx (2 * p) st _ r hp.left h I π a w hs hm hn _ (fun k st' I' π' a' w' k1 k2 k3 k4 k5 k6 k7 k8 => ?_)
  have hq := hk _ st' I' π' a' w' k1 k2 k3 k4 k5 k6 k7 k8
  match k, hq with
  | 0, hq => exact hq
  | 1, hq => exact hq
  | k + 2, hq =>
   show (if k = id then Q .normal a' w' else Q (.exit k) a' w')
   cases hb : Nat.beq (k + 2) (id + 2) with
   | true =>
    have := Nat.eq_of_beq_eq_true hb
    rw [hb] at hq
    rw [if_pos (by omega)]
    exact hq
   | false =>
    rw [hb] at hq
    rw [if_neg (fun e => by rw [e, Nat.beq_refl] at hb; cases hb)]
    exact hq
 | loop x ihx =>
  intro p st κ r hp h I π a w hs hm hn Q hk
  have h : frag E.frs p (.loop x) st κ (unroll (run E x (2 * p)) (fun st => frag E.lps p (.loop x) st κ none) κ ((lk E.unr p).getD 0) st) = some r := h
  refine frag_ok (C := fun Q a w => Code.wp E.P _ Q a w) (fun d hd => hfrs.1 p d hd _ hp) h hs hm hn hk (fun h => ?_)
  obtain ⟨k0, hlps⟩ := hfrs.2
  have key : ∀ (m : Nat) (st' : ASt) (I' : Imm) (π' : Pi) (a' : Act) (w' : World), unroll (run E x (2 * p)) (fun st => frag E.lps p (.loop x) st κ none) κ m st' = some r → π.le π' → I.le I' → SlR π' I' st'.sl a' → SA B I' π' (lk st'.m) w' → a'.tmps.size = a.tmps.size → a'.defers = a.defers → (∀ t, t ∉ wr (.loop x) → a'.tmps[t]? = a.tmps[t]?) → Code.rounds E.P x Q (k0 + 1 + m) a' w' := by
   intro m
   induction m with
   | zero =>
    intro st' I' π' a' w' h k2 k3 k4 k5 k6 k7 k8
    show x.wp E.P (Exit.then (Code.rounds E.P x Q k0) Q) a' w'
    refine ihx (2 * p) st' _ r hp.left h I' π' a' w' k4 k5 (by rw [k6]; exact hn) _ (fun k st2 I2 π2 a2 w2 q1 q2 q3 q4 q5 q6 q7 q8 => ?_)
    cases k with
    | zero =>
     exact frag_ok (C := fun Q a w => Code.rounds E.P x Q k0 a w) (fun d hd => hlps p d hd _ hp) q1 q4 q5 (by rw [q6, k6]; exact hn) (Q := Q) (fun k st3 I3 π3 a3 w3 l1 l2 l3 l4 l5 l6 l7 l8 => hk k st3 I3 π3 a3 w3 l1 (Pi.le_trans k2 (Pi.le_trans q2 l2)) (Imm.le_trans k3 (Imm.le_trans q3 l3)) l4 l5 (l6.trans (q6.trans k6)) (l7.trans (q7.trans k7)) (fun t ht => (l8 t ht).trans ((q8 t ht).trans (k8 t ht)))) (fun h => by cases h)
    | succ k =>
     have := hk (k + 1) st2 I2 π2 a2 w2 q1 (Pi.le_trans k2 q2) (Imm.le_trans k3 q3) q4 q5 (q6.trans k6) (q7.trans k7) (fun t ht => (q8 t ht).trans (k8 t ht))
     cases k <;> exact this
   | succ m ihm =>
    intro st' I' π' a' w' h k2 k3 k4 k5 k6 k7 k8
    show x.wp E.P (Exit.then (Code.rounds E.P x Q (k0 + 1 + m)) Q) a' w'
    refine ihx (2 * p) st' _ r hp.left h I' π' a' w' k4 k5 (by rw [k6]; exact hn) _ (fun k st2 I2 π2 a2 w2 q1 q2 q3 q4 q5 q6 q7 q8 => ?_)
    cases k with
    | zero => exact ihm st2 I2 π2 a2 w2 q1 (Pi.le_trans k2 q2) (Imm.le_trans k3 q3) q4 q5 (q6.trans k6) (q7.trans k7) (fun t ht => (q8 t ht).trans (k8 t ht))
    | succ k =>
     have := hk (k + 1) st2 I2 π2 a2 w2 q1 (Pi.le_trans k2 q2) (Imm.le_trans k3 q3) q4 q5 (q6.trans k6) (q7.trans k7) (fun t ht => (q8 t ht).trans (k8 t ht))
     cases k <;> exact this
  exact wp_loop_rounds _ (key _ st I π a w h (Pi.le_refl _) (Imm.le_refl _) hs hm rfl rfl (fun _ _ => rfl))
 | rangeFunc f ps x y _ _ => intro p st κ r hp h; cases h
 | exit id =>
  intro p st κ r hp h I π a w hs hm hn Q hk
  exact wp_exit (hk (id + 2) st I π a w h (Pi.le_refl _) (Imm.le_refl _) hs hm rfl rfl (fun _ _ => rfl))
 | scope x _ => intro p st κ r hp h; cases h
 | label l =>
  intro p st κ r hp h I π a w hs hm hn Q hk
  exact wp_label (hk 0 st I π a w h (Pi.le_refl _) (Imm.le_refl _) hs hm rfl rfl (fun _ _ => rfl))
 | goto l => intro p st κ r hp h; cases h
 | ret =>
  intro p st κ r hp h I π a w hs hm hn Q hk
  exact wp_ret (hk 1 st I π a w h (Pi.le_refl _) (Imm.le_refl _) hs hm rfl rfl (fun _ _ => rfl))
 | refuse why => intro p st κ r hp h; cases h
end
end Go.Proofs.YtfecniimkgkmfaaGreat.AM
namespace Go.Proofs.YtfecniimkgkmfaaGreat.AM
open Go Go.RowKit Go.Proofs.YtfecniimkgkmfaaGreat.RW

section
variable {β : Type} {P : Program} {B : Base} {I : Imm} {π : Pi} {w : World}

/-! ### the memory grows in front -/
section
variable {E : Env} {Pm : AMem → Prop}
open Classical in
noncomputable def gd (Pm : AMem → Prop) (κ : Nat → ASt → Option β) : Nat → ASt → Option β := fun k st => if Pm st.m then κ k st else none
theorem gd_pos {κ : Nat → ASt → Option β} {k : Nat} {st : ASt} (h : Pm st.m) : gd Pm κ k st = κ k st := if_pos h
theorem gd_congr {κ κ' : Nat → ASt → Option β} (h : ∀ k st, Pm st.m → κ k st = κ' k st) : gd Pm κ = gd Pm κ' := by
 funext k st
 unfold gd
 by_cases hp : Pm st.m
 ·rw [if_pos hp, if_pos hp, h k st hp]
 ·rw [if_neg hp, if_neg hp]
theorem frag_inv (hP : ∀ ws m, Pm m → Pm (ws ++ m)) {frs : List (Nat × FragD)} {p : Nat} {c : Code} {st : ASt} {κ : Nat → ASt → Option β} {d1 d2 : Option β} (h : Pm st.m) (hd : d1 = d2) : frag frs p c st κ d1 = frag frs p c st (gd Pm κ) d2 := by
 unfold frag
 split
 ·congr 1
  funext r ws _
  exact (gd_pos (st := ⟨_, ws ++ st.m, _⟩) (hP ws st.m h)).symm
 ·exact hd
open Classical in
theorem runOps_inv (hP : ∀ ws m, Pm m → Pm (ws ++ m)) {ops : List Oper} {base : Nat} {κ : ASl → AMem → Lg → Option β} : ∀ (rest : List Oper) (i : Nat) (sl : ASl) (m : AMem) (lg : Lg), Pm m → runOps E ops base rest i sl m lg κ = runOps E ops base rest i sl m lg (fun sl m lg => if Pm m then κ sl m lg else none)
 | [], i, sl, m, lg, h => by simp only [runOps]; rw [if_pos h]
 | o :: rest, i, sl, m, lg, h => by
  have hgo : ∀ sl, ((aop E.P E.fns (evA sl) o (base + 64 * i)).run m [] fun v ws rs => putA E sl o.dst v fun sl => runOps E ops base rest (i + 1) sl (ws ++ m) ((i, rs, ws.map (·.1)) :: lg) κ) = ((aop E.P E.fns (evA sl) o (base + 64 * i)).run m [] fun v ws rs => putA E sl o.dst v fun sl => runOps E ops base rest (i + 1) sl (ws ++ m) ((i, rs, ws.map (·.1)) :: lg) (fun sl m lg => if Pm m then κ sl m lg else none)) := fun sl => by
   congr 1
   funext v ws rs
   congr 1
   funext sl
   exact runOps_inv hP rest (i + 1) sl (ws ++ m) _ (hP ws m h)
  have hsk : ∀ sl, (putA E sl o.dst undefA fun sl => runOps E ops base rest (i + 1) sl m lg κ) = (putA E sl o.dst undefA fun sl => runOps E ops base rest (i + 1) sl m lg (fun sl m lg => if Pm m then κ sl m lg else none)) := fun sl => by
   congr 1
   funext sl
   exact runOps_inv hP rest (i + 1) sl m lg h
  unfold runOps
  simp only [hgo, hsk]
theorem unroll_inv (hP : ∀ ws m, Pm m → Pm (ws ++ m)) {rb : ASt → (Nat → ASt → Option β) → Option β} {l1 l2 : ASt → Option β} {κ : Nat → ASt → Option β} (hrb : ∀ st F, Pm st.m → rb st F = rb st (gd Pm F)) (hl : ∀ st, Pm st.m → l1 st = l2 st) : ∀ (n : Nat) (st : ASt), Pm st.m → unroll rb l1 κ n st = unroll rb l2 (gd Pm κ) n st
 | 0, st, h => by
  unfold unroll
  refine Eq.trans (hrb st _ h) (Eq.trans (congrArg (rb st) (gd_congr fun k st h => ?_)) (hrb st _ h).symm)
  cases k with
  | zero => exact hl st h
  | succ k => exact (gd_pos h).symm
 | n + 1, st, h => by
  unfold unroll
  refine Eq.trans (hrb st _ h) (Eq.trans (congrArg (rb st) (gd_congr fun k st h => ?_)) (hrb st _ h).symm)
  cases k with
  | zero => exact unroll_inv hP hrb hl n st h
  | succ k => exact (gd_pos h).symm
theorem run_inv (hP : ∀ ws m, Pm m → Pm (ws ++ m)) : ∀ (c : Code) (p : Nat) (st : ASt) (κ : Nat → ASt → Option β), Pm st.m → run E c p st κ = run E c p st (gd Pm κ) := by
 intro c
 induction c with
 | skip => intro p st κ h; exact (gd_pos h).symm
 | region id ops draw =>
  intro p st κ h
  refine frag_inv (c := .region id ops draw) hP h ?_
  unfold runRegion
  refine Eq.trans (runOps_inv hP _ _ _ _ _ h) (Eq.trans (congrArg (runOps E ops.toList st.nx ops.toList 0 st.sl st.m []) (funext fun sl => funext fun m => funext fun lg => ?_)) (runOps_inv hP ops.toList 0 st.sl st.m [] h).symm)
  by_cases hm : Pm m
  ·rw [if_pos hm, if_pos hm]
   show (bif _ then κ 0 _ else none) = bif _ then gd Pm κ 0 _ else none
   rw [gd_pos (st := ⟨sl, m, _⟩) hm]
  ·rw [if_neg hm, if_neg hm]
 | seq x y ihx ihy =>
  intro p st κ h
  refine frag_inv (c := .seq x y) hP h ?_
  refine Eq.trans (ihx (2 * p) st _ h) (Eq.trans (congrArg (run E x (2 * p) st) (gd_congr fun k st h => ?_)) (ihx (2 * p) st _ h).symm)
  cases k with
  | zero => exact ihy _ _ _ h
  | succ k => exact (gd_pos h).symm
 | cond o x y ihx ihy =>
  intro p st κ h
  refine frag_inv (c := .cond o x y) hP h ?_
  split
  ·rename_i t _
   cases t with
   | true => exact ihx _ _ _ h
   | false => exact ihy _ _ _ h
  ·rfl
 | block id x ihx =>
  intro p st κ h
  refine frag_inv (c := .block id x) hP h ?_
  exact Eq.trans (ihx (2 * p) st _ h) (Eq.trans (congrArg (run E x (2 * p) st) (gd_congr fun k st h => (gd_pos h).symm)) (ihx (2 * p) st _ h).symm)
 | loop x ihx =>
  intro p st κ h
  refine frag_inv (c := .loop x) hP h ?_
  exact unroll_inv hP (fun st F h => ihx _ st F h) (fun st h => frag_inv hP h rfl) _ st h
 | rangeFunc f ps x y _ _ => intro p st κ h; rfl
 | exit id => intro p st κ h; exact (gd_pos h).symm
 | scope x _ => intro p st κ h; rfl
 | label l => intro p st κ h; exact (gd_pos h).symm
 | goto l => intro p st κ h; rfl
 | ret => intro p st κ h; exact (gd_pos h).symm
 | refuse why => intro p st κ h; rfl
end

/-! ### ways out, read off -/
theorem trMap_ok {α β : Type} {f : α → β} {m : AMem} : ∀ {t : Tr α} {v : β} {ws : AMem} {rs : List Nat}, Tr.Ex m (trMap f t) v ws rs → ∃ u, Tr.Ex m t u ws rs ∧ v = f u := by
 intro t
 induction t with
 | ret r ws0 => intro v ws rs h; simp only [trMap] at h; cases h; exact ⟨r, .ret _ _, rfl⟩
 | look o k ih => intro v ws rs h; simp only [trMap] at h; cases h with | look h => obtain ⟨u, h1, h2⟩ := ih _ h; exact ⟨u, .look h1, h2⟩
 | chk b t ih => intro v ws rs h; simp only [trMap] at h; cases h with | chk h => obtain ⟨u, h1, h2⟩ := ih h; exact ⟨u, .chk h1, h2⟩
 | ite b t e iht ihe =>
  intro v ws rs h
  simp only [trMap] at h
  cases h with
  | iteT h => obtain ⟨u, h1, h2⟩ := iht h; exact ⟨u, .iteT h1, h2⟩
  | iteF h => obtain ⟨u, h1, h2⟩ := ihe h; exact ⟨u, .iteF h1, h2⟩
 | opt α x k ih => intro v ws rs h; simp only [trMap] at h; cases h with | opt y hy h => obtain ⟨u, h1, h2⟩ := ih _ h; exact ⟨u, .opt y hy h1, h2⟩
 | sum α β x k l ihk ihl =>
  intro v ws rs h
  simp only [trMap] at h
  cases h with
  | inl y h => obtain ⟨u, h1, h2⟩ := ihk _ h; exact ⟨u, .inl y h1, h2⟩
  | inr y h => obtain ⟨u, h1, h2⟩ := ihl _ h; exact ⟨u, .inr y h1, h2⟩
 | fail => intro v ws rs h; simp only [trMap] at h; cases h
/-- Which pieces keep their places, which are gone. -/
def PreOk (K : Option (List Nat)) (obs : List PO) (un : List Nat) (d : OutD) (pre : List Nat) (s : Sg) : Prop := (K = some pre ∧ d.k = 0 ∧ d.p.ob.all PO.real = true ∧ obs.length ≤ d.p.ob.length) ∨ ((K = none ∨ d.k ≠ 0) ∧ pre = keep d.p obs.length ∧ (∀ i, i < obs.length → i ∈ pre ∨ lk s.b i = none) ∧ sameOk obs d.p un = true)
/-- What a way out tells, of the state it was read off. -/
theorem extTr_ok {K : Option (List Nat)} {obs : List PO} {un : List Nat} {m : AMem} {k : Nat} {sl : ASl} (h : SA B I π (lk m) w) : ∀ {os : List OutD} {y : OutI os} {ws : AMem} {rs : List Nat}, Tr.Ex m (extTr K obs un k sl os) y ws rs →
  ∃ q z x s J pre, outD os y = some ⟨q, z⟩ ∧ q.k = k ∧ q.of z = x ∧ Viewed B π w m I ⟨pre.map (fun i => (i, i)), []⟩ q.p sl x s J ∧ PreOk K obs un q pre s := by
 have hinj : ∀ pre : List Nat, Sg.inj ⟨pre.map (fun i => (i, i)), []⟩ := by
  intro pre i j o h1 h2
  have h1 := lk_mem' h1
  have h2 := lk_mem' h2
  simp only [List.mem_map, Prod.mk.injEq] at h1 h2
  obtain ⟨a, _, rfl, rfl⟩ := h1
  obtain ⟨b, _, rfl, e⟩ := h2
  exact e.symm
 have oneG : ∀ (d : OutD) (_ : K = none ∨ d.k ≠ 0) {z : d.R} {ws : AMem} {rs : List Nat}, Tr.Ex m (d.extG obs un sl) z ws rs → ∃ x s J pre, d.of z = x ∧ Viewed B π w m I ⟨pre.map (fun i => (i, i)), []⟩ d.p sl x s J ∧ PreOk K obs un d pre s := by
  intro d hd z ws rs hx
  unfold OutD.extG at hx
  obtain ⟨x, s, J, rs', h1, h2⟩ := pat_ok hx h rfl (hinj _)
  generalize hb : ((List.range obs.length).all _ && sameOk obs d.p un) = b at h1
  cases b with
  | false => cases h1
  | true =>
   cases h1
   rw [Bool.and_eq_true] at hb
   refine ⟨x, s, J, _, d.ok x, h2, .inr ⟨hd, rfl, fun i hi => ?_, hb.2⟩⟩
   have hb := hb.1
   rw [List.all_eq_true] at hb
   have := hb i (List.mem_range.2 hi)
   rw [Bool.or_eq_true] at this
   rcases this with h3 | h3
   ·obtain ⟨j, hj, e⟩ := List.any_eq_true.1 h3
    exact .inl (Nat.eq_of_beq_eq_true e ▸ hj)
   ·exact .inr (Option.isNone_iff_eq_none.1 h3)
 have one : ∀ (d : OutD) {z : d.R} {ws : AMem} {rs : List Nat}, Tr.Ex m (d.ext K obs un sl) z ws rs → ∃ x s J pre, d.of z = x ∧ Viewed B π w m I ⟨pre.map (fun i => (i, i)), []⟩ d.p sl x s J ∧ PreOk K obs un d pre s := by
  intro d z ws rs hx
  unfold OutD.ext at hx
  split at hx
  ·rename_i K0
   cases hb : Nat.beq d.k 0 with
   | false => rw [hb] at hx; exact oneG d (.inr fun e => by rw [e] at hb; cases hb) hx
   | true =>
    rw [hb] at hx
    simp only [cond_true] at hx
    obtain ⟨x, s, J, rs', h1, h2⟩ := pat_ok hx h rfl (hinj _)
    generalize hr : (d.p.ob.all PO.real && Nat.ble obs.length d.p.ob.length) = b2 at h1
    cases b2 with
    | false => cases h1
    | true =>
     rw [Bool.and_eq_true] at hr
     cases h1
     exact ⟨x, s, J, _, d.ok x, h2, .inl ⟨rfl, Nat.eq_of_beq_eq_true hb, hr.1, Nat.le_of_ble_eq_true hr.2⟩⟩
  ·exact oneG d (.inl rfl) hx
 intro os
 induction os with
 | nil => intro y ws rs hx; cases hx
 | cons d r ih =>
  cases r with
  | nil =>
   intro y ws rs hx
   simp only [extTr] at hx
   cases hb : Nat.beq k d.k with
   | false => rw [hb] at hx; cases hx
   | true =>
    rw [hb] at hx
    have hb := Nat.eq_of_beq_eq_true hb
    obtain ⟨x, s, J, pre, h1, h2⟩ := one d hx
    exact ⟨d, y, x, s, J, pre, rfl, hb.symm, h1, h2⟩
  | cons q r =>
   intro y ws rs hx
   simp only [extTr] at hx
   cases hb : Nat.beq k d.k with
   | true =>
    rw [hb] at hx
    have hb := Nat.eq_of_beq_eq_true hb
    obtain ⟨u, hu, rfl⟩ := trMap_ok hx
    obtain ⟨x, s, J, pre, h1, h2⟩ := one d hu
    exact ⟨d, u, x, s, J, pre, rfl, hb.symm, h1, h2⟩
   | false =>
    rw [hb] at hx
    obtain ⟨u, hu, rfl⟩ := trMap_ok hx
    obtain ⟨q', z, x, s, J, pre, h1, h2⟩ := ih hu
    exact ⟨q', z, x, s, J, pre, h1, h2⟩
theorem diag_lk {l : List Nat} {i : Nat} (h : i ∈ l) : lk (l.map fun i => (i, i)) i = some i := by
 induction l with
 | nil => cases h
 | cons a l ih =>
  rw [List.map_cons, lk_cons]
  by_cases e : a = i
  ·rw [if_pos e, e]
  ·rw [if_neg e]
   exact ih ((List.mem_cons.1 h).resolve_left (fun e2 => e e2.symm))
theorem ref_C {π2 π3 : Pi} {J : Imm} {p : PC} {x : p.I} {y : Value} (hR : ∀ j ∈ refsC p, ∀ q, π2 j = some q → π3 j = some q) (h : relC π2 J (p.inst id x) y) : relC π3 J (p.inst id x) y := by
 cases p with
 | h c => exact one_any π2 π3 (c := c) h
 | full c => exact h
 | sl i => obtain ⟨p, h1, h2⟩ := h; exact ⟨p, hR i (by simp [refsC]) _ h1, h2⟩
 | sb i n => obtain ⟨p, g, h1, h2⟩ := h; exact ⟨p, g, hR i (by simp [refsC]) _ h1, h2⟩
 | ptr i q => obtain ⟨p, g, h1, h2⟩ := h; exact ⟨p, g, hR i (by simp [refsC]) _ h1, h2⟩
 | kn x => exact h
 | nl => exact h
 | fn f a b =>
  obtain ⟨xs, ys, h1, h2, h3⟩ := h
  have key : ∀ (l : List (Nat × Nat)) (ys : List Value), (∀ q ∈ l, q.1 ∈ refsC (.fn f a b)) → rl (relP π2) (l.map fun p => (id p.1, p.2)) ys → rl (relP π3) (l.map fun p => (id p.1, p.2)) ys := by
   intro l
   induction l with
   | nil => intro ys _ h; cases ys with | nil => trivial | cons _ _ => exact h.elim
   | cons q l ih =>
    intro ys hm h
    cases ys with
    | nil => exact h.elim
    | cons y ys =>
     obtain ⟨⟨p, g, e1, e2, e3⟩, h4⟩ := h
     exact ⟨⟨p, g, hR _ (hm q List.mem_cons_self) _ e1, e2, e3⟩, ih ys (fun q hq => hm q (List.mem_cons_of_mem _ hq)) h4⟩
  exact ⟨xs, ys, h1, key a xs (fun q hq => by simp only [refsC]; exact List.mem_append_left _ (List.mem_map_of_mem hq)) h2, key b ys (fun q hq => by simp only [refsC]; exact List.mem_append_right _ (List.mem_map_of_mem hq)) h3⟩
theorem ref_Cs {π2 π3 : Pi} {J : Imm} : ∀ {ps : List PC} {x : PCsI ps} {ys : List Value}, (∀ j ∈ ps.flatMap refsC, ∀ q, π2 j = some q → π3 j = some q) → rl (relC π2 J) (instCs id ps x) ys → rl (relC π3 J) (instCs id ps x) ys
 | [], _, [], _, _ => trivial
 | p :: ps, x, y :: ys, hR, h => by
  rw [List.flatMap_cons] at hR
  exact ⟨ref_C (fun j hj => hR j (List.mem_append_left _ hj)) h.1, ref_Cs (fun j hj => hR j (List.mem_append_right _ hj)) h.2⟩
 | [], _, _ :: _, _, h => h.elim
 | _ :: _, _, [], _, h => h.elim
theorem ref_O {π2 π3 : Pi} {J : Imm} {i : Nat} {p : PO} {x : p.I} (hi : ∀ q, π2 i = some q → π3 i = some q) (hR : ∀ j ∈ refsO p, ∀ q, π2 j = some q → π3 j = some q) (h : atO π2 J w i (some (p.inst id x))) : atO π3 J w i (some (p.inst id x)) := by
 cases p with
 | blk ty cs => obtain ⟨p, g, ys, h1, h2, h3, h4⟩ := h; exact ⟨p, g, ys, hi _ h1, h2, ref_Cs hR h3, h4⟩
 | stb ty c => obtain ⟨p, g, ys, h1, h2, h3, h4⟩ := h; exact ⟨p, g, ys, hi _ h1, h2, cells_any π2 π3 h3, h4⟩
 | row e c => obtain ⟨p, cs, h1, h2⟩ := h; exact ⟨p, cs, hi _ h1, h2⟩
 | frz c => obtain ⟨p, h1, h2⟩ := h; exact ⟨p, hi _ h1, h2⟩
 | gone => trivial
 | same => trivial
/-- The state at a way out, told by the pattern's numbers; the numbers of the start stay. -/
theorem Viewed.pre {m : AMem} {pre : List Nat} {p : Pat} {sl : ASl} {x : p.I} {s : Sg} {J : Imm} (h : Viewed B π w m I ⟨pre.map (fun i => (i, i)), []⟩ p sl x s J) {i : Nat} (hin : i ∈ pre) : lk s.b i = some i ∧ i < p.ob.length ∧ lk s.fz i = none ∧ view s p.ob.length π i = π i := by
 have hb := h.s0 i i (diag_lk hin)
 have hlt := h.lt i i hb
 refine ⟨hb, hlt.1, hlt.2, ?_⟩
 unfold view
 rw [if_pos hlt.1, hb]
 rfl
theorem Viewed.out {m m0 : AMem} {pre : List Nat} {p : Pat} {sl : ASl} {x : p.I} {s : Sg} {J : Imm} (h : Viewed B π w m I ⟨pre.map (fun i => (i, i)), []⟩ p sl x s J) (h0 : ∀ i, p.ob.length ≤ i → lk m0 i = none)
  (hS : ∀ i, p.ob[i]? = some .same → i ∈ pre ∧ lk m i = lk m0 i ∧ ∃ (po : PO) (z : po.I), lk m0 i = some (po.inst id z) ∧ ∀ j ∈ refsO po, j ∈ pre) :
  SA B J (view s p.ob.length π) (lk (instOb id p.ob 0 x.2 ++ m0)) w := by
 refine (h.sa_of (fun i => ?_)).2
 by_cases hi : i < p.ob.length
 ·rcases h.at hi with q | ⟨q, qs⟩ | ⟨o, q1, q2, q3, q4, q5⟩
  ·exact .inr (.inl (by rw [lk_append, q]; rfl))
  ·obtain ⟨k1, k2, po, z, k3, k4⟩ := hS i qs
   obtain ⟨j1, j2, j3, j4⟩ := h.pre k1
   have hM : lk (instOb id p.ob 0 x.2 ++ m0) i = some (po.inst id z) := by rw [lk_append, q]; exact k3
   have hlk : lk (s.fz ++ m) i = some (po.inst id z) := by rw [lk_append, j3, k2]; exact k3
   refine .inr (.inr ⟨i, j1, by rw [hM]; simp, by rw [hlk]; rfl, ?_, fun k hk => ?_⟩)
   ·rw [hM]
    have := h.sa.res i
    rw [hlk] at this
    exact ref_O (fun q hq => by rw [j4]; exact hq) (fun j hj q hq => by rw [(h.pre (k4 j hj)).2.2.2]; exact hq) this
   ·rw [hM] at hk
    rw [hlk]
    generalize po.inst id z = ob at hk
    cases ob with
    | blk ty cs => obtain ⟨p, e1, e2⟩ := hk; exact ⟨p, by rw [← j4]; exact e1, e2⟩
    | row e c l => obtain ⟨p, a, e1, e2⟩ := hk; exact ⟨p, a, by rw [← j4]; exact e1, e2⟩
    | frz c l => exact hk.elim
    | gone => exact hk.elim
  ·have hM : lk (instOb id p.ob 0 x.2 ++ m0) i = lk (instOb id p.ob 0 x.2) i := by
    rw [lk_append]
    cases hq : lk (instOb id p.ob 0 x.2) i with
    | none => exact absurd hq q2
    | some _ => rfl
   exact .inr (.inr ⟨o, q1, by rw [hM]; exact q2, q3, by rw [hM]; exact q4, fun k hk => by rw [hM] at hk; exact q5 k hk⟩)
 ·exact .inl ⟨by rw [lk_append, instOb_id_none (by omega)]; exact h0 i (by omega), by unfold view; rw [if_neg hi]⟩
/-- Which numbers of the start stay at a way out. -/
def outLe (K : Option (List Nat)) (n : Nat) (q : OutD) (π π' : Pi) : Prop :=
 (∃ K0, K = some K0 ∧ q.k = 0 ∧ ∀ i ∈ K0, ∀ p, π i = some p → π' i = some p) ∨ ((K = none ∨ q.k ≠ 0) ∧ ∀ i, i < n → (i ∈ keep q.p n ∧ (∀ p, π i = some p → π' i = some p)) ∨ (i ∉ keep q.p n ∧ π' i = none))
theorem Viewed.outLe {K : Option (List Nat)} {n : Nat} {m : AMem} {pre : List Nat} {q : OutD} {sl : ASl} {x : q.p.I} {s : Sg} {J : Imm} {obs : List PO} {un : List Nat} (hn : obs.length = n) (h : Viewed B π w m I ⟨pre.map (fun i => (i, i)), []⟩ q.p sl x s J) (hp : PreOk K obs un q pre s) {π0 : Pi} (hπ : π0.le π) :
  outLe K n q π0 (view s q.p.ob.length π) := by
 subst hn
 have h1 : ∀ i ∈ pre, ∀ pl, π0 i = some pl → view s q.p.ob.length π i = some pl := fun i hi pl hpl => by rw [(h.pre hi).2.2.2]; exact hπ i pl hpl
 rcases hp with ⟨h2, h3, _⟩ | ⟨h4, h2, h3, _⟩
 ·exact .inl ⟨pre, h2, h3, h1⟩
 ·refine .inr ⟨h4, fun i hi => ?_⟩
  subst h2
  by_cases hk : i ∈ keep q.p obs.length
  ·exact .inl ⟨hk, h1 i hk⟩
  ·refine .inr ⟨hk, ?_⟩
   have := (h3 i hi).resolve_left hk
   unfold view
   rw [this]
   split <;> rfl
theorem gone_of {p : Pat} {n i : Nat} (hi : i < n) (h : i ∉ keep p n) (x : ObI p.ob) : lk (instOb id p.ob 0 x) i = some .gone := by
 have h1 : p.ob[i]? = some .gone := by
  unfold keep at h
  rw [List.mem_filter] at h
  have h2 : ¬ (match p.ob[i]? with | some o => o.live | none => true) = true := fun e => h ⟨List.mem_range.2 hi, e⟩
  split at h2
  ·rename_i o ho
   rw [ho]
   cases o with
   | gone => rfl
   | _ => exact absurd rfl h2
  ·exact absurd rfl h2
 have hlt : i < p.ob.length := (List.getElem?_eq_some_iff.1 h1).1
 rcases instOb_get id p.ob 0 x i (Nat.zero_le _) (by omega) (fun a b _ _ _ _ e => e) with ⟨e, _⟩ | ⟨po, z, e, e2, _⟩
 ·rw [Nat.sub_zero, h1] at e; cases e
 ·rw [Nat.sub_zero, h1] at e
  injection e with e
  subst e
  exact e2
/-- What is gone may lie anywhere. -/
theorem SA.anywhere {M : Nat → Option AObj} {π' : Pi} (h : SA B I π M w) (hle : π.le π') (hg : ∀ i, π' i ≠ π i → M i = some .gone) : SA B I π' M w := by
 have hb : ∀ o k, fpO π' o (M o) k → fpO π o (M o) k := fun o k hk => fpO.back hle (h.res o) hk
 refine ⟨h.evo, fun o ho => ?_, fun o => (h.res o).mono hle (Imm.le_refl _) (fun _ _ => rfl), fun o k hk => h.own o k (hb o k hk), fun o o' hne k hk hk' => h.dis o o' hne k (hb o k hk) (hb o' k hk'), h.im, fun a v ha o hk => h.imX a v ha o (hb o _ hk), h.le, h.inew⟩
 have h1 := h.dom o ho
 cases he : π' o with
 | none => rfl
 | some p =>
  have := hg o (by rw [he, h1]; simp)
  rw [ho] at this
  cases this
theorem outLe.fix {n : Nat} {q : OutD} {π π' : Pi} {J : Imm} {x : ObI q.p.ob} {m0 : AMem} (h : Go.Proofs.YtfecniimkgkmfaaGreat.AM.outLe none n q π π') (h0 : ∀ i, n ≤ i → π i = none) (hm : SA B J π' (lk (instOb id q.p.ob 0 x ++ m0)) w) :
  ∃ πF, π.le πF ∧ π'.le πF ∧ SA B J πF (lk (instOb id q.p.ob 0 x ++ m0)) w := by
 have h := (h.resolve_left (fun ⟨_, e, _⟩ => by cases e)).2
 let πF : Pi := fun i => if i < n ∧ i ∉ keep q.p n then π i else π' i
 have hF1 : ∀ i, i < n → i ∉ keep q.p n → πF i = π i := fun i h1 h2 => if_pos ⟨h1, h2⟩
 have hF2 : ∀ i, ¬ (i < n ∧ i ∉ keep q.p n) → πF i = π' i := fun i h1 => if_neg h1
 have hle : π'.le πF := fun i p hi => by
  by_cases hc : i < n ∧ i ∉ keep q.p n
  ·rcases h i hc.1 with ⟨h1, _⟩ | ⟨_, h2⟩
   ·exact absurd h1 hc.2
   ·rw [hi] at h2; cases h2
  ·rw [hF2 i hc]; exact hi
 refine ⟨πF, fun i p hi => ?_, hle, hm.anywhere hle (fun i hne => ?_)⟩
 ·have hin : i < n := by
   refine Nat.lt_of_not_le fun hl => ?_
   rw [h0 i hl] at hi
   cases hi
  rcases h i hin with ⟨h1, h2⟩ | ⟨h1, _⟩
  ·rw [hF2 i (fun hc => hc.2 h1)]
   exact h2 p hi
  ·rw [hF1 i hin h1]
   exact hi
 ·by_cases hc : i < n ∧ i ∉ keep q.p n
  ·rw [lk_append, gone_of hc.1 hc.2 x]; rfl
  ·exact absurd (hF2 i hc) hne

/-- A piece of code does what its contract tells; a loop's round may hand pieces on under other numbers. -/
def FragOKK (K : Option (List Nat)) (P : Program) (n : Nat) (c : Code) (d : FragD) : Prop :=
 ∀ x y q z, d.g x = some y → outD d.outs y = some ⟨q, z⟩ → ∀ (I : Imm) (π : Pi) (a : Act) (w : World),
  SlR π I (instSl id d.pin.sl x.1) a → SA ⟨w, fpS π (lk (instOb id d.pin.ob 0 x.2)), I⟩ I π (lk (instOb id d.pin.ob 0 x.2)) w → a.tmps.size = n → ∀ Q : Exit → Act → World → Prop,
  (∀ I' π' a' w', outLe K d.pin.ob.length q π π' → I.le I' → SlR π' I' (instSl id q.p.sl (q.of z).1) a' → SA ⟨w, fpS π (lk (instOb id d.pin.ob 0 x.2)), I⟩ I' π' (lk (instOb id q.p.ob 0 (q.of z).2 ++ instOb id d.pin.ob 0 x.2)) w' → a'.tmps.size = a.tmps.size → a'.defers = a.defers → (∀ t, t ∉ wr c → a'.tmps[t]? = a.tmps[t]?) → Q (ofK q.k) a' w') →
  c.wp P Q a w
theorem FragOKK.ok {n : Nat} {c : Code} {d : FragD} (h : FragOKK none P n c d) : FragOK P n c d := by
 intro x y q z hg ho I π a w hs hm hn Q hk
 refine h x y q z hg ho I π a w hs hm hn Q (fun I' π' a' w' k1 k2 k3 k4 k5 k6 k7 => ?_)
 obtain ⟨πF, h1, h2, h3⟩ := k1.fix (fun i hi => hm.dom i (instOb_id_none hi)) k4
 exact hk I' πF a' w' h1 k2 (k3.ext h2 (Imm.le_refl _)) h3 k5 k6 k7
theorem instOb_len (τ : Nat → Nat) : ∀ {ps : List PO} {n : Nat} {x : ObI ps}, ps.all PO.real = true → (instOb τ ps n x).length = ps.length
 | [], _, _, _ => rfl
 | p :: ps, n, x, h => by
  rw [List.all_cons, Bool.and_eq_true] at h
  have hs : p.isSame = false := by
   have := h.1
   unfold PO.real at this
   cases hq : p.isSame with
   | false => rfl
   | true => rw [hq, Bool.and_eq_true] at this; cases this.2
  rw [instOb_real τ hs, List.length_cons, List.length_cons, instOb_len τ h.2]
/-- What a way out tells of the memory. -/
theorem Viewed.end_ {K : Option (List Nat)} {pin : Pat} {m l : AMem} {x0 : pin.I} {pre : List Nat} {q : OutD} {sl : ASl} {x : q.p.I} {s : Sg} {J : Imm} (hr : pin.ob.all PO.real = true) (hl : m = l ++ instOb id pin.ob 0 x0.2)
  (h : Viewed B π w m I ⟨pre.map (fun i => (i, i)), []⟩ q.p sl x s J) (hp : PreOk K pin.ob (unch m pin.ob.length) q pre s) : SA B J (view s q.p.ob.length π) (lk (instOb id q.p.ob 0 x.2 ++ instOb id pin.ob 0 x0.2)) w := by
 have hlen : pin.ob.length ≤ q.p.ob.length := by
  rcases hp with ⟨_, _, _, h1⟩ | ⟨_, _, _, h1⟩
  ·exact h1
  ·unfold sameOk at h1
   rw [Bool.and_eq_true, Bool.and_eq_true] at h1
   exact Nat.le_of_ble_eq_true h1.1.1
 refine h.out (fun i hi => instOb_id_none (by omega)) (fun i hi => ?_)
 rcases hp with ⟨_, _, h1, _⟩ | ⟨_, hpre, _, h1⟩
 ·cases real_at h1 hi
 ·unfold sameOk at h1
  rw [Bool.and_eq_true, Bool.and_eq_true, List.all_eq_true, List.all_eq_true] at h1
  obtain ⟨⟨_, h2⟩, h3⟩ := h1
  have hlt : i < pin.ob.length := by
   refine Nat.lt_of_not_le fun hge => ?_
   have h5 : (PO.same) ∈ q.p.ob.drop pin.ob.length := by
    refine List.mem_of_getElem? (i := i - pin.ob.length) ?_
    rw [List.getElem?_drop, show pin.ob.length + (i - pin.ob.length) = i by omega]
    exact hi
   cases h3 _ h5
  have h2 := h2 i (List.mem_range.2 hlt)
  rw [hi] at h2
  obtain ⟨po, z, e1, e2⟩ := instOb_id_some (x := x0.2) hr hlt
  simp only [e1, PO.isSame, Bool.not_true, Bool.false_or, Bool.and_eq_true, List.all_eq_true] at h2
  obtain ⟨h4, h5, h6⟩ := h2
  have hkeep : ∀ j, ((keep q.p pin.ob.length).any (Nat.beq j)) = true → j ∈ pre := fun j hj => by
   obtain ⟨j', h7, e⟩ := List.any_eq_true.1 hj
   rw [hpre]
   exact Nat.eq_of_beq_eq_true e ▸ h7
  refine ⟨?_, ?_, po, z, e2, fun j hj => hkeep j (h6 j hj)⟩
  ·rw [hpre]
   unfold keep
   rw [List.mem_filter]
   exact ⟨List.mem_range.2 hlt, by rw [hi]; rfl⟩
  ·obtain ⟨j, h7, e⟩ := List.any_eq_true.1 h4
   have e := Nat.eq_of_beq_eq_true e
   subst e
   unfold unch at h7
   rw [List.mem_filter] at h7
   have h8 := h7.2
   rw [hl, List.length_append, instOb_len id hr, Nat.add_sub_cancel, List.take_left', Bool.not_eq_true', List.any_eq_false] at h8
   ·rw [hl, lk_append]
    cases hq : lk l i with
    | none => rfl
    | some ob =>
     exfalso
     have : ∃ b ∈ l, b.1 = i := by
      clear hl h8
      induction l with
      | nil => cases hq
      | cons b l ih =>
       obtain ⟨j, a⟩ := b
       rw [lk_cons] at hq
       by_cases e : j = i
       ·exact ⟨_, List.mem_cons_self, e⟩
       ·rw [if_neg e] at hq
        obtain ⟨b, hb, e2⟩ := ih hq
        exact ⟨b, List.mem_cons_of_mem _ hb, e2⟩
     obtain ⟨b, hb, e⟩ := this
     have := h8 b hb
     rw [e, Nat.beq_refl] at this
     exact this rfl
   ·rfl

/-- A piece of code does what its run tells. -/
theorem frag_of_run (E : Env) {K : Code} {L : Option (List Nat)} (hfns : ∀ g d, (g, d) ∈ E.fns → FunOK E.P g d) (hfrs : FrsOK E K) {c : Code} {p : Nat} (hp : At K p c) {d : FragD} (hr : d.pin.ob.all PO.real = true) (h : ∀ x, frRun E L c p d x = d.g x) : FragOKK L E.P E.n c d := by
 intro x y q z hg ho I π a w hs hm hn Q hk
 have hrun := (h x).trans hg
 unfold frRun at hrun
 rw [run_inv (Pm := fun m => ∃ l, m = l ++ instOb id d.pin.ob 0 x.2) (fun ws m ⟨l, hl⟩ => ⟨ws ++ l, by rw [hl, List.append_assoc]⟩) c p _ _ ⟨[], rfl⟩] at hrun
 refine run_ok hfns hfrs c p _ _ y hp hrun I π a w hs hm hn Q (fun k st' I' π' a' w' k1 k2 k3 k4 k5 k6 k7 k8 => ?_)
 have hsf : ∃ l, st'.m = l ++ instOb id d.pin.ob 0 x.2 := by
  unfold gd at k1
  split at k1
  ·assumption
  ·cases k1
 rw [gd_pos hsf] at k1
 obtain ⟨lm, hlm⟩ := hsf
 obtain ⟨u, ws, rs, hex, h2⟩ := Tr.run_ex k1
 injection h2 with h2
 subst h2
 obtain ⟨q', z', x', s, J, pre, e1, e2, e3, hv, hp⟩ := extTr_ok k5 hex
 rw [ho] at e1
 injection e1 with e1
 cases e1
 have o2 := hv.end_ hr hlm hp
 have o1 := hv.outLe rfl hp k2
 subst e3
 rw [← e2]
 refine hk J (view s q.p.ob.length π') a' w' o1 (Imm.le_trans k3 hv.le) (fun t av ht => ?_) o2 k6 k7 k8
 obtain ⟨av0, q1, q2⟩ := hv.slot t av ht
 obtain ⟨v, q3, q4⟩ := k4 t av0 q1
 exact ⟨v, q3, q2 J (Imm.le_refl _) v (q4.ext (Pi.le_refl _) hv.le)⟩

/-! ### functions -/
theorem run_asAddr (A : Addr) (w : World) : (asAddr (.pointer (some A))).run P w = .ok A w := rfl
def resF (tmps : Array Value) : ResultVar → Sem Value
 | .tmp t => Pure.pure (tmps.getD t undef)
 | .cell q t => do loadVar t (← asAddr (tmps.getD q undef))
theorem resA_ok {m : AMem} {sl : ASl} {a : Act} (hs : SlR π I sl a) (hm : SA B I π (lk m) w) : ∀ {l : List ResultVar} {ws : List AW}, resA P sl m l = some ws →
  ∃ vs, (l.mapM (resF a.tmps)).run P w = .ok vs w ∧ rl (relW π I) ws vs
 | [], ws, h => by
  simp only [resA, Option.some.injEq] at h
  subst h
  exact ⟨[], rfl, trivial⟩
 | .tmp t :: r, ws, h => by
  simp only [resA] at h
  split at h
  ·rename_i x hx
   split at h
   ·rename_i l hl
    injection h with h
    subst h
    obtain ⟨vs, h1, h2⟩ := resA_ok hs hm hl
    obtain ⟨y, h3, h4⟩ := hs t _ hx
    refine ⟨y :: vs, ?_, h4, h2⟩
    rw [List.mapM_cons]
    simp only [resF, Sem.run_bind, Sem.run_pure, Result.andThen_ok, h1]
    rw [Array.getD_eq_getD_getElem?, h3]
    rfl
   ·cases h
  ·cases h
 | .cell q t :: r, ws, h => by
  simp only [resA] at h
  split at h
  ·rename_i o off hx
   split at h
   ·rename_i ty cs ho
    split at h
    ·rename_i x l hp hl
     injection h with h
     subst h
     obtain ⟨vs, h1, h2⟩ := resA_ok hs hm hl
     obtain ⟨y, h3, p, g, h4, h5, rfl⟩ := hs q _ hx
     obtain ⟨p', g', ys, k1, k2, k3, k4⟩ := atO_blk hm ho
     rw [h4] at k1
     injection k1 with k1
     subst k1
     rw [h5] at k2
     injection k2 with k2
     injection k2 with k2
     subst k2
     obtain ⟨y', q1, q2⟩ := load_part (P := P) hp k3 (rangeAt_blk k4)
     rw [Nat.zero_add] at q1
     refine ⟨y' :: vs, ?_, q2, h2⟩
     have q1 : (loadVar t ⟨g, off, none⟩).run P w = .ok y' w := by
      simpa only [Instr.loadAt, Instr.sureAddr, Sem.run_bind, Sem.run_pure, Result.andThen_ok] using q1
     rw [List.mapM_cons]
     have he : a.tmps.getD q undef = .pointer (some ⟨g, off, none⟩) := by rw [Array.getD_eq_getD_getElem?, h3]; rfl
     simp only [resF, he, Sem.run_bind, run_asAddr, Result.andThen_ok, q1, h1]
     rfl
    ·cases h
   ·cases h
  ·cases h
theorem results_ok {fn : Func} {m : AMem} {sl : ASl} {a : Act} (hs : SlR π I sl a) (hm : SA B I π (lk m) w) {ws : List AW} (h : resA P sl m fn.results.toList = some ws) : ∃ v, (results fn a.tmps).run P w = .ok v w ∧ relV π I (oneA ws) v := by
 obtain ⟨vs, h1, h2⟩ := resA_ok (P := P) hs hm h
 have hr : (results fn a.tmps).run P w = .ok (if h : vs.toArray.size = 1 then vs.toArray[0] else .tuple vs.toArray) w := by
  unfold results
  rw [Array.mapM_eq_mapM_toList, mapM_congr_list (g := resF a.tmps) fn.results.toList (fun x _ => by cases x <;> rfl)]
  simp only [Sem.run_bind, Sem.run_map, Sem.run_pure, h1, Result.andThen_ok]
 refine ⟨_, hr, ?_⟩
 match ws, vs, h2 with
 | [], [], _ => exact ⟨[], rfl, trivial⟩
 | [x], [y], h2 => exact h2.1
 | x :: x2 :: ws, y :: y2 :: vs, h2 =>
  have hne : ¬ (y :: y2 :: vs).toArray.size = 1 := by simp
  rw [dif_neg hne]
  exact ⟨_, rfl, h2⟩
/-- A function does what its run tells. -/
theorem fun_of_run (E : Env) {f : FuncId} {fn : Func} (hf : E.P.funcs[f]? = some fn) (hb : fn.body = some (cBody fn)) (hn : fn.ntmps = E.n) (hfns : ∀ g d, (g, d) ∈ E.fns → FunOK E.P g d) (hfrs : FrsOK E (cBody fn)) {d : FragD} (hr : d.pin.ob.all PO.real = true) (h : ∀ x, fnRun E fn d x = d.g x) : FunOK E.P f d := by
 intro x y q z hg ho I π w vs hlen _ hvs hm
 have hrun := (h x).trans hg
 unfold fnRun at hrun
 rw [run_inv (Pm := fun m => ∃ l, m = l ++ instOb id d.pin.ob 0 x.2) (fun ws m ⟨l, hl⟩ => ⟨ws ++ l, by rw [hl, List.append_assoc]⟩) (cBody fn) 1 _ _ ⟨[], rfl⟩] at hrun
 have hl := hlen fn hf
 refine calls_of_wp hf hb ?_
 refine run_ok hfns hfrs (cBody fn) 1 _ _ y (At.top _) hrun I π _ w (fun t av ht => ?_) hm ?_ _ (fun k st' I' π' a' w' k1 k2 k3 k4 k5 k6 k7 k8 => ?_)
 ·obtain ⟨v, h1, h2⟩ := hvs t av ht
  refine ⟨v, ?_, h2⟩
  rw [Array.getElem?_append_left (by simpa using (List.getElem?_eq_some_iff.1 h1).1), List.getElem?_toArray]
  exact h1
 ·simp only [Array.size_append, List.size_toArray, Array.size_replicate]
  omega
 ·have hsf : ∃ l, st'.m = l ++ instOb id d.pin.ob 0 x.2 := by
   unfold gd at k1
   split at k1
   ·assumption
   ·cases k1
  rw [gd_pos hsf] at k1
  obtain ⟨lm, hlm⟩ := hsf
  have fin : (match resA E.P st'.sl st'.m fn.results.toList with | some l => (extTr none d.pin.ob (unch st'.m d.pin.ob.length) 1 [(0, oneA l)] d.outs).run st'.m [] fun y _ _ => some y | none => none) = some y →
    a'.defers = [] ∧ ∃ v, (results fn a'.tmps).run E.P w' = .ok v w' ∧ (∃ v0, Ending.returned v = .returned v0 ∧ ∃ π' J, π.le π' ∧ I.le J ∧ SA ⟨w, fpS π (lk (instOb id d.pin.ob 0 x.2)), I⟩ J π' (lk (instOb id q.p.ob 0 (q.of z).2 ++ instOb id d.pin.ob 0 x.2)) w' ∧ ∀ av, lk (instSl id q.p.sl (q.of z).1) 0 = some av → relV π' J av v0) := by
   intro k1
   split at k1
   ·rename_i l hl
    obtain ⟨u, ws, rs, hex, h2⟩ := Tr.run_ex k1
    injection h2 with h2
    subst h2
    obtain ⟨q', z', x', s, J, pre, e1, e2, e3, hv, hp⟩ := extTr_ok k5 hex
    rw [ho] at e1
    injection e1 with e1
    cases e1
    have o2 := hv.end_ hr hlm hp
    obtain ⟨πF, o1, o3, o4⟩ := (hv.outLe rfl hp k2).fix (fun i hi => hm.dom i (instOb_id_none hi)) o2
    subst e3
    obtain ⟨v, r1, r2⟩ := results_ok k4 k5 hl
    refine ⟨k7, v, r1, v, rfl, πF, J, o1, Imm.le_trans k3 hv.le, o4, ?_⟩
    intro av hav
    obtain ⟨av0, q1, q2⟩ := hv.slot 0 av hav
    rw [lk_cons, if_pos rfl] at q1
    injection q1 with q1
    subst q1
    exact (q2 J (Imm.le_refl _) v (r2.ext (Pi.le_refl _) hv.le)).ext o3 (Imm.le_refl _)
   ·cases k1
  match k, k1 with
  | 0, k1 => exact fin k1
  | 1, k1 => exact fin k1
  | k + 2, k1 => cases k1
end
end Go.Proofs.YtfecniimkgkmfaaGreat.AM
namespace Go.Proofs.YtfecniimkgkmfaaGreat.AM
open Go Go.RowKit Go.Proofs.YtfecniimkgkmfaaGreat.RW

def joinSl : (vs cs : List (Nat × PV)) → SlI vs → SlI cs → SlI (vs ++ cs)
 | [], _, _, y => y
 | _ :: r, cs, x, y => (x.1, joinSl r cs x.2 y)
def ctxSl : (vs cs : List (Nat × PV)) → SlI (vs ++ cs) → SlI cs
 | [], _, x => x
 | _ :: r, cs, x => ctxSl r cs x.2
def varSl : (vs cs : List (Nat × PV)) → SlI (vs ++ cs) → SlI vs
 | [], _, _ => ()
 | _ :: r, cs, x => (x.1, varSl r cs x.2)
theorem inst_join (τ : Nat → Nat) : ∀ (vs cs : List (Nat × PV)) (x : SlI vs) (y : SlI cs), instSl τ (vs ++ cs) (joinSl vs cs x y) = instSl τ vs x ++ instSl τ cs y
 | [], _, _, _ => rfl
 | p :: r, cs, x, y => by
  show (p.1, p.2.inst τ x.1) :: instSl τ (r ++ cs) (joinSl r cs x.2 y) = _
  rw [inst_join τ r cs x.2 y]
  rfl
theorem join_split : ∀ (vs cs : List (Nat × PV)) (x : SlI (vs ++ cs)), joinSl vs cs (varSl vs cs x) (ctxSl vs cs x) = x
 | [], _, _ => rfl
 | p :: r, cs, x => by
  show (x.1, joinSl r cs (varSl r cs x.2) (ctxSl r cs x.2)) = x
  rw [join_split r cs x.2]
  rfl

/-- A loop: what its rounds hand on (vs, ob), what they only look at (cs), its ways out. -/
structure LoopD where
 vs : List (Nat × PV)
 cs : List (Nat × PV)
 ob : List PO
 R : Type
 to : SlI vs × ObI ob → R
 of : R → SlI vs × ObI ob
 ok : ∀ y, of (to y) = y
 q : OutD
 r : List OutD
 step : (SlI (vs ++ cs) × ObI ob) → Option (R ⊕ OutI (q :: r))
 K : List Nat
namespace LoopD
def pin (L : LoopD) : Pat := ⟨L.vs ++ L.cs, L.ob⟩
def bodyD (L : LoopD) : FragD := { pin := ⟨L.vs ++ L.cs, L.ob⟩, outs := ⟨0, ⟨L.vs, L.ob⟩, L.R, L.to, L.of, L.ok⟩ :: L.q :: L.r, g := L.step }
def loopD (L : LoopD) (G : (SlI (L.vs ++ L.cs) × ObI L.ob) → Option (OutI (L.q :: L.r))) : FragD := { pin := ⟨L.vs ++ L.cs, L.ob⟩, outs := L.q :: L.r, g := G }
def next (L : LoopD) (x : SlI (L.vs ++ L.cs) × ObI L.ob) (r : L.R) : SlI (L.vs ++ L.cs) × ObI L.ob := (joinSl L.vs L.cs (L.of r).1 (ctxSl L.vs L.cs x.1), (L.of r).2)
end LoopD

theorem keys_inst {τ : Nat → Nat} : ∀ {ps : List (Nat × PV)} {x : SlI ps} {t : Nat} {av : AV}, lk (instSl τ ps x) t = some av → t ∈ ps.map (·.1)
 | [], _, _, _, h => by cases h
 | p :: ps, x, t, av, h => by
  simp only [instSl] at h
  rw [lk_cons] at h
  split at h
  ·rename_i e
   exact List.mem_cons.2 (.inl e.symm)
  ·exact List.mem_cons_of_mem _ (keys_inst h)

def PC.flat : PC → Bool
 | .h _ => true
 | .full _ => true
 | _ => false
def PW.flat : PW → Bool
 | .c p => p.flat
 | .st _ => true
 | .agg l => l.all PC.flat
def PV.flat : PV → Bool
 | .w p => p.flat
 | .tup l => l.all PW.flat
section
variable {π2 π3 : Pi} {J : Imm}
theorem flat_C {p : PC} {x : p.I} {y : Value} (hp : p.flat = true) (h : relC π2 J (p.inst id x) y) : relC π3 J (p.inst id x) y := by
 cases p with
 | h c => exact one_any π2 π3 (c := c) h
 | full c => exact h
 | _ => cases hp
theorem flat_Cs : ∀ {ps : List PC} {x : PCsI ps} {ys : List Value}, ps.all PC.flat = true → rl (relC π2 J) (instCs id ps x) ys → rl (relC π3 J) (instCs id ps x) ys
 | [], _, [], _, _ => trivial
 | p :: ps, x, y :: ys, hp, h => by
  rw [List.all_cons, Bool.and_eq_true] at hp
  exact ⟨flat_C hp.1 h.1, flat_Cs hp.2 h.2⟩
 | [], _, _ :: _, _, h => h.elim
 | _ :: _, _, [], _, h => h.elim
theorem flat_W {p : PW} {x : p.I} {y : Value} (hp : p.flat = true) (h : relW π2 J (p.inst id x) y) : relW π3 J (p.inst id x) y := by
 cases p with
 | c p => exact flat_C hp h
 | st c => obtain ⟨ys, h1, h2⟩ := h; exact ⟨ys, h1, cells_any π2 π3 h2⟩
 | agg l => obtain ⟨ys, h1, h2⟩ := h; exact ⟨ys, h1, flat_Cs hp h2⟩
theorem flat_Ws : ∀ {ps : List PW} {x : PWsI ps} {ys : List Value}, ps.all PW.flat = true → rl (relW π2 J) (instWs id ps x) ys → rl (relW π3 J) (instWs id ps x) ys
 | [], _, [], _, _ => trivial
 | p :: ps, x, y :: ys, hp, h => by
  rw [List.all_cons, Bool.and_eq_true] at hp
  exact ⟨flat_W hp.1 h.1, flat_Ws hp.2 h.2⟩
 | [], _, _ :: _, _, h => h.elim
 | _ :: _, _, [], _, h => h.elim
theorem flat_V {p : PV} {x : p.I} {y : Value} (hp : p.flat = true) (h : relV π2 J (p.inst id x) y) : relV π3 J (p.inst id x) y := by
 cases p with
 | w p => exact flat_W hp h
 | tup l => obtain ⟨ys, h1, h2⟩ := h; exact ⟨ys, h1, flat_Ws hp h2⟩
theorem flat_Sl : ∀ {ps : List (Nat × PV)} {x : SlI ps} {t : Nat} {av : AV}, ps.all (fun p => p.2.flat) = true → lk (instSl id ps x) t = some av → ∀ y, relV π2 J av y → relV π3 J av y
 | [], _, _, _, _, h => by cases h
 | p :: ps, x, t, av, hp, h => by
  rw [List.all_cons, Bool.and_eq_true] at hp
  simp only [instSl] at h
  rw [lk_cons] at h
  split at h
  ·injection h with h
   subst h
   exact fun y hy => flat_V hp.1 hy
  ·exact flat_Sl hp.2 h
end
/-- Pieces that turn are gone at each way out. -/
def LoopD.outsOk (L : LoopD) : Bool := ((L.q :: L.r).all fun d => Nat.blt 0 d.k && (List.range L.ob.length).all fun i => L.K.any (Nat.beq i) || !(keep d.p L.ob.length).any (Nat.beq i)) && (L.ob.all PO.real && (L.q :: L.r).all fun d => Nat.ble L.ob.length d.p.ob.length && d.p.ob.all fun p => !p.isSame)
theorem lk_over {ps qs : List PO} {x : ObI ps} {y : ObI qs} (hs : ps.all (fun p => !p.isSame) = true) (hl : qs.length ≤ ps.length) (o : Nat) : lk (instOb id ps 0 x ++ instOb id qs 0 y) o = lk (instOb id ps 0 x) o := by
 rw [lk_append]
 by_cases ho : o < ps.length
 ·rcases instOb_get id ps 0 x o (Nat.zero_le _) (by omega) (fun a b _ _ _ _ e => e) with ⟨h1, _⟩ | ⟨p, z, _, h1, _⟩
  ·rw [List.all_eq_true] at hs
   cases hs _ (List.mem_of_getElem? h1)
  ·have h1 : lk (instOb id ps 0 x) o = _ := h1
   rw [h1]; rfl
 ·rw [instOb_id_none (by omega), instOb_id_none (by omega)]; rfl

theorem loop_ok {P : Program} {n : Nat} {b : Code} (L : LoopD) (hctx : L.cs.all (fun p => p.2.flat && !(wr b).any (Nat.beq p.1)) = true) (hex : L.outsOk = true) (hB : FragOKK (some L.K) P n b L.bodyD)
  (G : Nat → (SlI (L.vs ++ L.cs) × ObI L.ob) → Option (OutI (L.q :: L.r))) (h0 : ∀ x, G 0 x = none) (hs : ∀ k x, G (k + 1) x = (L.step x).bind fun z => match z with | .inl r => G k (L.next x r) | .inr y => some y) :
  ∀ k, FragOKL k P n b (L.loopD (G k)) := by
 unfold LoopD.outsOk at hex
 rw [Bool.and_eq_true, Bool.and_eq_true] at hex
 obtain ⟨hex, hreal, hov⟩ := hex
 have hreal' : L.ob.all (fun p => !p.isSame) = true := by
  rw [List.all_eq_true] at hreal ⊢
  exact fun p hp => ((Bool.and_eq_true _ _).mp (hreal p hp)).2
 have hov : ∀ d ∈ L.q :: L.r, L.ob.length ≤ d.p.ob.length ∧ d.p.ob.all (fun p => !p.isSame) = true := fun d hd => by
  rw [List.all_eq_true] at hov
  have := hov d hd
  rw [Bool.and_eq_true] at this
  exact ⟨Nat.le_of_ble_eq_true this.1, this.2⟩
 rw [List.all_eq_true] at hex
 have hpos : ∀ d ∈ L.q :: L.r, d.k ≠ 0 := fun d hd e => by
  have := hex d hd
  rw [Bool.and_eq_true, e] at this
  cases this.1
 have hnorm : ∀ d ∈ L.q :: L.r, ofK d.k ≠ .normal := fun d hd => by
  have := hpos d hd
  intro e
  match hk : d.k, this with
  | 1, _ => rw [hk] at e; cases e
  | k + 2, _ => rw [hk] at e; cases e
 have hkeep : ∀ d ∈ L.q :: L.r, ∀ i, i < L.ob.length → i ∈ keep d.p L.ob.length → i ∈ L.K := fun d hd i hi hk => by
  have := hex d hd
  rw [Bool.and_eq_true, List.all_eq_true] at this
  have := this.2 i (List.mem_range.2 hi)
  rw [Bool.or_eq_true] at this
  rcases this with h | h
  ·obtain ⟨j, hj, e⟩ := List.any_eq_true.1 h
   exact Nat.eq_of_beq_eq_true e ▸ hj
  ·simp only [Bool.not_eq_true', List.any_eq_false] at h
   exact absurd (Nat.beq_refl i) (h i hk)
 have hflat : L.cs.all (fun p => p.2.flat) = true := by
  rw [List.all_eq_true] at hctx ⊢
  exact fun p hp => (Bool.and_eq_true _ _ ▸ hctx p hp).1
 have hc : ∀ t ∈ L.cs.map (·.1), t ∉ wr b := fun t ht hm => by
  obtain ⟨p, hp, rfl⟩ := List.mem_map.1 ht
  rw [List.all_eq_true] at hctx
  have := hctx p hp
  simp only [Bool.and_eq_true, Bool.not_eq_true', List.any_eq_false] at this
  exact this.2 _ hm (by simp)
 intro k x y q z hg ho I π a w hsl hm hn Q hk
 obtain ⟨x02, hx0⟩ : ∃ x02, x02 = x.2 := ⟨_, rfl⟩
 show Code.rounds P b Q k a w
 have hdom : ∀ i, L.ob.length ≤ i → π i = none := fun i hi => hm.dom i (instOb_id_none hi)
 generalize hB0 : (⟨w, fpS π (lk (instOb id (L.loopD (G k)).pin.ob 0 x.2)), I⟩ : Base) = B0 at hm hk
 have rounds : ∀ k (x : SlI (L.vs ++ L.cs) × ObI L.ob) (I' : Imm) (π' : Pi) (a' : Act) (w' : World), G k x = some y → SlR π' I' (instSl id (L.vs ++ L.cs) x.1) a' → SA B0 I' π' (lk (instOb id L.ob 0 x.2)) w' → (∀ i ∈ L.K, ∀ p, π i = some p → π' i = some p) → I.le I' → a'.tmps.size = n → a'.defers = a.defers → (∀ t, t ∉ wr b → a'.tmps[t]? = a.tmps[t]?) → a'.tmps.size = a.tmps.size → Code.rounds P b Q k a' w' := by
  intro k
  induction k with
  | zero => intro x I' π' a' w' h; rw [h0] at h; cases h
  | succ k ih =>
   intro x I' π' a' w' h hsl hm h1 h2 h3 h4 h5 h6
   rw [hs] at h
   obtain ⟨u, hu, h⟩ := Option.bind_eq_some_iff.1 h
   show b.wp P (Exit.then (Code.rounds P b Q k) Q) a' w'
   cases u with
   | inl r =>
    refine hB x (.inl r) ⟨0, ⟨L.vs, L.ob⟩, L.R, L.to, L.of, L.ok⟩ r hu rfl I' π' a' w' hsl hm.restart h3 _ (fun I2 π2 a2 w2 k1 k2 k3 k4 k5 k6 k7 => ?_)
    show Code.rounds P b Q k a2 w2
    have k4 := k4.congr (fun o => lk_over (ps := L.ob) hreal' (Nat.le_refl _) o)
    have k1 : ∀ i ∈ L.K, ∀ p, π' i = some p → π2 i = some p := by
     rcases k1 with ⟨K0, e, _, k1⟩ | ⟨e | e, _⟩
     ·injection e with e
      subst e
      exact k1
     ·cases e
     ·exact absurd rfl e
    refine ih (L.next x r) I2 π2 a2 w2 h (fun t av ht => ?_) (hm.comp k4) (fun i hi p hp => k1 i hi p (h1 i hi p hp)) (Imm.le_trans h2 k2) (by rw [k5]; exact h3) (k6.trans h4) (fun t ht => (k7 t ht).trans (h5 t ht)) (k5.trans h6)
    have ht : lk (instSl id (L.vs ++ L.cs) (joinSl L.vs L.cs (L.of r).1 (ctxSl L.vs L.cs x.1))) t = some av := ht
    rw [inst_join, lk_append] at ht
    cases hl : lk (instSl id L.vs (L.of r).1) t with
    | some av1 =>
     rw [hl] at ht
     injection ht with ht
     subst ht
     exact k3 t av1 hl
    | none =>
     rw [hl] at ht
     -- what the rounds only look at
     have hx : lk (instSl id L.cs (ctxSl L.vs L.cs x.1)) t = some av := ht
     have hctxsl : ∃ y0, a'.tmps[t]? = some y0 ∧ relV π' I' av y0 := by
      have hxx := join_split L.vs L.cs x.1
      by_cases hv : lk (instSl id L.vs (varSl L.vs L.cs x.1)) t = none
      ·refine hsl t av ?_
       rw [← hxx, inst_join, lk_append, hv]
       exact hx
      ·exfalso
       obtain ⟨av2, hav2⟩ := Option.ne_none_iff_exists'.1 hv
       have hmem := keys_inst hav2
       -- the same slot would be told among the variables
       have hl2 : lk (instSl id L.vs (L.of r).1) t ≠ none := by
        have : ∀ (ps : List (Nat × PV)) (x : SlI ps), t ∈ ps.map (·.1) → lk (instSl id ps x) t ≠ none := by
         intro ps
         induction ps with
         | nil => intro x h; cases h
         | cons p ps ih =>
          intro x h
          simp only [instSl]
          rw [lk_cons]
          by_cases e : p.1 = t
          ·rw [if_pos e]; simp
          ·rw [if_neg e]
           exact ih x.2 ((List.mem_cons.1 h).resolve_left (fun e2 => e e2.symm))
        exact this L.vs _ hmem
       exact hl2 hl
     obtain ⟨y0, q1, q2⟩ := hctxsl
     exact ⟨y0, by rw [k7 t (hc t (keys_inst hx))]; exact q1, flat_Sl hflat hx y0 (q2.ext (Pi.le_refl _) k2)⟩
   | inr y' =>
    obtain rfl : y' = y := Option.some.inj h
    refine hB x (.inr y') q z hu ho I' π' a' w' hsl hm.restart h3 _ (fun I2 π2 a2 w2 k1 k2 k3 k4 k5 k6 k7 => ?_)
    have hqm : q ∈ L.q :: L.r := outD_mem ho
    have k4 := k4.congr (fun o => (lk_over (ps := q.p.ob) (hov q hqm).2 (hov q hqm).1 o).trans (lk_over (ps := q.p.ob) (qs := L.ob) (y := x02) (hov q hqm).2 (hov q hqm).1 o).symm)
    rw [hx0] at k4
    have k1 : outLe none L.ob.length q π π2 := by
     rcases k1 with ⟨K0, _, e, _⟩ | ⟨_, k1⟩
     ·exact absurd e (hpos q hqm)
     ·refine .inr ⟨.inl rfl, fun i hi => ?_⟩
      rcases k1 i hi with ⟨e1, e2⟩ | e
      ·exact .inl ⟨e1, fun p hp => e2 p (h1 i (hkeep q hqm i hi e1) p hp)⟩
      ·exact .inr e
    obtain ⟨πF, q1, q2, q3⟩ := k1.fix hdom (hm.comp k4)
    have hq := hk I2 πF a2 w2 q1 (Imm.le_trans h2 k2) (k3.ext q2 (Imm.le_refl _)) q3 (k5.trans h6) (k6.trans h4) (fun t ht => (k7 t ht).trans (h5 t ht))
    have hne := hnorm q hqm
    generalize ofK q.k = e at hq hne
    cases e with
    | normal => exact absurd rfl hne
    | _ => exact hq
 exact rounds k x I π a w hg hsl hm (fun _ _ _ h => h) (Imm.le_refl _) hn rfl (fun _ _ => rfl) rfl
end Go.Proofs.YtfecniimkgkmfaaGreat.AM
namespace Go.Proofs.YtfecniimkgkmfaaGreat.RW
open Go Go.RowKit

/-- The whole memory, as cells that never turn. -/
def wImm (W : World) : Imm := look W
theorem wImm_at (W : World) : (wImm W).at_ W := fun _ _ h => h
/-- What reads as a datum of type t is told by d, with p. -/
def Opens (P : Program) {α : Type} (d : Ty α) (t : TypeId) (p : α → Prop) : Prop :=
 ∀ {H : Type} {enc : TypeId × Value → H} (W : World) (base : Nat) (sp : Nat → Bool) (held : Bool) (fuel : Nat) (cs : List Value) (x : DataW H × List MemPlace), DataW.trod enc P W base sp held fuel t cs = some x → ∃ a, d.K (wImm W) a cs ∧ p a

section
variable {P : Program} {α β : Type} {d : Ty α} {t e : TypeId} {p : α → Prop}
theorem opens_int {k : IntKind} (ht : P.underlying t = some (.int k)) : Opens P (Ty.int k) t (fun n => (Lit.int k n).wf = true) := by
 intro H enc W base sp held fuel cs x h
 obtain ⟨n, rfl, _, hw⟩ := DataW.trod_int ht h
 exact ⟨n, rfl, hw⟩
theorem opens_bool (ht : P.underlying t = some .bool) : Opens P Ty.bool t (fun _ => True) := by
 intro H enc W base sp held fuel cs x h
 obtain ⟨b, rfl, _⟩ := DataW.trod_bool ht h
 exact ⟨b, rfl, trivial⟩
theorem opens_string (ht : P.underlying t = some .string) : Opens P Ty.string t (fun s => s.size ≤ maxLen) := by
 intro H enc W base sp held fuel cs x h
 obtain ⟨s, rfl, _, hs⟩ := DataW.trod_string ht h
 exact ⟨s, rfl, hs⟩
theorem add_add {a : Addr} (h : a.spot = none) (n m : Nat) : (a.add n).add m = ⟨a.block, a.off + n + m, none⟩ := by
 obtain ⟨b, o, s⟩ := a
 obtain rfl : s = none := h
 unfold Addr.add
 split <;> split <;> simp_all
theorem opens_slice (ho : Opens P d e p) (ht : P.underlying t = some (.slice e)) (hsz : P.cellsOf e = d.sz) (hpos : 0 < d.sz) : Opens P (Ty.slice d) t (fun l => ∀ x ∈ l, p x) := by
 intro H enc W base sp held fuel cs x h
 rcases DataW.trod_slice ht h with ⟨rfl, _⟩ | ⟨a, len, cap, elems, rest, n, _, rfl, _, hb, hl, hm, hlen, hel, _, _⟩
 ·exact ⟨[], ⟨none, 0, rfl, Nat.le_refl _, Rd.nil _ _ _⟩, fun x hx => by cases hx⟩
 ·have hsp0 : 0 < len → a.spot = none := by
   intro hi
   have h1 := hel 0 hi
   rw [List.getElem?_eq_getElem (by rw [hlen]; exact hi), Option.bind_eq_some_iff] at h1
   obtain ⟨c, hc, hy⟩ := h1
   obtain ⟨_, hcl, hcell⟩ := World.cells?_some hc
   have h2 := hcell 0 (by rw [hsz]; exact hpos)
   have hlt : 0 < c.length := by rw [hcl, hsz]; exact hpos
   rw [List.getElem?_eq_getElem hlt, show (a.add (0 * P.cellsOf e)).add 0 = a from by simp [Addr.add]] at h2
   cases hsp : a.spot with
   | none => rfl
   | some s =>
    exfalso
    unfold World.cell? at h2
    split at h2
    ·rw [hsp] at h2; simp at h2
    ·cases h2
  have each : ∀ i, i < len → ∃ v c, d.K (wImm W) v c ∧ p v ∧ a.spot = none ∧ ∀ q u, c[q]? = some u → wImm W ⟨a.block, a.off + i * d.sz + q, none⟩ = some u := by
   intro i hi
   have h1 := hel i hi
   rw [List.getElem?_eq_getElem (by rw [hlen]; exact hi), Option.bind_eq_some_iff] at h1
   obtain ⟨c, hc, hy⟩ := h1
   obtain ⟨v, hk, hp⟩ := ho W base sp held n c _ hy
   obtain ⟨_, hcl, hcell⟩ := World.cells?_some hc
   have hspot := hsp0 (by omega)
   refine ⟨v, c, hk, hp, hspot, fun q u hu => ?_⟩
   have hql : q < c.length := (List.getElem?_eq_some_iff.1 hu).1
   have h2 := hcell q (by rw [← hcl]; exact hql)
   rw [add_add hspot, hsz, hu] at h2
   exact h2
  have build : ∀ n, n ≤ len → ∃ l : List α, l.length = n ∧ (∀ x ∈ l, p x) ∧ ∀ (j : Nat) (v : α), l[j]? = some v → ∃ c, d.K (wImm W) v c ∧ a.spot = none ∧ ∀ q u, c[q]? = some u → wImm W ⟨a.block, a.off + j * d.sz + q, none⟩ = some u := by
   intro n
   induction n with
   | zero => intro _; exact ⟨[], rfl, (fun x hx => by cases hx), fun j v hj => by cases hj⟩
   | succ n ih =>
    intro hn
    obtain ⟨l, hl1, hl2, hl3⟩ := ih (by omega)
    obtain ⟨v, c, hk, hp, hs, hc⟩ := each n (by omega)
    refine ⟨l ++ [v], by simp [hl1], fun x hx => ?_, fun j w hj => ?_⟩
    ·rcases List.mem_append.1 hx with hx | hx
     ·exact hl2 x hx
     ·rw [List.mem_singleton.1 hx]; exact hp
    ·rcases Nat.lt_or_ge j l.length with hlt | hge
     ·rw [List.getElem?_append_left hlt] at hj
      exact hl3 j w hj
     ·rw [List.getElem?_append_right hge] at hj
      have hj0 : j - l.length = 0 := by
       rcases Nat.eq_zero_or_pos (j - l.length) with h0 | h0
       ·exact h0
       ·rw [List.getElem?_eq_none (by simp; omega)] at hj; cases hj
      rw [hj0] at hj
      simp only [List.getElem?_cons_zero, Option.some.injEq] at hj
      subst hj
      obtain rfl : j = n := by omega
      exact ⟨c, hk, hs, hc⟩
  obtain ⟨l, hl1, hl2, hl3⟩ := build len (Nat.le_refl _)
  refine ⟨l, ⟨some a, cap, by rw [hl1], by omega, ⟨by unfold maxLen at hm; omega, fun hne => ?_⟩⟩, hl2⟩
  have h0 : 0 < l.length := List.length_pos_iff.2 hne
  obtain ⟨_, _, hs, _⟩ := hl3 0 _ (List.getElem?_eq_getElem h0)
  refine ⟨a.block, a.off, by obtain ⟨b, o, s⟩ := a; simp_all, fun j v hj => ?_⟩
  obtain ⟨c, hk, _, hc⟩ := hl3 j v hj
  exact ⟨c, hk, hc⟩

/-- The fields of a struct, from cell 'off' on. -/
def offs : Nat → List (TypeId × Nat) → List (TypeId × Nat × Nat)
 | _, [] => []
 | o, (t, n) :: r => (t, o, n) :: offs (o + n) r
def total : List (TypeId × Nat) → Nat
 | [] => 0
 | (_, n) :: r => n + total r
def OpensF (P : Program) {α : Type} (d : Ty α) (fl : List (TypeId × Nat)) (p : α → Prop) : Prop :=
 ∀ {H : Type} {enc : TypeId × Value → H} (W : World) (base : Nat) (sp : Nat → Bool) (held : Bool) (fuel off : Nat) (cs : List Value),
  (∀ q ∈ offs off fl, ∃ x, DataW.trod enc P W base sp held fuel q.1 ((cs.drop q.2.1).take q.2.2) = some x) → cs.length = off + total fl → ∃ a, d.K (wImm W) a (cs.drop off) ∧ p a
theorem opensF_one (ho : Opens P d t p) (n : Nat) : OpensF P d [(t, n)] p := by
 intro H enc W base sp held fuel off cs h hl
 obtain ⟨x, hx⟩ := h _ List.mem_cons_self
 simp only [total, Nat.add_zero] at hl
 have e : (cs.drop off).take n = cs.drop off := List.take_of_length_le (by rw [List.length_drop]; omega)
 simp only at hx
 rw [e] at hx
 exact ho W base sp held fuel _ x hx
theorem opensF_cons {d2 : Ty β} {fl : List (TypeId × Nat)} {q : β → Prop} (n : Nat) (ho : Opens P d t p) (hr : OpensF P d2 fl q) : OpensF P (Ty.pair d d2) ((t, n) :: fl) (fun x => p x.1 ∧ q x.2) := by
 intro H enc W base sp held fuel off cs h hl
 simp only [total] at hl
 obtain ⟨x, hx⟩ := h _ List.mem_cons_self
 obtain ⟨a, hk, hp⟩ := ho W base sp held fuel _ x hx
 obtain ⟨b, hk2, hp2⟩ := hr (enc := enc) W base sp held fuel (off + n) cs (fun q hq => h q (List.mem_cons_of_mem _ hq)) (by omega)
 refine ⟨(a, b), ⟨_, _, ?_, hk, hk2⟩, hp, hp2⟩
 simp only
 rw [← List.drop_drop, List.take_append_drop]
theorem opens_struct {fl : List (TypeId × Nat)} (ho : OpensF P d fl p) (ht : P.underlying t = some (.struct (P.fieldsOf t))) (hf : (P.fieldsOf t).toList.map (fun f => (f.type, f.offset, P.cellsOf f.type)) = offs 0 fl) (hc : P.cellsOf t = total fl)
  (f : β → α) (g : α → β) (hg : ∀ y, f (g y) = y) : Opens P (Ty.iso d f) t (fun x => p (f x)) := by
 intro H enc W base sp held fuel cs x h
 obtain ⟨xs, n, _, _, hcl, hxl, hx⟩ := DataW.trod_struct ht h
 have hseg : ∀ q ∈ offs 0 fl, ∃ x, DataW.trod enc P W base sp held n q.1 ((cs.drop q.2.1).take q.2.2) = some x := by
  intro q hq
  rw [← hf] at hq
  obtain ⟨f, hfm, rfl⟩ := List.mem_map.1 hq
  obtain ⟨i, hi, hif⟩ := List.getElem_of_mem hfm
  have h1 := hx i f (by rw [← Array.getElem?_toList, List.getElem?_eq_getElem hi, hif])
  have h2 : i < xs.length := by rw [hxl]; simpa using hi
  rw [List.getElem?_eq_getElem h2] at h1
  exact ⟨_, h1⟩
 obtain ⟨a, hk, hp⟩ := ho W base sp held n 0 cs hseg (by rw [hcl, hc, Nat.zero_add])
 refine ⟨g a, ?_, by show p (f (g a)); rw [hg]; exact hp⟩
 show d.K (wImm W) (f (g a)) cs
 rw [hg]
 exact hk
end
end Go.Proofs.YtfecniimkgkmfaaGreat.RW
