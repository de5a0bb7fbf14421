/- The iterator over the messages that count, and the tally: what they compute. -/
import Derived.Test.YtieakigoinebdaaRWP
import Derived.Test.YtieakigoinebdaaG32
import Derived.Test.YtieakigoinebdaaG22
namespace Go.Proofs.Ytieakigoinebdaa
open Go Go.RowKit Go.Proofs.Ytieakigoinebdaa.RW
set_option linter.unusedVariables false
set_option maxRecDepth 100000
set_option maxHeartbeats 8000000

theorem part_any {P : Program} {t : TypeId} {xs : Array Value} {o : Nat} {v : Value} (h : (simQ P [] [] (part t xs o) .no []).map (·.1) = some v) (w : World) : (part t xs o).run P w = .ok v w := by
  cases hs : simQ P [] [] (part t xs o) .no [] with
  | none => rw [hs] at h; cases h
  | some x =>
    obtain ⟨x1, es1⟩ := x
    rw [hs] at h
    simp only [Option.map_some, Option.some.injEq] at h
    subst h
    exact simQ_any _ _ _ _ hs w

def vk (a b c d : Int) : Value := .agg #[.int .i64 a, .int .i64 b, .int .i64 c, .int .i64 d]
def bk (a c d s : Int) : Value := .agg #[.int .i64 a, .int .i64 c, .int .i64 d, .int .u32 s]
def sk (c d : Int) : Value := .agg #[.int .i64 c, .int .i64 d]
theorem f24 : (Try.prog.fieldsOf 24).toList.map (fun f => (f.type, f.offset, f.name != "_")) = [(3, 0, true), (3, 1, true)] := by kernel_rfl
theorem f72 : (Try.prog.fieldsOf 72).toList.map (fun f => (f.type, f.offset, f.name != "_")) = [(3, 0, true), (3, 1, true), (24, 2, true)] := by kernel_rfl
theorem f84 : (Try.prog.fieldsOf 84).toList.map (fun f => (f.type, f.offset, f.name != "_")) = [(3, 0, true), (24, 1, true), (27, 3, true)] := by kernel_rfl
theorem eqF {P : Program} {w : World} (d : Nat) (xs ys : Array Value) (f : Field) (fs : List Field) {t : TypeId} {o : Nat} (ht : (f.type, f.offset, f.name != "_") = (t, o, true)) {a b : Value} {r r2 : Bool} (h1 : (part t xs o).run P w = .ok a w) (h2 : (part t ys o).run P w = .ok b w) (h3 : (Op.equalIn d t a b).run P w = .ok r w)
    (h4 : (Op.eqFields d xs ys fs).run P w = .ok r2 w) : (Op.eqFields d xs ys (f :: fs)).run P w = .ok (r && r2) w := by
  injection ht with e1 ht
  injection ht with e2 e3
  subst e1; subst e2
  have hn : f.name ≠ "_" := by simpa using e3
  simp only [Op.eqFields, if_pos hn, Sem.run_bind, h1, h2, h3, Result.andThen_ok, Sem.run_ite]
  cases r
  · simp
  · simp [h4]
theorem two_of {α β : Type} {g : α → β} {l : List α} {x y : β} (h : l.map g = [x, y]) : ∃ f1 f2, l = [f1, f2] ∧ g f1 = x ∧ g f2 = y := by
  cases l with
  | nil => cases h
  | cons f1 l => cases l with
    | nil => cases h
    | cons f2 l => cases l with
      | nil => simp only [List.map_cons, List.map_nil, List.cons.injEq] at h; exact ⟨f1, f2, rfl, h.1, h.2.1⟩
      | cons f3 l => simp at h
theorem three_of {α β : Type} {g : α → β} {l : List α} {x y z : β} (h : l.map g = [x, y, z]) : ∃ f1 f2 f3, l = [f1, f2, f3] ∧ g f1 = x ∧ g f2 = y ∧ g f3 = z := by
  cases l with
  | nil => cases h
  | cons f1 l =>
    simp only [List.map_cons, List.cons.injEq] at h
    obtain ⟨f2, f3, rfl, h2, h3⟩ := two_of h.2
    exact ⟨f1, f2, f3, rfl, h.1, h2, h3⟩
theorem eq24 (w : World) (n : Nat) (c d c' d' : Int) : (Op.equalIn (n + 2) 24 (sk c d) (sk c' d')).run Try.prog w = .ok (c == c' && (d == d' && true)) w := by
  unfold sk
  rw [run_equalIn_struct w (n + 1) 24 _ _ (by kernel_rfl) (by kernel_rfl)]
  obtain ⟨f1, f2, e, h1, h2⟩ := two_of f24
  rw [e]
  exact eqF _ _ _ _ _ h1 (part_any (by kernel_rfl) w) (part_any (by kernel_rfl) w) (run_equalIn_int w n 3 .i64 .i64 c c' (by kernel_rfl)) (eqF _ _ _ _ _ h2 (part_any (by kernel_rfl) w) (part_any (by kernel_rfl) w) (run_equalIn_int w n 3 .i64 .i64 d d' (by kernel_rfl)) rfl)
theorem eq72 (w : World) (a b c d a' b' c' d' : Int) : (Op.equal 72 (vk a b c d) (vk a' b' c' d')).run Try.prog w = .ok (a == a' && (b == b' && ((c == c' && (d == d' && true)) && true))) w := by
  unfold vk Op.equal Op.maxDepth
  rw [run_equalIn_struct w 9999 72 _ _ (by kernel_rfl) (by kernel_rfl)]
  obtain ⟨f1, f2, f3, e, h1, h2, h3⟩ := three_of f72
  rw [e]
  exact eqF _ _ _ _ _ h1 (part_any (by kernel_rfl) w) (part_any (by kernel_rfl) w) (run_equalIn_int w 9998 3 .i64 .i64 a a' (by kernel_rfl)) (eqF _ _ _ _ _ h2 (part_any (by kernel_rfl) w) (part_any (by kernel_rfl) w) (run_equalIn_int w 9998 3 .i64 .i64 b b' (by kernel_rfl))
    (eqF _ _ _ _ _ h3 (part_any (v := sk c d) (by kernel_rfl) w) (part_any (v := sk c' d') (by kernel_rfl) w) (eq24 w 9997 c d c' d') rfl))
theorem eq84 (w : World) (a c d s a' c' d' s' : Int) : (Op.equal 84 (bk a c d s) (bk a' c' d' s')).run Try.prog w = .ok (a == a' && ((c == c' && (d == d' && true)) && (s == s' && true))) w := by
  unfold bk Op.equal Op.maxDepth
  rw [run_equalIn_struct w 9999 84 _ _ (by kernel_rfl) (by kernel_rfl)]
  obtain ⟨f1, f2, f3, e, h1, h2, h3⟩ := three_of f84
  rw [e]
  exact eqF _ _ _ _ _ h1 (part_any (by kernel_rfl) w) (part_any (by kernel_rfl) w) (run_equalIn_int w 9998 3 .i64 .i64 a a' (by kernel_rfl)) (eqF _ _ _ _ _ h2 (part_any (v := sk c d) (by kernel_rfl) w) (part_any (v := sk c' d') (by kernel_rfl) w) (eq24 w 9997 c d c' d')
    (eqF _ _ _ _ _ h3 (part_any (by kernel_rfl) w) (part_any (by kernel_rfl) w) (run_equalIn_int w 9998 27 .u32 .u32 s s' (by kernel_rfl)) rfl))
/-! ### keys -/
abbrev VK := Int × Int × Int × Int
def kV (v : VK) : Value := vk v.1 v.2.1 v.2.2.1 v.2.2.2
def kB (v : VK) : Value := bk v.1 v.2.1 v.2.2.1 v.2.2.2
theorem vk_dec (a b : VK) : (a.1 == b.1 && (a.2.1 == b.2.1 && ((a.2.2.1 == b.2.2.1 && (a.2.2.2 == b.2.2.2 && true)) && true))) = decide (a = b) := by
  obtain ⟨a1, a2, a3, a4⟩ := a
  obtain ⟨b1, b2, b3, b4⟩ := b
  by_cases h1 : a1 = b1 <;> by_cases h2 : a2 = b2 <;> by_cases h3 : a3 = b3 <;> by_cases h4 : a4 = b4 <;> simp [h1, h2, h3, h4]
theorem bk_dec (a b : VK) : (a.1 == b.1 && ((a.2.1 == b.2.1 && (a.2.2.1 == b.2.2.1 && true)) && (a.2.2.2 == b.2.2.2 && true))) = decide (a = b) := by
  obtain ⟨a1, a2, a3, a4⟩ := a
  obtain ⟨b1, b2, b3, b4⟩ := b
  by_cases h1 : a1 = b1 <;> by_cases h2 : a2 = b2 <;> by_cases h3 : a3 = b3 <;> by_cases h4 : a4 = b4 <;> simp [h1, h2, h3, h4]
theorem stays_of {v : Value} (h : Instr.sameBits 10000 v v = true) (w : World) : (Instr.keyThatStays v v).run Try.prog w = .ok v w := by
  unfold Instr.keyThatStays
  rw [if_pos h]
  rfl
theorem bits_agg (n : Nat) (l : List Value) (h : ∀ x ∈ l, Instr.sameBits n x x = true) : Instr.sameBits (n + 1) (.agg l.toArray) (.agg l.toArray) = true := by
  have hz : ∀ l : List Value, (∀ x ∈ l, Instr.sameBits n x x = true) → ((l.zip l).all fun (x, y) => Instr.sameBits n x y) = true := by
    intro l
    induction l with
    | nil => intro _; rfl
    | cons x l ih =>
      intro h
      simp only [List.zip_cons_cons, List.all_cons, h x List.mem_cons_self, Bool.true_and]
      exact ih (fun y hy => h y (List.mem_cons_of_mem _ hy))
  simp only [Instr.sameBits, beq_self_eq_true, Bool.true_and]
  exact hz l h
theorem bits_int (n : Nat) (k : IntKind) (a : Int) : Instr.sameBits n (.int k a) (.int k a) = true := by
  cases n <;> simp [Instr.sameBits]
theorem any_run {α : Type} {s : Sem α} {v : α} (h : (simQ Try.prog [] [] s .no []).map (·.1) = some v) (w : World) : s.run Try.prog w = .ok v w := by
  cases hs : simQ Try.prog [] [] s .no [] with
  | none => rw [hs] at h; cases h
  | some x =>
    obtain ⟨x1, es1⟩ := x
    rw [hs] at h
    simp only [Option.map_some, Option.some.injEq] at h
    subst h
    exact simQ_any _ _ _ _ hs w
theorem chk72 (em : Bool) (w : World) (a : VK) : (Instr.checkKey em 10000 72 (kV a)).run Try.prog w = .ok () w := any_run (by unfold kV vk; kernel_rfl) w
theorem chk84 (em : Bool) (w : World) (a : VK) : (Instr.checkKey em 10000 84 (kB a)).run Try.prog w = .ok () w := any_run (by unfold kB bk; kernel_rfl) w
theorem stay72 (w : World) (a : VK) : (Instr.keyThatStays (kV a) (kV a)).run Try.prog w = .ok (kV a) w :=
  stays_of (bits_agg 9999 [.int .i64 a.1, .int .i64 a.2.1, .int .i64 a.2.2.1, .int .i64 a.2.2.2] (fun x hx => by simp only [List.mem_cons, List.not_mem_nil, or_false] at hx; rcases hx with rfl | rfl | rfl | rfl <;> exact bits_int _ _ _)) w
theorem stay84 (w : World) (a : VK) : (Instr.keyThatStays (kB a) (kB a)).run Try.prog w = .ok (kB a) w :=
  stays_of (bits_agg 9999 [.int .i64 a.1, .int .i64 a.2.1, .int .i64 a.2.2.1, .int .u32 a.2.2.2] (fun x hx => by simp only [List.mem_cons, List.not_mem_nil, or_false] at hx; rcases hx with rfl | rfl | rfl | rfl <;> exact bits_int _ _ _)) w
theorem str72 : ∃ fs, Try.prog.underlying 72 = some (.struct fs) := ⟨_, (show Try.prog.underlying 72 = some (.struct (Try.prog.fieldsOf 72)) by kernel_rfl)⟩
theorem str84 : ∃ fs, Try.prog.underlying 84 = some (.struct fs) := ⟨_, (show Try.prog.underlying 84 = some (.struct (Try.prog.fieldsOf 84)) by kernel_rfl)⟩
theorem mt91 : MT Try.prog 91 72 4 kV Value.bool false := ⟨by kernel_rfl, str72, fun a => ⟨_, rfl⟩, fun w a b => by unfold kV; rw [eq72, vk_dec], chk72, stay72, any_run (by kernel_rfl)⟩
theorem mt69 : MT Try.prog 69 72 27 kV (Value.int .u32) 0 := ⟨by kernel_rfl, str72, fun a => ⟨_, rfl⟩, fun w a b => by unfold kV; rw [eq72, vk_dec], chk72, stay72, any_run (by kernel_rfl)⟩
theorem mt79 : MT Try.prog 79 84 3 kB (Value.int .i64) 0 := ⟨by kernel_rfl, str84, fun a => ⟨_, rfl⟩, fun w a b => by unfold kB; rw [eq84, bk_dec], chk84, stay84, any_run (by kernel_rfl)⟩

/-! ### what is computed -/
def vkey (m : S32) : VK := (m.f0, m.f1, m.f2, m.f3)
def bkey (m : S32) : VK := (m.f0, m.f2, m.f3, m.f4)
def dkey (m : S32) : VK := (m.f0, 0, m.f2, m.f3)
def cnt (k : Nat) (n : Int) : List S32 → List (VK × Bool) → Option (List S32)
  | [], _ => some []
  | m :: r, seen => if (mget seen (vkey m)).getD false = true then cnt k n r seen else (quorum_group_valid.f k n m).bind fun ok => if ok = true then (cnt k n r (mput seen (vkey m) true)).bind fun c => some (m :: c) else cnt k n r seen
def bump (sz : Int) (st : List (VK × Int) × List (VK × Int)) (m : S32) : List (VK × Int) × List (VK × Int) :=
  (mput st.1 (bkey m) (W .i64 ((mget st.1 (bkey m)).getD 0 + 1)), if W .i64 ((mget st.1 (bkey m)).getD 0 + 1) = sz then mput st.2 (dkey m) m.f4 else st.2)
def quorum_tally.f (k : Nat) (l : List S32) (n : Int) : Option (List (VK × Int)) := (cnt k n l []).bind fun c => (quorum_Size.f n).bind fun sz => some (c.foldl (bump sz) ([], [])).2
/-- A message as yield is handed it. -/
def m32 (x : S32) (A : Option Addr) (c : Nat) : Value := .agg #[.int .i64 x.f0, .int .i64 x.f1, .int .i64 x.f2, .int .i64 x.f3, .int .u32 x.f4, .int .i64 x.f5.f0, .string x.f5.f1, .slice A x.f5.f2.length c]
def E32 (x : S32) (xs : Array Value) : Prop := ∃ A c, xs = #[m32 x A c]

/-! ### counted, and the iterator that it makes -/
noncomputable def c45 : Code := cBody Try.f45
noncomputable def c45r0 : Code := cL c45
noncomputable def c45e : Code := cR c45
noncomputable def c45r1 : Code := cL c45e
noncomputable def c45t : Code := cR c45e
noncomputable def o45r0 : List Oper := cOps c45r0
noncomputable def o45r1 : List Oper := cOps c45r1
theorem own_new {w0 : World} {I0 I : Imm} {nx : Nat} {L : List Blk} {X : List Res} {w : World} (hs : Sat ⟨w0, fun _ => False, I0⟩ I nx L X w) {i : Nat} {b : Blk} (hi : L[i]? = some b) : w0.heap.size ≤ b.g :=
  (hs.own b (List.mem_of_getElem? hi)).resolve_right (fun h => h)
def fv53 (b1 b2 : Nat) : Value := .func (.func 53) #[] #[.pointer (some ⟨b1, 0, none⟩), .pointer (some ⟨b2, 0, none⟩)]
def counted.Post (I : Imm) (w : World) (A : Option Addr) (n c : Nat) (a : Int) (v : Value) (w' : World) : Prop :=
  ∃ (J : Imm) (b1 b2 : Nat), v = fv53 b1 b2 ∧ Got w w' I J [] ∧ J ⟨b1, 0, none⟩ = some (.slice A n c) ∧ J ⟨b2, 0, none⟩ = some (.func (.func 32) #[.int .i64 a] #[])
theorem counted.calls (I0 : Imm) (A : Option Addr) (n c : Nat) (a : Int) (w : World) (hI : I0.at_ w) :
    Calls Try.prog 45 [.slice A n c, .func (.func 32) #[.int .i64 a] #[]].toArray w fun e w' => ∃ v, e = .returned v ∧ counted.Post I0 w A n c a v w' := by
  refine calls_body Try.func45 (by kernel_rfl) 6 (by kernel_rfl) (by kernel_rfl) ⟨w, fun _ => False, I0⟩ I0 [] [(0, .slice A n c), (1, .func (.func 32) #[.int .i64 a] #[])] (by kernel_rfl) (Sat.start w _ I0 hI) ?_
  generalize w.heap.size = nx0
  show OK _ c45 _ _ _ _ _ _ _ _
  refine OK.seq c45r0 c45e (by kernel_rfl) ?_
  refine OK.region 0 o45r0 (by kernel_rfl) ?_
  refine RL.simP (K' := [(2, .pointer (some ⟨nx0, 0, none⟩)), (3, .pointer (some ⟨nx0 + 1, 0, none⟩))]) (nx' := nx0 + 2) (L' := [⟨nx0, [.slice A n c], 22⟩, ⟨nx0 + 1, [.func (.func 32) #[.int .i64 a] #[]], 66⟩]) [] (RFacts.nil _ _ _) 3 [.no, .no, .no] (by kernel_rfl) (by kernel_rfl) ?_
  refine RL.nil (by kernel_rfl) ?_
  refine QN.then_ ?_
  refine OK.seq c45r1 c45t (by kernel_rfl) ?_
  refine OK.region 1 o45r1 (by kernel_rfl) ?_
  refine RL.simP (K' := [(4, .func (.func 53) #[] #[.pointer (some ⟨nx0, 0, none⟩), .pointer (some ⟨nx0 + 1, 0, none⟩)])]) (nx' := nx0 + 2) (L' := [⟨nx0, [.slice A n c], 22⟩, ⟨nx0 + 1, [.func (.func 32) #[.int .i64 a] #[]], 66⟩]) [] (RFacts.nil _ _ _) 2 [.no, .no] (by kernel_rfl) (by kernel_rfl) ?_
  refine RL.immL 0 rfl (fun w hs => own_new hs (i := 0) rfl) (fun J1 hJ1 h1 => ?_)
  refine RL.immL 0 rfl (fun w hs => own_new hs (i := 0) rfl) (fun J2 hJ2 h2 => ?_)
  refine RL.nil (by kernel_rfl) ?_
  refine QN.then_ ?_
  refine OK.ret (by kernel_rfl) ?_
  refine QN.body rfl [] (RFacts.nil _ _ _) .no (fv53 nx0 (nx0 + 1)) (by kernel_rfl) (by kernel_rfl) (by kernel_rfl) ?_ _ (.inr rfl)
  exact fun w' hs' => ⟨_, rfl, J2, nx0, nx0 + 1, rfl, hs'.got _ (List.nil_sublist _), hJ2 _ _ (h1 0 _ rfl), h2 0 _ rfl⟩

theorem W64 {n : Int} (h0 : 0 ≤ n) (h1 : n < 9223372036854775808) : W .i64 n = n := by
  have h2 : (2 : Int) ^ 64 = 18446744073709551616 := by decide
  have h3 : (2 : Int) ^ 63 = 9223372036854775808 := by decide
  unfold W IntKind.wrap
  simp only [IntKind.bits, IntKind.signed, h2, h3, Nat.add_one_sub_one, Bool.true_and, decide_eq_true_eq]
  have h4 : n % 18446744073709551616 = n := Int.emod_eq_of_lt h0 (by omega)
  rw [h4, if_neg (by omega)]

noncomputable def c53 : Code := cBody Try.f53
noncomputable def c53r0 : Code := cL c53
noncomputable def c53a : Code := cR c53
noncomputable def c53r1 : Code := cL c53a
noncomputable def c53b : Code := cR c53a
noncomputable def c53lp : Code := cL c53b
noncomputable def c53in : Code := cL c53lp
noncomputable def c53r2 : Code := cL c53in
noncomputable def c53c : Code := cR c53in
noncomputable def c53cd : Code := cL c53c
noncomputable def c53d : Code := cR c53c
noncomputable def c53bk : Code := cL c53d
noncomputable def c53r8 : Code := cR c53d
noncomputable def c53bd : Code := cL c53bk
noncomputable def c53r3 : Code := cL c53bd
noncomputable def c53e1 : Code := cR c53bd
noncomputable def c53r4 : Code := cL c53e1
noncomputable def c53e2 : Code := cR c53e1
noncomputable def c53e3 : Code := cL c53e2
noncomputable def c53e4 : Code := cR c53e2
noncomputable def c53r5 : Code := cL c53e3
noncomputable def c53k5 : Code := cR c53e3
noncomputable def c53r6 : Code := cL c53e4
noncomputable def c53e5 : Code := cR c53e4
noncomputable def c53r7 : Code := cL c53e5
noncomputable def c53k7 : Code := cR c53e5
noncomputable def o53 : Nat → List Oper
  | 0 => cOps c53r0
  | 1 => cOps c53r1
  | 2 => cOps c53r2
  | 3 => cOps c53r3
  | 4 => cOps c53r4
  | 5 => cOps c53r5
  | 6 => cOps c53r6
  | 7 => cOps c53r7
  | _ => cOps c53r8
/-- What holds at the head of a round. -/
def inv53 (k : Nat) (n : Int) (l c : List S32) (I0 : Imm) (A : Option Addr) (cap b2 lid : Nat) (W : World) (S' : Nat → Prop) (J' : List S32 → World → Prop) (kq : Nat) : St := fun K I _ L X =>
  ∃ (i g : Nat) (seen : List (VK × Bool)) (pre rest : List S32), K = [(9, .slice A l.length cap), (10, .int .i64 (l.length : Int)), (11, .int .i64 (i : Int)), (4, .map (some g)), (0, .func (.yield lid) #[] #[]), (2, .pointer (some ⟨b2, 0, none⟩))] ∧ L = [] ∧ X = [jres S' W (J' pre), mres kV Value.bool g seen] ∧ Imm.le I0 I ∧
    i + kq = l.length + 1 ∧ i ≤ l.length ∧ cnt k n (l.drop i) seen = some rest ∧ pre ++ rest = c
theorem counted1.calls (k : Nat) (n : Int) (l c : List S32) (hc : cnt k n l [] = some c) (I0 : Imm) (A : Option Addr) (cap : Nat) (hr : Rd t32 I0 A l) (b1 b2 : Nat)
    (h1 : I0 ⟨b1, 0, none⟩ = some (.slice A l.length cap)) (h2 : I0 ⟨b2, 0, none⟩ = some (.func (.func 32) #[.int .i64 n] #[]))
    (lid : Nat) (W : World) (hI : I0.at_ W) (S' : Nat → Prop) (hS : ∀ k, S' k → k < W.heap.size) (hIS : ∀ a v, I0 a = some v → ¬ S' a.block) (J' : List S32 → World → Prop) (hJ : ∀ pre A B, J' pre A → LowEq W.heap.size A B → J' pre B)
    (hY : ∀ pre x xs W1, J' pre W1 → (pre ++ [x]) <+: c → E32 x xs → YieldAt (Fence.ro none) 0 Try.prog lid xs W1 fun e W' => e = .returned (.bool true) ∧ J' (pre ++ [x]) W' ∧ Evo S' W1 W')
    (h0 : J' [] W) : Calls Try.prog 53 [.func (.yield lid) #[] #[], .pointer (some ⟨b1, 0, none⟩), .pointer (some ⟨b2, 0, none⟩)].toArray W fun e W' => (∃ v, e = .returned v) ∧ J' c W' ∧ Evo S' W W' := by
  refine calls_body Try.func53 (by kernel_rfl) 41 (by kernel_rfl) (by kernel_rfl) ⟨W, S', I0⟩ I0 [jres S' W (J' [])] [(0, .func (.yield lid) #[] #[]), (1, .pointer (some ⟨b1, 0, none⟩)), (2, .pointer (some ⟨b2, 0, none⟩))] (by kernel_rfl) (Sat.startJ hI hS hIS h0) ?_
  generalize W.heap.size = nx0
  show OK _ c53 _ _ _ _ _ _ _ _
  refine OK.seq c53r0 c53a (by kernel_rfl) ?_
  refine OK.region 0 (o53 0) (by kernel_rfl) ?_
  refine RL.makeMap (T := 91) kV Value.bool (some 8) (by kernel_rfl) (by kernel_rfl) ?_
  refine RL.simP (K' := [(4, .map (some nx0)), (0, .func (.yield lid) #[] #[]), (1, .pointer (some ⟨b1, 0, none⟩)), (2, .pointer (some ⟨b2, 0, none⟩))]) (nx' := nx0 + 1) (L' := []) [] (RFacts.nil _ _ _) 1 [.no] (by kernel_rfl) (by kernel_rfl) ?_
  refine RL.nil (by kernel_rfl) ?_
  refine QN.then_ ?_
  refine OK.seq c53r1 c53b (by kernel_rfl) ?_
  refine OK.region 1 (o53 1) (by kernel_rfl) ?_
  refine RL.simP (K' := [(9, .slice A l.length cap), (10, .int .i64 (l.length : Int)), (11, .int .i64 ((0 : Nat) : Int)), (4, .map (some nx0)), (0, .func (.yield lid) #[] #[]), (2, .pointer (some ⟨b2, 0, none⟩))]) (nx' := nx0 + 1) (L' := []) [(⟨b1, 0, none⟩, .slice A l.length cap)] (RFacts.imm h1 (RFacts.nil _ _ _)) 3 [.r 0, .no, .no] (by kernel_rfl) (by kernel_rfl) ?_
  refine RL.nil (by kernel_rfl) ?_
  refine QN.then_ ?_
  refine OK.block 0 c53lp (by kernel_rfl) ?_
  refine OK.loopInv c53in (by kernel_rfl) (inv53 k n l c I0 A cap b2 lid W S' J') (l.length + 1) ⟨0, nx0, [], [], c, rfl, rfl, rfl, Imm.le_refl _, by omega, by omega, by simpa using hc, rfl⟩ (fun K I nx L X h => ?_) ?_
  · obtain ⟨i, g, seen, pre, rest, _, _, _, _, h5, h6, _⟩ := h
    omega
  rintro kq _ I nx _ _ ⟨i, g, seen, pre, rest, rfl, rfl, rfl, hle, hi1, hi2, hcnt, hpre⟩ Q' hJn hQ
  refine OK.seq c53r2 c53c (by kernel_rfl) ?_
  refine OK.region 2 (o53 2) (by kernel_rfl) ?_
  refine RL.simP (K' := [(12, .bool (decide ((i : Int) < (l.length : Int)))), (9, .slice A l.length cap), (10, .int .i64 (l.length : Int)), (11, .int .i64 (i : Int)), (4, .map (some g)), (0, .func (.yield lid) #[] #[]), (2, .pointer (some ⟨b2, 0, none⟩))]) (nx' := nx) (L' := []) [] (RFacts.nil _ _ _) 1 [.no] (by kernel_rfl) (by kernel_rfl) ?_
  refine RL.nil (by kernel_rfl) ?_
  refine QN.then_ ?_
  refine OK.seq c53cd c53d (by kernel_rfl) ?_
  refine OK.cond (.tmp 12) (cL c53cd) (cR c53cd) (decide ((i : Int) < (l.length : Int))) (by kernel_rfl) (by kernel_rfl) (by kernel_rfl) (fun hb => ?_) (fun hb => ?_)
  rotate_left
  · -- the end
    have hlt : ¬ ((i : Int) < (l.length : Int)) := of_decide_eq_false hb
    have hil : i = l.length := by omega
    subst hil
    rw [List.drop_length] at hcnt
    obtain rfl : [] = rest := Option.some.inj hcnt
    rw [List.append_nil] at hpre
    subst hpre
    refine OK.exit 0 (by kernel_rfl) ?_
    refine QN.thenE ?_
    refine QN.outE hQ ?_
    refine QN.blkE ?_
    refine QN.body rfl [] (RFacts.nil _ _ _) .no (.tuple #[]) (by kernel_rfl) (by kernel_rfl) (by kernel_rfl) ?_ _ (.inl rfl)
    exact fun w' hs' => ⟨⟨_, rfl⟩, jres_at hs' List.mem_cons_self (hJ _), hs'.evo⟩
  have hlt : (i : Int) < (l.length : Int) := of_decide_eq_true hb
  refine OK.skip (by kernel_rfl) ?_
  refine QN.then_ ?_
  refine OK.seq c53bk c53r8 (by kernel_rfl) ?_
  -- what comes behind the body, whatever it has done
  have hnext : ∀ (J : Imm) (nx : Nat) (L : List Blk) (seen' : List (VK × Bool)) (pre' rest' : List S32), Imm.le I0 J → cnt k n (l.drop (i + 1)) seen' = some rest' → pre' ++ rest' = c →
      OK Try.prog c53r8 Q' ⟨41, []⟩ [(9, .slice A l.length cap), (10, .int .i64 (l.length : Int)), (11, .int .i64 (i : Int)), (4, .map (some g)), (0, .func (.yield lid) #[] #[]), (2, .pointer (some ⟨b2, 0, none⟩))] ⟨W, S', I0⟩ J nx L [jres S' W (J' pre'), mres kV Value.bool g seen'] := by
    intro J nx L seen' pre' rest' hJ1 hcnt' hpre'
    refine OK.sub (K' := [(9, .slice A l.length cap), (10, .int .i64 (l.length : Int)), (11, .int .i64 (i : Int)), (4, .map (some g)), (0, .func (.yield lid) #[] #[]), (2, .pointer (some ⟨b2, 0, none⟩))]) (L' := []) (by kernel_rfl) (List.nil_sublist _) (List.Sublist.refl _) ?_
    refine OK.region 8 (o53 8) (by kernel_rfl) ?_
    refine RL.simP (K' := [(9, .slice A l.length cap), (10, .int .i64 (l.length : Int)), (11, .int .i64 (RW.W .i64 ((i : Int) + 1))), (4, .map (some g)), (0, .func (.yield lid) #[] #[]), (2, .pointer (some ⟨b2, 0, none⟩))]) (nx' := nx) (L' := []) [] (RFacts.nil _ _ _) 2 [.no, .no] (by kernel_rfl) (by kernel_rfl) ?_
    refine RL.nil (by kernel_rfl) ?_
    have hml := hr.1
    rw [W64 (by omega) (by omega), show ((i : Int) + 1) = ((i + 1 : Nat) : Int) from by omega]
    exact hJn _ _ _ _ _ ⟨i + 1, g, seen', pre', rest', rfl, rfl, rfl, hJ1, by omega, by omega, hcnt', hpre'⟩
  obtain ⟨g1, o1, hA1, A1, c1, hl1, hr1, hc1⟩ := t32_at (Rd.ext hle hr) (i : Int) (by omega) hlt
  obtain ⟨m, hm⟩ : ∃ m, l.getD (i : Int).toNat z32 = m := ⟨_, rfl⟩
  rw [hm] at hl1 hr1 hc1
  have hil : i < l.length := by omega
  have hdrop : l.drop i = m :: l.drop (i + 1) := by
    rw [List.drop_eq_getElem_cons hil, ← hm, Int.toNat_natCast, List.getD_eq_getElem?_getD, List.getElem?_eq_getElem hil]
    rfl
  rw [hdrop] at hcnt
  simp only [cnt] at hcnt
  refine OK.block 1 c53bd (by kernel_rfl) ?_
  refine OK.seq c53r3 c53e1 (by kernel_rfl) ?_
  refine OK.region 3 (o53 3) (by kernel_rfl) ?_
  refine RL.idx 8 .i64 (i : Int) hA1 l.length cap (some 13) (by kernel_rfl) (by kernel_rfl) (T := 22) (e := 32) (by kernel_rfl) (by kernel_rfl) (by omega) hlt (K' := [(13, .pointer (some ⟨g1, o1 + (i : Int).toNat * 8, none⟩)), (12, .bool (decide ((i : Int) < (l.length : Int)))), (9, .slice A l.length cap), (10, .int .i64 (l.length : Int)), (11, .int .i64 (i : Int)), (4, .map (some g)), (0, .func (.yield lid) #[] #[]), (2, .pointer (some ⟨b2, 0, none⟩))]) ?_ ?_
  · kernel_rfl
  refine RL.simP (K' := [(6, .pointer (some ⟨nx, 0, none⟩)), (9, .slice A l.length cap), (10, .int .i64 (l.length : Int)), (11, .int .i64 (i : Int)), (4, .map (some g)), (0, .func (.yield lid) #[] #[]), (2, .pointer (some ⟨b2, 0, none⟩))]) (nx' := nx + 1)
    (L' := [⟨nx, [.int .i64 m.f0, .int .i64 m.f1, .int .i64 m.f2, .int .i64 m.f3, .int .u32 m.f4, .int .i64 m.f5.f0, .string m.f5.f1, .slice A1 m.f5.f2.length c1], 32⟩])
    [(⟨g1, o1 + (i : Int).toNat * 8, none⟩, .int .i64 m.f0), (⟨g1, o1 + (i : Int).toNat * 8 + 1, none⟩, .int .i64 m.f1), (⟨g1, o1 + (i : Int).toNat * 8 + 2, none⟩, .int .i64 m.f2), (⟨g1, o1 + (i : Int).toNat * 8 + 3, none⟩, .int .i64 m.f3), (⟨g1, o1 + (i : Int).toNat * 8 + 4, none⟩, .int .u32 m.f4), (⟨g1, o1 + (i : Int).toNat * 8 + 5, none⟩, .int .i64 m.f5.f0), (⟨g1, o1 + (i : Int).toNat * 8 + 6, none⟩, .string m.f5.f1), (⟨g1, o1 + (i : Int).toNat * 8 + 7, none⟩, .slice A1 m.f5.f2.length c1)]
    (RFacts.imm (hc1 0 _ rfl) (RFacts.imm (hc1 1 _ rfl) (RFacts.imm (hc1 2 _ rfl) (RFacts.imm (hc1 3 _ rfl) (RFacts.imm (hc1 4 _ rfl) (RFacts.imm (hc1 5 _ rfl) (RFacts.imm (hc1 6 _ rfl) (RFacts.imm (hc1 7 _ rfl) (RFacts.nil _ _ _))))))))) 3 [.r 0, .no, .l 0] (by kernel_rfl) (by kernel_rfl) ?_
  refine RL.nil (by kernel_rfl) ?_
  refine QN.then_ ?_
  refine OK.seq c53r4 c53e2 (by kernel_rfl) ?_
  refine OK.region 4 (o53 4) (by kernel_rfl) ?_
  refine RL.simP (K' := [(6, .pointer (some ⟨nx, 0, none⟩)), (7, .pointer (some ⟨nx + 1, 0, none⟩)), (9, .slice A l.length cap), (10, .int .i64 (l.length : Int)), (11, .int .i64 (i : Int)), (4, .map (some g)), (0, .func (.yield lid) #[] #[]), (2, .pointer (some ⟨b2, 0, none⟩))]) (nx' := nx + 2)
    (L' := [⟨nx, [.int .i64 m.f0, .int .i64 m.f1, .int .i64 m.f2, .int .i64 m.f3, .int .u32 m.f4, .int .i64 m.f5.f0, .string m.f5.f1, .slice A1 m.f5.f2.length c1], 32⟩, ⟨nx + 1, [.int .i64 m.f0, .int .i64 m.f1, .int .i64 m.f2, .int .i64 m.f3], 72⟩])
    [] (RFacts.nil _ _ _) 12 [.no, .l 0, .no, .l 0, .no, .l 0, .no, .l 0, .no, .no, .no, .l 1] (by kernel_rfl) (by kernel_rfl) ?_
  refine RL.nil (by kernel_rfl) ?_
  refine QN.then_ ?_
  refine OK.seq c53e3 c53e4 (by kernel_rfl) ?_
  refine OK.seq c53r5 c53k5 (by kernel_rfl) ?_
  refine OK.region 5 (o53 5) (by kernel_rfl) ?_
  refine RL.simP (K' := [(25, .map (some g)), (26, kV (vkey m)), (6, .pointer (some ⟨nx, 0, none⟩)), (7, .pointer (some ⟨nx + 1, 0, none⟩)), (9, .slice A l.length cap), (10, .int .i64 (l.length : Int)), (11, .int .i64 (i : Int)), (4, .map (some g)), (0, .func (.yield lid) #[] #[]), (2, .pointer (some ⟨b2, 0, none⟩))]) (nx' := nx + 2)
    (L' := [⟨nx, [.int .i64 m.f0, .int .i64 m.f1, .int .i64 m.f2, .int .i64 m.f3, .int .u32 m.f4, .int .i64 m.f5.f0, .string m.f5.f1, .slice A1 m.f5.f2.length c1], 32⟩, ⟨nx + 1, [.int .i64 m.f0, .int .i64 m.f1, .int .i64 m.f2, .int .i64 m.f3], 72⟩])
    [] (RFacts.nil _ _ _) 2 [.no, .l 1] (by kernel_rfl) (by kernel_rfl) ?_
  cases hsv : (mget seen (vkey m)).getD false with
  | true =>
    rw [hsv, if_pos rfl] at hcnt
    refine RL.lookM mt91 (vkey m) false 1 (some 27) (by kernel_rfl) rfl (by kernel_rfl) (K' := [(27, .bool true), (25, .map (some g)), (26, kV (vkey m)), (6, .pointer (some ⟨nx, 0, none⟩)), (7, .pointer (some ⟨nx + 1, 0, none⟩)), (9, .slice A l.length cap), (10, .int .i64 (l.length : Int)), (11, .int .i64 (i : Int)), (4, .map (some g)), (0, .func (.yield lid) #[] #[]), (2, .pointer (some ⟨b2, 0, none⟩))]) ?_ ?_
    · rw [if_neg (by decide), hsv]; kernel_rfl
    refine RL.simP (K' := [(33, .bool true), (9, .slice A l.length cap), (10, .int .i64 (l.length : Int)), (11, .int .i64 (i : Int)), (4, .map (some g)), (0, .func (.yield lid) #[] #[]), (2, .pointer (some ⟨b2, 0, none⟩))]) (nx' := nx + 2) (L' := [⟨nx, [.int .i64 m.f0, .int .i64 m.f1, .int .i64 m.f2, .int .i64 m.f3, .int .u32 m.f4, .int .i64 m.f5.f0, .string m.f5.f1, .slice A1 m.f5.f2.length c1], 32⟩, ⟨nx + 1, [.int .i64 m.f0, .int .i64 m.f1, .int .i64 m.f2, .int .i64 m.f3], 72⟩]) [] (RFacts.nil _ _ _) 6 [] (by kernel_rfl) (by kernel_rfl) ?_
    refine RL.nil (by kernel_rfl) ?_
    refine QN.then_ ?_
    refine OK.condT (.tmp 33) (cL c53k5) (cR c53k5) (by kernel_rfl) (by kernel_rfl) (by kernel_rfl) ?_
    refine OK.exit 1 (by kernel_rfl) ?_
    refine QN.thenE ?_
    refine QN.blkE ?_
    refine QN.then_ ?_
    refine OK.sub (K' := [(9, .slice A l.length cap), (10, .int .i64 (l.length : Int)), (11, .int .i64 (i : Int)), (4, .map (some g)), (0, .func (.yield lid) #[] #[]), (2, .pointer (some ⟨b2, 0, none⟩))]) (L' := []) (by kernel_rfl) (List.nil_sublist _) (List.Sublist.refl _) ?_
    exact hnext _ _ _ _ _ _ hle hcnt hpre
  | false =>
    rw [hsv, if_neg (by decide)] at hcnt
    obtain ⟨ok, hok, hcnt⟩ := Option.bind_eq_some_iff.mp hcnt
    refine RL.lookM mt91 (vkey m) false 1 (some 27) (by kernel_rfl) rfl (by kernel_rfl) (K' := [(27, .bool false), (25, .map (some g)), (26, kV (vkey m)), (6, .pointer (some ⟨nx, 0, none⟩)), (7, .pointer (some ⟨nx + 1, 0, none⟩)), (9, .slice A l.length cap), (10, .int .i64 (l.length : Int)), (11, .int .i64 (i : Int)), (4, .map (some g)), (0, .func (.yield lid) #[] #[]), (2, .pointer (some ⟨b2, 0, none⟩))]) ?_ ?_
    · rw [if_neg (by decide), hsv]; kernel_rfl
    refine RL.simP (K' := [(28, .bool false), (29, .func (.func 32) #[.int .i64 n] #[]), (30, m32 m A1 c1), (6, .pointer (some ⟨nx, 0, none⟩)), (7, .pointer (some ⟨nx + 1, 0, none⟩)), (9, .slice A l.length cap), (10, .int .i64 (l.length : Int)), (11, .int .i64 (i : Int)), (4, .map (some g)), (0, .func (.yield lid) #[] #[]), (2, .pointer (some ⟨b2, 0, none⟩))]) (nx' := nx + 2) (L' := [⟨nx, [.int .i64 m.f0, .int .i64 m.f1, .int .i64 m.f2, .int .i64 m.f3, .int .u32 m.f4, .int .i64 m.f5.f0, .string m.f5.f1, .slice A1 m.f5.f2.length c1], 32⟩, ⟨nx + 1, [.int .i64 m.f0, .int .i64 m.f1, .int .i64 m.f2, .int .i64 m.f3], 72⟩]) [(⟨b2, 0, none⟩, .func (.func 32) #[.int .i64 n] #[])] (RFacts.imm (hle _ _ h2) (RFacts.nil _ _ _)) 3 [.no, .r 0, .l 0] (by kernel_rfl) (by kernel_rfl) ?_
    refine RL.callP 32 [.int .i64 n, m32 m A1 c1] (some 31) (fun w => quorum_group_valid.Post I w ok) (by kernel_rfl) (by kernel_rfl) (fun w hs => quorum_group_valid.calls k I n m A1 c1 w hs.im hl1 hr1 ok hok) ?_
    rintro w v w' hs ⟨J, rfl, hg⟩
    have hleJ := Imm.le_trans hle hg.le
    refine RL.resume (K' := [(31, .bool ok), (28, .bool false), (29, .func (.func 32) #[.int .i64 n] #[]), (30, m32 m A1 c1), (6, .pointer (some ⟨nx, 0, none⟩)), (7, .pointer (some ⟨nx + 1, 0, none⟩)), (9, .slice A l.length cap), (10, .int .i64 (l.length : Int)), (11, .int .i64 (i : Int)), (4, .map (some g)), (0, .func (.yield lid) #[] #[]), (2, .pointer (some ⟨b2, 0, none⟩))]) (X' := [jres S' W (J' pre), mres kV Value.bool g seen]) (by kernel_rfl) (hs.call hg) ?_
    clear hs hg
    generalize w'.heap.size = nx2
    clear w w'
    refine RL.simP (K' := [(33, .bool (!ok)), (6, .pointer (some ⟨nx, 0, none⟩)), (7, .pointer (some ⟨nx + 1, 0, none⟩)), (9, .slice A l.length cap), (10, .int .i64 (l.length : Int)), (11, .int .i64 (i : Int)), (4, .map (some g)), (0, .func (.yield lid) #[] #[]), (2, .pointer (some ⟨b2, 0, none⟩))]) (nx' := nx2) (L' := [⟨nx, [.int .i64 m.f0, .int .i64 m.f1, .int .i64 m.f2, .int .i64 m.f3, .int .u32 m.f4, .int .i64 m.f5.f0, .string m.f5.f1, .slice A1 m.f5.f2.length c1], 32⟩, ⟨nx + 1, [.int .i64 m.f0, .int .i64 m.f1, .int .i64 m.f2, .int .i64 m.f3], 72⟩]) [] (RFacts.nil _ _ _) 2 [.no, .no] (by kernel_rfl) (by kernel_rfl) ?_
    refine RL.nil (by kernel_rfl) ?_
    refine QN.then_ ?_
    cases ok with
    | false =>
      rw [if_neg (by decide)] at hcnt
      refine OK.condT (.tmp 33) (cL c53k5) (cR c53k5) (by kernel_rfl) (by kernel_rfl) (by kernel_rfl) ?_
      refine OK.exit 1 (by kernel_rfl) ?_
      refine QN.thenE ?_
      refine QN.blkE ?_
      refine QN.then_ ?_
      refine OK.sub (K' := [(9, .slice A l.length cap), (10, .int .i64 (l.length : Int)), (11, .int .i64 (i : Int)), (4, .map (some g)), (0, .func (.yield lid) #[] #[]), (2, .pointer (some ⟨b2, 0, none⟩))]) (L' := []) (by kernel_rfl) (List.nil_sublist _) (List.Sublist.refl _) ?_
      exact hnext _ _ _ _ _ _ hleJ hcnt hpre
    | true =>
      rw [if_pos rfl] at hcnt
      obtain ⟨rest', hcnt2, hrest⟩ := Option.bind_eq_some_iff.mp hcnt
      obtain rfl := Option.some.inj hrest
      have hpre2 : (pre ++ [m]) ++ rest' = c := by rw [List.append_assoc]; exact hpre
      refine OK.condF (.tmp 33) (cL c53k5) (cR c53k5) (by kernel_rfl) (by kernel_rfl) (by kernel_rfl) ?_
      refine OK.skip (by kernel_rfl) ?_
      refine QN.then_ ?_
      refine OK.seq c53r6 c53e5 (by kernel_rfl) ?_
      refine OK.region 6 (o53 6) (by kernel_rfl) ?_
      refine RL.simP (K' := [(34, .map (some g)), (35, kV (vkey m)), (6, .pointer (some ⟨nx, 0, none⟩)), (7, .pointer (some ⟨nx + 1, 0, none⟩)), (9, .slice A l.length cap), (10, .int .i64 (l.length : Int)), (11, .int .i64 (i : Int)), (4, .map (some g)), (0, .func (.yield lid) #[] #[]), (2, .pointer (some ⟨b2, 0, none⟩))]) (nx' := nx2) (L' := [⟨nx, [.int .i64 m.f0, .int .i64 m.f1, .int .i64 m.f2, .int .i64 m.f3, .int .u32 m.f4, .int .i64 m.f5.f0, .string m.f5.f1, .slice A1 m.f5.f2.length c1], 32⟩, ⟨nx + 1, [.int .i64 m.f0, .int .i64 m.f1, .int .i64 m.f2, .int .i64 m.f3], 72⟩]) [] (RFacts.nil _ _ _) 2 [.no, .l 1] (by kernel_rfl) (by kernel_rfl) ?_
      refine RL.putM mt91 (vkey m) true 1 (by kernel_rfl) rfl (by kernel_rfl) ?_
      refine RL.nil (by kernel_rfl) ?_
      refine QN.then_ ?_
      refine OK.seq c53r7 c53k7 (by kernel_rfl) ?_
      refine OK.regionI 7 (o53 7) (by kernel_rfl) ?_
      refine RLi.simP (K' := [(36, .func (.yield lid) #[] #[]), (37, m32 m A1 c1), (6, .pointer (some ⟨nx, 0, none⟩)), (7, .pointer (some ⟨nx + 1, 0, none⟩)), (9, .slice A l.length cap), (10, .int .i64 (l.length : Int)), (11, .int .i64 (i : Int)), (4, .map (some g)), (0, .func (.yield lid) #[] #[]), (2, .pointer (some ⟨b2, 0, none⟩))]) (nx' := nx2) (L' := [⟨nx, [.int .i64 m.f0, .int .i64 m.f1, .int .i64 m.f2, .int .i64 m.f3, .int .u32 m.f4, .int .i64 m.f5.f0, .string m.f5.f1, .slice A1 m.f5.f2.length c1], 32⟩, ⟨nx + 1, [.int .i64 m.f0, .int .i64 m.f1, .int .i64 m.f2, .int .i64 m.f3], 72⟩]) [] (RFacts.nil _ _ _) 2 [.no, .l 0] (by kernel_rfl) (by kernel_rfl) (by kernel_rfl) ?_
      refine RLi.yield (X' := [jres S' W (J' (pre ++ [m])), mres kV Value.bool g (mput seen (vkey m) true)]) lid #[m32 m A1 c1] (some 38) (by kernel_rfl) (by kernel_rfl) (by kernel_rfl) (fun w hs => ?_) (fun nx3 => ?_)
      · refine RW.YieldAt.mono (hY pre m _ w (jres_at hs List.mem_cons_self (hJ _)) ⟨rest', hpre2⟩ ⟨A1, c1, rfl⟩) ?_
        rintro e w' ⟨he, hJ', hev⟩
        exact ⟨he, hs.yielded hS hev hJ'⟩
      refine RLi.simP (K' := [(39, .bool false), (9, .slice A l.length cap), (10, .int .i64 (l.length : Int)), (11, .int .i64 (i : Int)), (4, .map (some g)), (0, .func (.yield lid) #[] #[]), (2, .pointer (some ⟨b2, 0, none⟩))]) (nx' := nx3) (L' := [⟨nx, [.int .i64 m.f0, .int .i64 m.f1, .int .i64 m.f2, .int .i64 m.f3, .int .u32 m.f4, .int .i64 m.f5.f0, .string m.f5.f1, .slice A1 m.f5.f2.length c1], 32⟩, ⟨nx + 1, [.int .i64 m.f0, .int .i64 m.f1, .int .i64 m.f2, .int .i64 m.f3], 72⟩]) [] (RFacts.nil _ _ _) 1 [.no] (by kernel_rfl) (by kernel_rfl) (by kernel_rfl) ?_
      refine RLi.nil (by kernel_rfl) ?_
      refine QN.then_ ?_
      refine OK.condF (.tmp 39) (cL c53k7) (cR c53k7) (by kernel_rfl) (by kernel_rfl) (by kernel_rfl) ?_
      refine OK.skip (by kernel_rfl) ?_
      refine QN.blkN ?_
      refine QN.then_ ?_
      refine OK.sub (K' := [(9, .slice A l.length cap), (10, .int .i64 (l.length : Int)), (11, .int .i64 (i : Int)), (4, .map (some g)), (0, .func (.yield lid) #[] #[]), (2, .pointer (some ⟨b2, 0, none⟩))]) (L' := []) (by kernel_rfl) (List.nil_sublist _) (List.Sublist.refl _) ?_
      exact hnext _ _ _ _ _ _ hleJ hcnt2 hpre2

/-! ### the tally -/
def cAs : Code → Code
  | .rangeFunc _ _ a _ => a
  | c => c
def cBd : Code → Code
  | .rangeFunc _ _ _ b => b
  | c => c
noncomputable def c35 : Code := cBody Try.f35
noncomputable def c35r0 : Code := cL c35
noncomputable def c35a : Code := cR c35
noncomputable def c35r1 : Code := cL c35a
noncomputable def c35b : Code := cR c35a
noncomputable def c35c : Code := cL c35b
noncomputable def c35r2 : Code := cL c35c
noncomputable def c35bk : Code := cR c35c
noncomputable def c35rf : Code := cL c35bk
noncomputable def c35e : Code := cR c35b
noncomputable def c35r8 : Code := cL c35e
noncomputable def c35t : Code := cR c35e
noncomputable def c35as : Code := cAs c35rf
noncomputable def c35bd : Code := cBd c35rf
noncomputable def c35b1 : Code := cL c35bd
noncomputable def c35r4 : Code := cL c35b1
noncomputable def c35d1 : Code := cR c35b1
noncomputable def c35r5 : Code := cL c35d1
noncomputable def c35d2 : Code := cR c35d1
noncomputable def c35r6 : Code := cL c35d2
noncomputable def c35cd : Code := cR c35d2
noncomputable def c35r7 : Code := cL c35cd
noncomputable def c35sk : Code := cR c35cd
noncomputable def o35 : Nat → List Oper
  | 0 => cOps c35r0
  | 1 => cOps c35r1
  | 2 => cOps c35r2
  | 3 => cOps c35as
  | 4 => cOps c35r4
  | 5 => cOps c35r5
  | 6 => cOps c35r6
  | 7 => cOps c35r7
  | _ => cOps c35r8
def cells32 (x : S32) (A : Option Addr) (c : Nat) : List Value := [.int .i64 x.f0, .int .i64 x.f1, .int .i64 x.f2, .int .i64 x.f3, .int .u32 x.f4, .int .i64 x.f5.f0, .string x.f5.f1, .slice A x.f5.f2.length c]
def cells84 (m : S32) : List Value := [.int .i64 m.f0, .int .i64 m.f2, .int .i64 m.f3, .int .u32 m.f4]
theorem an35_5 : ancs (o35 5) [] = [0, 0, 3, 7, 3, 19, 63] := by kernel_rfl
theorem an35_6 : ancs (o35 6) [] = [0, 0, 3, 0, 8, 31] := by kernel_rfl
theorem tally_body (lid : Nat) (Q : Exit → Act → World → Prop) (hQ : ¬ LetsOut Q) (B : Base) (I : Imm) (nx g3 g5 g6 gv gd gm : Nat) (n sz : Int) (m : S32) (A1 : Option Addr) (c1 : Nat) (vt dt : List (VK × Int))
    (h3 : I ⟨g3, 0, none⟩ = some (.int .i64 n)) (h5 : I ⟨g5, 0, none⟩ = some (.map (some gv))) (h6 : I ⟨g6, 0, none⟩ = some (.map (some gd))) (hsz : quorum_Size.f n = some sz)
    (k : ∀ J nx', I.le J → QN Q .normal ⟨47, []⟩ [] B J nx' [] [mres kB (Value.int .i64) gv (bump sz (vt, dt) m).1, mres kV (Value.int .u32) gd (bump sz (vt, dt) m).2]) :
    OKr lid Try.prog c35bd Q ⟨47, []⟩ [(7, .pointer (some ⟨gm, 0, none⟩)), (3, .pointer (some ⟨g3, 0, none⟩)), (5, .pointer (some ⟨g5, 0, none⟩)), (6, .pointer (some ⟨g6, 0, none⟩))] B I nx [⟨gm, cells32 m A1 c1, 32⟩] [mres kB (Value.int .i64) gv vt, mres kV (Value.int .u32) gd dt] := by
  obtain ⟨v, hv⟩ : ∃ v, RW.W .i64 ((mget vt (bkey m)).getD 0 + 1) = v := ⟨_, rfl⟩
  refine OKr.block 1 c35b1 (by kernel_rfl) ?_
  have hQ1 : ¬ LetsOut (Exit.inBlock 1 Q) := letsBlock hQ
  refine OKr.seq c35r4 c35d1 (by kernel_rfl) ?_
  refine OKr.region 4 (o35 4) (by kernel_rfl) (letsThen hQ1) (by kernel_rfl) ?_
  refine RL.simP (K' := [(8, .pointer (some ⟨nx, 0, none⟩)), (3, .pointer (some ⟨g3, 0, none⟩)), (5, .pointer (some ⟨g5, 0, none⟩)), (6, .pointer (some ⟨g6, 0, none⟩))]) (nx' := nx + 1) (L' := [⟨gm, cells32 m A1 c1, 32⟩, ⟨nx, cells84 m, 84⟩]) [] (RFacts.nil _ _ _) 12 [.no, .l 0, .no, .l 0, .no, .l 0, .no, .no, .l 0, .no, .no, .l 1] (by kernel_rfl) (by kernel_rfl) ?_
  refine RL.nil (by kernel_rfl) ?_
  refine QN.thenr ?_
  refine OKr.seq c35r5 c35d2 (by kernel_rfl) ?_
  refine OKr.drawn 5 (o35 5) (by kernel_rfl) (by kernel_rfl) (letsThen hQ1) (by kernel_rfl) ?_
  obtain ⟨old, hold⟩ : ∃ old, (mget vt (bkey m)).getD 0 = old := ⟨_, rfl⟩
  obtain ⟨at_, hat⟩ : ∃ at_ : Nat, mat vt (bkey m) = at_ := ⟨_, rfl⟩
  refine drawnAnyS 6 (o35 5) _ [(4, fun _ => .tuple #[.int .i64 old, goInt (at_ : Int)])] [(2, fun _ => .int .i64 old)] [(⟨g5, 0, none⟩, .map (some gv))] [⟨gm, cells32 m A1 c1, 32⟩, ⟨nx, cells84 m, 84⟩] [.r 0, .l 1, .no, .no, .no, .no] an35_5 (by kernel_rfl) (by kernel_rfl)
    (fun _ => [.map (some gv), kB (bkey m), .int .i64 old, .int .i64 (RW.W .i64 (old + 1)), .tuple #[.int .i64 old, goInt (at_ : Int)], goInt (at_ : Int)])
    (fun _ => [(31, goInt (at_ : Int)), (30, .tuple #[.int .i64 old, goInt (at_ : Int)]), (29, .int .i64 (RW.W .i64 (old + 1))), (28, .int .i64 old), (27, kB (bkey m)), (26, .map (some gv)), (8, .pointer (some ⟨nx, 0, none⟩)), (3, .pointer (some ⟨g3, 0, none⟩)), (5, .pointer (some ⟨g5, 0, none⟩)), (6, .pointer (some ⟨g6, 0, none⟩))])
    (fun u => by kernel_rfl) (fun u => by kernel_rfl)
    (fun D _ w => Sat B I (nx + 1) [⟨gm, cells32 m A1 c1, 32⟩, ⟨nx, cells84 m, 84⟩] [mres kB (Value.int .i64) gv (bif D 4 then mens vt (bkey m) 0 else vt), mres kV (Value.int .u32) gd dt] w)
    (fun D u w hs => ⟨hs.blk, fun r hr => (RFacts.imm h5 (RFacts.nil _ _ _)) _ _ w hs r hr⟩) (fun u w hs => hs)
    [fun _ => [(29, .int .i64 (RW.W .i64 (old + 1))), (28, .int .i64 old), (27, kB (bkey m)), (26, .map (some gv)), (8, .pointer (some ⟨nx, 0, none⟩)), (3, .pointer (some ⟨g3, 0, none⟩)), (5, .pointer (some ⟨g5, 0, none⟩)), (6, .pointer (some ⟨g6, 0, none⟩))]]
    ⟨fun u => by kernel_rfl, trivial⟩ ⟨fun D u w hD _ hs => ?_, trivial⟩
    [fun _ => [(27, kB (bkey m)), (26, .map (some gv)), (8, .pointer (some ⟨nx, 0, none⟩)), (3, .pointer (some ⟨g3, 0, none⟩)), (5, .pointer (some ⟨g5, 0, none⟩)), (6, .pointer (some ⟨g6, 0, none⟩))]]
    ⟨fun u => by kernel_rfl, trivial⟩ ⟨fun D u w _ hs => ?_, fun _ _ _ => rfl, trivial⟩ (fun u a w hs ha => ?_)
  · -- the entry is made
    simp only [hD, cond_false] at hs ⊢
    have hx : execOp (evalK [(29, .int .i64 (RW.W .i64 (old + 1))), (28, .int .i64 old), (27, kB (bkey m)), (26, .map (some gv)), (8, .pointer (some ⟨nx, 0, none⟩)), (3, .pointer (some ⟨g3, 0, none⟩)), (5, .pointer (some ⟨g5, 0, none⟩)), (6, .pointer (some ⟨g6, 0, none⟩))]) ((o35 5).getD 4 default) = toNext (Instr.mapEntry 79 (.map (some gv)) (kB (bkey m))) := by kernel_rfl
    have hr := mt79.entry (hs.res _ List.mem_cons_self) (bkey m)
    rw [hold, hat] at hr
    refine .inl ⟨_, _, by rw [hx]; exact run_toNext hr, fun _ => (none, 0, []), rfl, ?_⟩
    simp only [dset_self, cond_true]
    exact hs.putMap (m := 0) rfl
  · -- the count that stands
    have hx : execOp (evalK [(27, kB (bkey m)), (26, .map (some gv)), (8, .pointer (some ⟨nx, 0, none⟩)), (3, .pointer (some ⟨g3, 0, none⟩)), (5, .pointer (some ⟨g5, 0, none⟩)), (6, .pointer (some ⟨g6, 0, none⟩))]) ((o35 5).getD 2 default) = toNext (Instr.lookup 79 (.map (some gv)) (kB (bkey m)) false) := by kernel_rfl
    have hr := mt79.lookup (q := 0) (w := w) (g := gv) (l := bif D 4 then mens vt (bkey m) 0 else vt) (by simp) (hs.res _ List.mem_cons_self) (bkey m) false
    have hval : (mget (bif D 4 then mens vt (bkey m) 0 else vt) (bkey m)).getD 0 = old := by
      cases D 4 with
      | true => rw [cond_true, mens_get]; exact hold
      | false => exact hold
    rw [if_neg (by decide), hval] at hr
    rw [hx]
    exact run_toNext hr
  refine RL.go (X := [mres kB (Value.int .i64) gv (mens vt (bkey m) 0), mres kV (Value.int .u32) gd dt]) ?_ ha hs
  have hmm := mens_mat vt (bkey m) 0
  refine RL.storeM (T := 79) (bkey m) v 0 (l := mens vt (bkey m) 0) (by rw [hmm.1]; exact hmm.2) (by kernel_rfl) rfl ?_ ?_
  · rw [hmm.1, hat, ← hv, hold]
    kernel_rfl
  refine RL.norm (X' := [mres kB (Value.int .i64) gv (mput vt (bkey m) v), mres kV (Value.int .u32) gd dt]) rfl rfl rfl (by rw [mput_mens]; rfl) ?_
  refine RL.nil (by kernel_rfl) ?_
  refine QN.thenr ?_
  refine OKr.seq c35r6 c35cd (by kernel_rfl) ?_
  have hget : (mget (mput vt (bkey m) v) (bkey m)).getD 0 = v := by rw [mput_get]; rfl
  refine OKr.drawn 6 (o35 6) (by kernel_rfl) (by kernel_rfl) (letsThen hQ1) (by kernel_rfl) ?_
  refine drawnAnyS 6 (o35 6) _ [(4, fun _ => .int .i64 sz)] [(2, fun _ => .int .i64 v)] [(⟨g5, 0, none⟩, .map (some gv)), (⟨g3, 0, none⟩, .int .i64 n)] [⟨gm, cells32 m A1 c1, 32⟩, ⟨nx, cells84 m, 84⟩] [.r 0, .l 1, .no, .r 1, .no, .no] an35_6 (by kernel_rfl) (by kernel_rfl)
    (fun _ => [.map (some gv), kB (bkey m), .int .i64 v, .int .i64 n, .int .i64 sz, .bool (v == sz)])
    (fun _ => [(37, .bool (v == sz)), (36, .int .i64 sz), (35, .int .i64 n), (34, .int .i64 v), (33, kB (bkey m)), (32, .map (some gv)), (31, goInt (at_ : Int)), (30, .tuple #[.int .i64 old, goInt (at_ : Int)]), (29, .int .i64 (RW.W .i64 (old + 1))), (28, .int .i64 old), (27, kB (bkey m)), (26, .map (some gv)), (8, .pointer (some ⟨nx, 0, none⟩)), (3, .pointer (some ⟨g3, 0, none⟩)), (5, .pointer (some ⟨g5, 0, none⟩)), (6, .pointer (some ⟨g6, 0, none⟩))])
    (fun u => by kernel_rfl) (fun u => by kernel_rfl)
    (fun _ _ w => ∃ J, I.le J ∧ Sat B J w.heap.size [⟨gm, cells32 m A1 c1, 32⟩, ⟨nx, cells84 m, 84⟩] [mres kB (Value.int .i64) gv (mput vt (bkey m) v), mres kV (Value.int .u32) gd dt] w)
    (fun D u w ⟨J, hJ, hs⟩ => ⟨hs.blk, fun r hr => (RFacts.imm (hJ _ _ h5) (RFacts.imm (hJ _ _ h3) (RFacts.nil _ _ _))) _ _ w hs r hr⟩) (fun u w hs => ⟨I, Imm.le_refl _, by rw [hs.hnx]; exact hs⟩)
    [fun _ => [(35, .int .i64 n), (34, .int .i64 v), (33, kB (bkey m)), (32, .map (some gv)), (31, goInt (at_ : Int)), (30, .tuple #[.int .i64 old, goInt (at_ : Int)]), (29, .int .i64 (RW.W .i64 (old + 1))), (28, .int .i64 old), (27, kB (bkey m)), (26, .map (some gv)), (8, .pointer (some ⟨nx, 0, none⟩)), (3, .pointer (some ⟨g3, 0, none⟩)), (5, .pointer (some ⟨g5, 0, none⟩)), (6, .pointer (some ⟨g6, 0, none⟩))]]
    ⟨fun u => by kernel_rfl, trivial⟩ ⟨fun D u w _ _ hs => ?_, trivial⟩
    [fun _ => [(33, kB (bkey m)), (32, .map (some gv)), (31, goInt (at_ : Int)), (30, .tuple #[.int .i64 old, goInt (at_ : Int)]), (29, .int .i64 (RW.W .i64 (old + 1))), (28, .int .i64 old), (27, kB (bkey m)), (26, .map (some gv)), (8, .pointer (some ⟨nx, 0, none⟩)), (3, .pointer (some ⟨g3, 0, none⟩)), (5, .pointer (some ⟨g5, 0, none⟩)), (6, .pointer (some ⟨g6, 0, none⟩))]]
    ⟨fun u => by kernel_rfl, trivial⟩ ⟨fun D u w _ hs => ?_, fun _ _ _ => rfl, trivial⟩ (fun u a w hs ha => ?_)
  · -- the size of a quorum
    obtain ⟨J, hJ, hs⟩ := hs
    refine (Does.call 22 [.int .i64 n] (by kernel_rfl) (quorum_Size.calls J n w hs.im sz hsz)).mono ?_
    rintro x w' ⟨J2, rfl, hg⟩
    exact ⟨fun _ => (none, 0, []), rfl, J2, Imm.le_trans hJ hg.le, hs.call hg⟩
  · obtain ⟨J, hJ, hs⟩ := hs
    have hx : execOp (evalK [(33, kB (bkey m)), (32, .map (some gv)), (31, goInt (at_ : Int)), (30, .tuple #[.int .i64 old, goInt (at_ : Int)]), (29, .int .i64 (RW.W .i64 (old + 1))), (28, .int .i64 old), (27, kB (bkey m)), (26, .map (some gv)), (8, .pointer (some ⟨nx, 0, none⟩)), (3, .pointer (some ⟨g3, 0, none⟩)), (5, .pointer (some ⟨g5, 0, none⟩)), (6, .pointer (some ⟨g6, 0, none⟩))]) ((o35 6).getD 2 default) = toNext (Instr.lookup 79 (.map (some gv)) (kB (bkey m)) false) := by kernel_rfl
    have hr := mt79.lookup (q := 0) (w := w) (g := gv) (l := mput vt (bkey m) v) (by simp) (hs.res _ List.mem_cons_self) (bkey m) false
    rw [if_neg (by decide), hget] at hr
    rw [hx]
    exact run_toNext hr
  obtain ⟨J, hJ, hs⟩ := hs
  revert hs
  generalize w.heap.size = nx2
  intro hs
  refine RL.go (X := [mres kB (Value.int .i64) gv (mput vt (bkey m) v), mres kV (Value.int .u32) gd dt]) ?_ ha hs
  clear hs ha a w u
  refine RL.nil (by kernel_rfl) ?_
  refine QN.thenr ?_
  refine OKr.cond (.tmp 37) c35r7 c35sk (v == sz) (by kernel_rfl) (by kernel_rfl) (by kernel_rfl) (fun hb => ?_) (fun hb => ?_)
  · have hvs : v = sz := beq_iff_eq.1 hb
    refine OKr.region 7 (o35 7) (by kernel_rfl) hQ1 (by kernel_rfl) ?_
    refine RL.simP (K' := [(38, .map (some gd)), (43, kV (dkey m)), (45, .int .u32 m.f4)]) (nx' := nx2) (L' := [⟨gm, cells32 m A1 c1, 32⟩, ⟨nx, cells84 m, 84⟩]) [(⟨g6, 0, none⟩, .map (some gd))] (RFacts.imm (hJ _ _ h6) (RFacts.nil _ _ _)) 8 [.r 0, .no, .l 1, .no, .l 1, .no, .no, .l 1] (by kernel_rfl) (by kernel_rfl) ?_
    refine RL.putM mt69 (dkey m) m.f4 1 (by kernel_rfl) rfl (by kernel_rfl) ?_
    refine RL.nil (by kernel_rfl) ?_
    refine QN.blkN ?_
    refine QN.sub (K' := []) (L' := []) rfl (List.nil_sublist _) (List.Sublist.refl _) ?_
    have := k J nx2 hJ
    unfold bump at this
    simp only [hv, if_pos hvs] at this
    exact this
  · have hvs : v ≠ sz := fun e => by rw [e] at hb; simp at hb
    refine OKr.skip (by kernel_rfl) ?_
    refine QN.blkN ?_
    refine QN.sub (K' := []) (L' := []) rfl (List.nil_sublist _) (List.Sublist.refl _) ?_
    have := k J nx2 hJ
    unfold bump at this
    simp only [hv, if_neg hvs] at this
    exact this

theorem knows_round {A : Fr} {K : List (Nat × Value)} {a : Act} (ha : Knows A K a) (p : Tmp) (v : Value) : Knows ⟨A.n, []⟩ (putK A K (some p) v) { tmps := ((#[p] : Array Tmp).zip #[v]).foldl (fun t (q, v) => t.setIfInBounds q v) a.tmps, defers := [] } := by
  have h := ha.put (some p) v
  have e : ((#[p] : Array Tmp).zip #[v]).foldl (fun t (q, v) => t.setIfInBounds q v) a.tmps = a.tmps.setIfInBounds p v := by simp
  rw [e]
  exact ⟨h.size, rfl, h.slot⟩
def tst (sz : Int) (pre : List S32) : List (VK × Int) × List (VK × Int) := pre.foldl (bump sz) ([], [])
theorem tst_snoc (sz : Int) (pre : List S32) (x : S32) : tst sz (pre ++ [x]) = bump sz (tst sz pre) x := by simp [tst]
/-- What holds between the rounds. -/
def tJ (I : Imm) (gv gd : Nat) (sz : Int) (pre : List S32) (W : World) : Prop :=
  I.at_ W ∧ W.heap[gv]? = some (.map (ents kB (Value.int .i64) 0 (tst sz pre).1).toArray (tst sz pre).1.length) ∧ W.heap[gd]? = some (.map (ents kV (Value.int .u32) 0 (tst sz pre).2).toArray (tst sz pre).2.length)
def quorum_tally.Post (I : Imm) (w : World) (r : List (VK × Int)) (v : Value) (w' : World) : Prop := ∃ (J : Imm) (g : Nat), v = .map (some g) ∧ Got w w' I J [] ∧ Mp kV (Value.int .u32) J g r
theorem quorum_tally.calls (k : Nat) (I0 : Imm) (a0 : List S32) (Ap0 : Option Addr) (cp0 : Nat) (a1 : Int) (w : World) (hI : I0.at_ w) (hlp0 : a0.length ≤ cp0) (hrp0 : Rd t32 I0 Ap0 a0) (r : List (VK × Int)) (h : quorum_tally.f k a0 a1 = some r) :
    Calls Try.prog 35 [.slice Ap0 a0.length cp0, .int .i64 a1].toArray w fun e w' => ∃ v, e = .returned v ∧ quorum_tally.Post I0 w r v w' := by
  obtain ⟨c, hc, h⟩ := Option.bind_eq_some_iff.mp h
  obtain ⟨sz, hsz, h⟩ := Option.bind_eq_some_iff.mp h
  obtain rfl : (tst sz c).2 = r := Option.some.inj h
  clear h
  refine calls_bodyM Try.func35 (by kernel_rfl) 47 (by kernel_rfl) (by kernel_rfl) ⟨w, fun _ => False, I0⟩ I0 [] [(0, .slice Ap0 a0.length cp0), (1, .int .i64 a1)] (by kernel_rfl) (Sat.start w _ I0 hI) ?_
  generalize w.heap.size = nx0
  show OK _ c35 _ _ _ _ _ _ _ _
  refine OK.seq c35r0 c35a (by kernel_rfl) ?_
  refine OK.region 0 (o35 0) (by kernel_rfl) ?_
  refine RL.simP (K' := [(3, .pointer (some ⟨nx0, 0, none⟩)), (0, .slice Ap0 a0.length cp0)]) (nx' := nx0 + 1) (L' := [⟨nx0, [.int .i64 a1], 3⟩]) [] (RFacts.nil _ _ _) 2 [.no, .no] (by kernel_rfl) (by kernel_rfl) ?_
  refine RL.immL 0 rfl (fun w hs => own_new hs (i := 0) rfl) (fun J1 hJ1 h3 => ?_)
  refine RL.nil (by kernel_rfl) ?_
  refine QN.then_ ?_
  refine OK.seq c35r1 c35b (by kernel_rfl) ?_
  refine OK.region 1 (o35 1) (by kernel_rfl) ?_
  refine RL.makeMap (T := 79) kB (Value.int .i64) (some 9) (by kernel_rfl) (by kernel_rfl) ?_
  refine RL.makeMap (T := 69) kV (Value.int .u32) (some 10) (by kernel_rfl) (by kernel_rfl) ?_
  refine RL.simP (K' := [(5, .pointer (some ⟨nx0 + 1 + 1 + 1, 0, none⟩)), (6, .pointer (some ⟨nx0 + 1 + 1 + 1 + 1, 0, none⟩)), (3, .pointer (some ⟨nx0, 0, none⟩)), (0, .slice Ap0 a0.length cp0)]) (nx' := nx0 + 1 + 1 + 1 + 1 + 1) (L' := [⟨nx0 + 1 + 1 + 1, [.map (some (nx0 + 1))], 79⟩, ⟨nx0 + 1 + 1 + 1 + 1, [.map (some (nx0 + 1 + 1))], 69⟩]) [] (RFacts.nil _ _ _) 4 [.no, .no, .l 0, .l 1] (by kernel_rfl) (by kernel_rfl) ?_
  refine RL.immL 0 rfl (fun w hs => own_new hs (i := 0) rfl) (fun J2 hJ2 h5 => ?_)
  refine RL.immL 0 rfl (fun w hs => own_new hs (i := 0) rfl) (fun J3 hJ3 h6 => ?_)
  refine RL.nil (by kernel_rfl) ?_
  refine QN.then_ ?_
  refine OK.seq c35c c35e (by kernel_rfl) ?_
  refine OK.seq c35r2 c35bk (by kernel_rfl) ?_
  refine OK.region 2 (o35 2) (by kernel_rfl) ?_
  replace h3 := hJ3 _ _ (hJ2 _ _ (h3 0 _ rfl))
  replace h5 := hJ3 _ _ (h5 0 _ rfl)
  replace h6 := h6 0 _ rfl
  have hJ := Imm.le_trans hJ1 (Imm.le_trans hJ2 hJ3)
  refine RL.simP (K' := [(11, .slice Ap0 a0.length cp0), (13, .func (.func 32) #[.int .i64 a1] #[]), (5, .pointer (some ⟨nx0 + 1 + 1 + 1, 0, none⟩)), (6, .pointer (some ⟨nx0 + 1 + 1 + 1 + 1, 0, none⟩)), (3, .pointer (some ⟨nx0, 0, none⟩))]) (nx' := nx0 + 1 + 1 + 1 + 1 + 1) (L' := []) [(⟨nx0, 0, none⟩, .int .i64 a1)] (RFacts.imm h3 (RFacts.nil _ _ _)) 3 [.no, .r 0, .no] (by kernel_rfl) (by kernel_rfl) ?_
  refine RL.callP 45 [.slice Ap0 a0.length cp0, .func (.func 32) #[.int .i64 a1] #[]] (some 14) (fun w => counted.Post J3 w Ap0 a0.length cp0 a1) (by kernel_rfl) (by kernel_rfl) (fun w hs => counted.calls J3 Ap0 a0.length cp0 a1 w hs.im) ?_
  rintro w1 v w2 hs ⟨J, b1, b2, rfl, hg, hb1, hb2⟩
  replace hJ := Imm.le_trans hJ hg.le
  replace h3 := hg.le _ _ h3
  replace h5 := hg.le _ _ h5
  replace h6 := hg.le _ _ h6
  refine RL.resume (K' := [(14, fv53 b1 b2), (11, .slice Ap0 a0.length cp0), (13, .func (.func 32) #[.int .i64 a1] #[]), (5, .pointer (some ⟨nx0 + 1 + 1 + 1, 0, none⟩)), (6, .pointer (some ⟨nx0 + 1 + 1 + 1 + 1, 0, none⟩)), (3, .pointer (some ⟨nx0, 0, none⟩))]) (X' := [mres kB (Value.int .i64) (nx0 + 1) [], mres kV (Value.int .u32) (nx0 + 1 + 1) []]) (by kernel_rfl) (hs.call hg) ?_
  clear hs hg
  generalize w2.heap.size = nx2
  clear w1 w2 hJ1 hJ2 hJ3 J1 J2 J3
  generalize nx0 + 1 + 1 + 1 + 1 = g6 at h6 ⊢
  generalize nx0 + 1 + 1 + 1 = g5 at h5 ⊢
  generalize hgd : nx0 + 1 + 1 = gd at h6 ⊢
  generalize hgv : nx0 + 1 = gv at h5 ⊢
  have hne : gv ≠ gd := by omega
  clear hgd hgv
  refine RL.nil (by kernel_rfl) ?_
  refine QN.then_ ?_
  refine OK.block 0 c35rf (by kernel_rfl) ?_
  intro a w1 ha hs
  have hrf : c35rf = .rangeFunc (.tmp 14) #[15] c35as c35bd := by kernel_rfl
  rw [hrf]
  have hlow : ∀ a v, J a = some v → a.block < w1.heap.size := fun a v h => look_lt (hs.im a v h)
  have hgvl : gv < w1.heap.size := by rw [hs.hnx]; exact (hs.rown _ List.mem_cons_self gv rfl).1
  have hgdl : gd < w1.heap.size := by rw [hs.hnx]; exact (hs.rown _ (List.mem_cons_of_mem _ List.mem_cons_self) gd rfl).1
  have hImv : ∀ a v, J a = some v → a.block ≠ gv := fun a v h e => hs.imX a v h _ List.mem_cons_self e
  have hImd : ∀ a v, J a = some v → a.block ≠ gd := fun a v h e => hs.imX a v h _ (List.mem_cons_of_mem _ List.mem_cons_self) e
  have hat : ∀ {A B : World}, J.at_ A → LowEq w1.heap.size A B → J.at_ B := fun {A B} h hl a v hv => by
    rw [← h a v hv]
    exact look_of_block (hl.blk _ (hlow a v hv))
  refine range_wp (gf := 53) (lb := #[.pointer (some ⟨b1, 0, none⟩), .pointer (some ⟨b2, 0, none⟩)]) ((ha.eval (by kernel_rfl)).trans (by kernel_rfl)) (fun args w => any_run (by kernel_rfl) w) E32 (fun x xs ⟨A, c, e⟩ => by rw [e]; rfl) c (fun k => k = gv ∨ k = gd) (fun k hk => by rcases hk with rfl | rfl <;> assumption)
    (tJ J gv gd sz) (fun pre A B h hl => ⟨hat h.1 hl, by rw [hl.blk _ hgvl]; exact h.2.1, by rw [hl.blk _ hgdl]; exact h.2.2⟩) ⟨hs.im, hs.res _ List.mem_cons_self, hs.res _ (List.mem_cons_of_mem _ List.mem_cons_self)⟩ ?_ ?_ ?_
  · -- a round
    rintro l pre x xs W hJp hpre ⟨A1, c1, rfl⟩ hwl hlW
    refine (OKr.region 3 (o35 3) (by kernel_rfl) (fun ⟨_, _, h⟩ => h) (by kernel_rfl) ?_ : OKr l Try.prog c35as _ ⟨47, []⟩ [(15, m32 x A1 c1), (14, fv53 b1 b2), (11, .slice Ap0 a0.length cp0), (13, .func (.func 32) #[.int .i64 a1] #[]), (5, .pointer (some ⟨g5, 0, none⟩)), (6, .pointer (some ⟨g6, 0, none⟩)), (3, .pointer (some ⟨nx0, 0, none⟩))] ⟨W, fun _ => False, J⟩ J W.heap.size [] []) _ W (knows_round ha 15 (m32 x A1 c1)) (Sat.start W _ J hJp.1)
    refine RL.simP (K' := [(7, .pointer (some ⟨W.heap.size, 0, none⟩)), (3, .pointer (some ⟨nx0, 0, none⟩)), (5, .pointer (some ⟨g5, 0, none⟩)), (6, .pointer (some ⟨g6, 0, none⟩))]) (nx' := W.heap.size + 1) (L' := [⟨W.heap.size, cells32 x A1 c1, 32⟩]) [] (RFacts.nil _ _ _) 2 [.no, .l 0] (by kernel_rfl) (by kernel_rfl) ?_
    refine RL.nil (by kernel_rfl) ?_
    intro a1' W1 ha1 hs1
    refine ⟨hs1.evo, fun W2 hev => ?_⟩
    have hsz1 := hs1.evo.size
    have hsz2 := hev.size
    have e2 : ∀ k, k < W.heap.size → k ≠ l → W2.heap[k]? = W.heap[k]? := fun k hk hne => (hev.blk k (by show k < W1.heap.size; have : W.heap.size ≤ W1.heap.size := hsz1; omega) hne).trans (hs1.evo.blk k hk (fun h => h))
    have hm : W2.heap[W.heap.size]? = some (.cells (cells32 x A1 c1).toArray 32 (0, 0)) := by
      rw [hev.blk _ (by rw [hs1.hnx]; exact Nat.lt_succ_self _) (by omega)]
      exact hs1.blk _ List.mem_cons_self
    have hat2 : J.at_ W2 := fun a v hv => by
      rw [← hJp.1 a v hv]
      have := hlow a v hv
      exact look_of_block (e2 _ (by omega) (by omega))
    have hml : W.heap.size < W2.heap.size := (Array.getElem?_eq_some_iff.1 hm).1
    refine tally_body l _ (fun ⟨_, _, h⟩ => by cases h.1) ⟨W2, fun k => (k = gv ∨ k = gd) ∨ W.heap.size ≤ k, J⟩ J W2.heap.size nx0 g5 g6 gv gd W.heap.size a1 sz x A1 c1 (tst sz pre).1 (tst sz pre).2 h3 h5 h6 hsz (fun J' nx' hJ' a3 W3 _ hs3 => ?_) a1' W2 ha1 (Sat.start2 hat2 _ (fun b hb => ?_) (List.pairwise_singleton _ _) _ _ ?_ ?_ ?_ ?_ ?_)
    · refine ⟨rfl, ⟨fun a v hv => hs3.im a v (hJ' a v hv), ?_, ?_⟩, hs3.evo⟩
      · rw [tst_snoc]; exact hs3.res _ List.mem_cons_self
      · rw [tst_snoc]; exact hs3.res _ (List.mem_cons_of_mem _ List.mem_cons_self)
    · rw [List.mem_singleton.1 hb]
      exact ⟨hm, .inr (Nat.le_refl _), fun a v hv => by have := hlow a v hv; show W.heap.size ≠ a.block; omega⟩
    · show W2.heap[gv]? = _
      rw [e2 gv (by omega) (by omega)]
      exact hJp.2.1
    · show W2.heap[gd]? = _
      rw [e2 gd (by omega) (by omega)]
      exact hJp.2.2
    · intro k hk
      obtain rfl : k = gv := hk
      exact ⟨by omega, .inl (.inl rfl), fun b hb => by rw [List.mem_singleton.1 hb]; show W.heap.size ≠ k; omega, fun a v hv => hImv a v hv⟩
    · intro k hk
      obtain rfl : k = gd := hk
      exact ⟨by omega, .inl (.inr rfl), fun b hb => by rw [List.mem_singleton.1 hb]; show W.heap.size ≠ k; omega, fun a v hv => hImd a v hv⟩
    · intro k hk hk2
      obtain rfl : k = gv := hk
      exact hne hk2
  · -- the iterator
    intro l W S' J' hev hS' hJ' hY h0
    have hsz1 := hev.size
    exact counted1.calls k a1 a0 c hc J Ap0 cp0 (Rd.ext hJ hrp0) b1 b2 hb1 hb2 l W (hat hs.im (hev.low (Nat.le_refl _) (fun k h => h.elim))) S' (fun k hk => (hS' k hk).1) (fun a v hv hs' => by
      have := hlow a v hv
      rcases (hS' _ hs').2 with (h | h) | h
      · exact hImv a v hv h
      · exact hImd a v hv h
      · omega) J' hJ' (fun pre x xs W1 h1 h2 h3 => hY pre x xs W1 h1 h2 h3) h0
  · -- behind it
    intro D W hD hJc hev hdef
    have hs' := hs.turned (r1' := mres kB (Value.int .i64) gv (tst sz c).1) (r2' := mres kV (Value.int .u32) gd (tst sz c).2) (fun k hk => hk) hev rfl rfl hJc.2.1 hJc.2.2 hdef hD
    refine (?_ : OK Try.prog c35e (bodyPostM Fence.wide 0 Try.prog Try.f35 _) ⟨47, [{ target := .collected D, args := #[] }]⟩ [(14, fv53 b1 b2), (11, .slice Ap0 a0.length cp0), (13, .func (.func 32) #[.int .i64 a1] #[]), (5, .pointer (some ⟨g5, 0, none⟩)), (6, .pointer (some ⟨g6, 0, none⟩)), (3, .pointer (some ⟨nx0, 0, none⟩))] _ J W.heap.size [] [mres kB (Value.int .i64) gv (tst sz c).1, mres kV (Value.int .u32) gd (tst sz c).2, dres D (some [])]) _ W ⟨ha.size, by show _ :: a.defers = _; rw [ha.defers], ha.slot⟩ hs'
    refine OK.seq c35r8 c35t (by kernel_rfl) ?_
    refine OK.region 8 (o35 8) (by kernel_rfl) ?_
    refine RL.simP (K' := [(4, .map (some gd))]) (nx' := W.heap.size) (L' := []) [(⟨g6, 0, none⟩, .map (some gd))] (RFacts.imm h6 (RFacts.nil _ _ _)) 2 [.r 0, .no] (by kernel_rfl) (by kernel_rfl) ?_
    refine RL.nil (by kernel_rfl) ?_
    refine QN.then_ ?_
    refine OK.ret (by kernel_rfl) ?_
    refine QN.bodyM rfl (.map (some gd)) (by kernel_rfl) (by kernel_rfl) (fun w2 hs2 => hs2.res (dres D (some [])) (List.mem_cons_of_mem _ (List.mem_cons_of_mem _ List.mem_cons_self))) (fun w2 hs2 => ?_)
    have hDl : D < w2.heap.size := (Array.getElem?_eq_some_iff.1 (hs2.res (dres D (some [])) (List.mem_cons_of_mem _ (List.mem_cons_of_mem _ List.mem_cons_self)))).1
    have hs3 := hs2.replace (m := 2) (r := dres D (some [])) rfl (dres D none) (w' := w2.putObj D (.deferred none)) rfl rfl rfl (by simp) (fun k _ hf => World.putObj_heap_other (fun e => hf e)) (World.putObj_heap_same hDl) (fun k hk => .inl hk) (fun k hk => by obtain rfl : k = D := hk; simpa using hDl)
    have hgd3 : (w2.putObj D (.deferred none)).heap[gd]? = some (.map (ents kV (Value.int .u32) 0 (tst sz c).2).toArray (tst sz c).2.length) := hs3.res (mres kV (Value.int .u32) gd (tst sz c).2) (List.mem_cons_of_mem _ List.mem_cons_self)
    have hown := hs3.rown (mres kV (Value.int .u32) gd (tst sz c).2) (List.mem_cons_of_mem _ List.mem_cons_self) gd rfl
    have hmk : ∀ a v, mapImm gd (codeM (ents kV (Value.int .u32) 0 (tst sz c).2).toArray) a = some v → a = ⟨gd, 0, some 0⟩ ∧ v = codeM (ents kV (Value.int .u32) 0 (tst sz c).2).toArray := fun a v h => by
      unfold mapImm at h
      split at h
      · exact ⟨‹_›, (Option.some.inj h).symm⟩
      · cases h
    have hs4 := (hs3.less (List.Sublist.refl _) (List.nil_sublist _)).imm (mapImm gd (codeM (ents kV (Value.int .u32) 0 (tst sz c).2).toArray)) (fun a v h => by
      obtain ⟨rfl, rfl⟩ := hmk a v h
      simp only [RW.look, hgd3]) (fun a v _ b hb => by cases hb) (fun a v _ r hr => by cases hr) (fun a v h => by
      obtain ⟨rfl, rfl⟩ := hmk a v h
      exact hown.2.resolve_right (fun h => h))
    refine ⟨_, rfl, _, gd, rfl, hs4.got _ (List.nil_sublist _), Imm.or_get ?_ (by unfold mapImm; rw [if_pos rfl])⟩
    cases hx : J ⟨gd, 0, some 0⟩ with
    | none => rfl
    | some v => exact absurd rfl (hImd _ v hx)

end Go.Proofs.Ytieakigoinebdaa
