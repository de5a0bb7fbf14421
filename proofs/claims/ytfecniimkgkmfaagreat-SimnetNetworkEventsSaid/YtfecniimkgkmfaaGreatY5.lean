/- Words of the walk, the functions' walks and plain laws, joined; no conditions beyond those that the theorems name. -/
import Derived.Test.YtfecniimkgkmfaaGreatY2
import Derived.Test.YtfecniimkgkmfaaGreatY4
import Derived.Laws.StructEq
namespace Go.Proofs.YtfecniimkgkmfaaGreat
open Go Go.RowKit Go.Proofs.YtfecniimkgkmfaaGreat.RW
set_option linter.unusedVariables false
set_option maxRecDepth 100000
set_option maxHeartbeats 8000000

theorem part_any {P : Program} {t : TypeId} {xs : Array Value} {o : Nat} {v : Value} (h : (simQ P [] [] (part t xs o) .no []).map (·.1) = some v) (w : World) : (part t xs o).run P w = .ok v w := by
  cases hs : simQ P [] [] (part t xs o) .no [] with
  | none => rw [hs] at h; cases h
  | some x =>
    obtain ⟨x1, es1⟩ := x
    rw [hs] at h
    simp only [Option.map_some, Option.some.injEq] at h
    subst h
    exact simQ_any _ _ _ _ hs w

def vk (a b c d : Int) : Value := .agg #[.int .i64 a, .int .i64 b, .int .i64 c, .int .i64 d]
def bk (a c d s : Int) : Value := .agg #[.int .i64 a, .int .i64 c, .int .i64 d, .int .u32 s]
def sk (c d : Int) : Value := .agg #[.int .i64 c, .int .i64 d]
theorem f24 : (Tryz.prog.fieldsOf 109).toList.map (fun f => (f.type, f.offset, f.name != "_")) = [(3, 0, true), (3, 1, true)] := by kernel_rfl
theorem f72 : (Tryz.prog.fieldsOf 151).toList.map (fun f => (f.type, f.offset, f.name != "_")) = [(3, 0, true), (3, 1, true), (109, 2, true)] := by kernel_rfl
theorem f84 : (Tryz.prog.fieldsOf 161).toList.map (fun f => (f.type, f.offset, f.name != "_")) = [(3, 0, true), (109, 1, true), (39, 3, true)] := by kernel_rfl
theorem eqF {P : Program} {w : World} (d : Nat) (xs ys : Array Value) (f : Field) (fs : List Field) {t : TypeId} {o : Nat} (ht : (f.type, f.offset, f.name != "_") = (t, o, true)) {a b : Value} {r r2 : Bool} (h1 : (part t xs o).run P w = .ok a w) (h2 : (part t ys o).run P w = .ok b w) (h3 : (Op.equalIn d t a b).run P w = .ok r w)
    (h4 : (Op.eqFields d xs ys fs).run P w = .ok r2 w) : (Op.eqFields d xs ys (f :: fs)).run P w = .ok (r && r2) w := by
  injection ht with e1 ht
  injection ht with e2 e3
  subst e1; subst e2
  have hn : f.name ≠ "_" := by simpa using e3
  simp only [Op.eqFields, if_pos hn, Sem.run_bind, h1, h2, h3, Result.andThen_ok, Sem.run_ite]
  cases r
  · simp
  · simp [h4]
theorem two_of {α β : Type} {g : α → β} {l : List α} {x y : β} (h : l.map g = [x, y]) : ∃ f1 f2, l = [f1, f2] ∧ g f1 = x ∧ g f2 = y := by
  cases l with
  | nil => cases h
  | cons f1 l => cases l with
    | nil => cases h
    | cons f2 l => cases l with
      | nil => simp only [List.map_cons, List.map_nil, List.cons.injEq] at h; exact ⟨f1, f2, rfl, h.1, h.2.1⟩
      | cons f3 l => simp at h
theorem three_of {α β : Type} {g : α → β} {l : List α} {x y z : β} (h : l.map g = [x, y, z]) : ∃ f1 f2 f3, l = [f1, f2, f3] ∧ g f1 = x ∧ g f2 = y ∧ g f3 = z := by
  cases l with
  | nil => cases h
  | cons f1 l =>
    simp only [List.map_cons, List.cons.injEq] at h
    obtain ⟨f2, f3, rfl, h2, h3⟩ := two_of h.2
    exact ⟨f1, f2, f3, rfl, h.1, h2, h3⟩
theorem eq24 (w : World) (n : Nat) (c d c' d' : Int) : (Op.equalIn (n + 2) 109 (sk c d) (sk c' d')).run Tryz.prog w = .ok (c == c' && (d == d' && true)) w := by
  unfold sk
  rw [run_equalIn_struct w (n + 1) 109 _ _ (by kernel_rfl) (by kernel_rfl)]
  obtain ⟨f1, f2, e, h1, h2⟩ := two_of f24
  rw [e]
  exact eqF _ _ _ _ _ h1 (part_any (by kernel_rfl) w) (part_any (by kernel_rfl) w) (run_equalIn_int w n 3 .i64 .i64 c c' (by kernel_rfl)) (eqF _ _ _ _ _ h2 (part_any (by kernel_rfl) w) (part_any (by kernel_rfl) w) (run_equalIn_int w n 3 .i64 .i64 d d' (by kernel_rfl)) rfl)
theorem eq72 (w : World) (a b c d a' b' c' d' : Int) : (Op.equal 151 (vk a b c d) (vk a' b' c' d')).run Tryz.prog w = .ok (a == a' && (b == b' && ((c == c' && (d == d' && true)) && true))) w := by
  unfold vk Op.equal Op.maxDepth
  rw [run_equalIn_struct w 9999 151 _ _ (by kernel_rfl) (by kernel_rfl)]
  obtain ⟨f1, f2, f3, e, h1, h2, h3⟩ := three_of f72
  rw [e]
  exact eqF _ _ _ _ _ h1 (part_any (by kernel_rfl) w) (part_any (by kernel_rfl) w) (run_equalIn_int w 9998 3 .i64 .i64 a a' (by kernel_rfl)) (eqF _ _ _ _ _ h2 (part_any (by kernel_rfl) w) (part_any (by kernel_rfl) w) (run_equalIn_int w 9998 3 .i64 .i64 b b' (by kernel_rfl))
    (eqF _ _ _ _ _ h3 (part_any (v := sk c d) (by kernel_rfl) w) (part_any (v := sk c' d') (by kernel_rfl) w) (eq24 w 9997 c d c' d') rfl))
theorem eq84 (w : World) (a c d s a' c' d' s' : Int) : (Op.equal 161 (bk a c d s) (bk a' c' d' s')).run Tryz.prog w = .ok (a == a' && ((c == c' && (d == d' && true)) && (s == s' && true))) w := by
  unfold bk Op.equal Op.maxDepth
  rw [run_equalIn_struct w 9999 161 _ _ (by kernel_rfl) (by kernel_rfl)]
  obtain ⟨f1, f2, f3, e, h1, h2, h3⟩ := three_of f84
  rw [e]
  exact eqF _ _ _ _ _ h1 (part_any (by kernel_rfl) w) (part_any (by kernel_rfl) w) (run_equalIn_int w 9998 3 .i64 .i64 a a' (by kernel_rfl)) (eqF _ _ _ _ _ h2 (part_any (v := sk c d) (by kernel_rfl) w) (part_any (v := sk c' d') (by kernel_rfl) w) (eq24 w 9997 c d c' d')
    (eqF _ _ _ _ _ h3 (part_any (by kernel_rfl) w) (part_any (by kernel_rfl) w) (run_equalIn_int w 9998 39 .u32 .u32 s s' (by kernel_rfl)) rfl))
/-! ### keys -/
abbrev VK := Int × Int × Int × Int
def kV (v : VK) : Value := vk v.1 v.2.1 v.2.2.1 v.2.2.2
def kB (v : VK) : Value := bk v.1 v.2.1 v.2.2.1 v.2.2.2
theorem vk_dec (a b : VK) : (a.1 == b.1 && (a.2.1 == b.2.1 && ((a.2.2.1 == b.2.2.1 && (a.2.2.2 == b.2.2.2 && true)) && true))) = decide (a = b) := by
  obtain ⟨a1, a2, a3, a4⟩ := a
  obtain ⟨b1, b2, b3, b4⟩ := b
  by_cases h1 : a1 = b1 <;> by_cases h2 : a2 = b2 <;> by_cases h3 : a3 = b3 <;> by_cases h4 : a4 = b4 <;> simp [h1, h2, h3, h4]
theorem bk_dec (a b : VK) : (a.1 == b.1 && ((a.2.1 == b.2.1 && (a.2.2.1 == b.2.2.1 && true)) && (a.2.2.2 == b.2.2.2 && true))) = decide (a = b) := by
  obtain ⟨a1, a2, a3, a4⟩ := a
  obtain ⟨b1, b2, b3, b4⟩ := b
  by_cases h1 : a1 = b1 <;> by_cases h2 : a2 = b2 <;> by_cases h3 : a3 = b3 <;> by_cases h4 : a4 = b4 <;> simp [h1, h2, h3, h4]
theorem stays_of {v : Value} (h : Instr.sameBits 10000 v v = true) (w : World) : (Instr.keyThatStays v v).run Tryz.prog w = .ok v w := by
  unfold Instr.keyThatStays
  rw [if_pos h]
  rfl
theorem bits_agg (n : Nat) (l : List Value) (h : ∀ x ∈ l, Instr.sameBits n x x = true) : Instr.sameBits (n + 1) (.agg l.toArray) (.agg l.toArray) = true := by
  have hz : ∀ l : List Value, (∀ x ∈ l, Instr.sameBits n x x = true) → ((l.zip l).all fun (x, y) => Instr.sameBits n x y) = true := by
    intro l
    induction l with
    | nil => intro _; rfl
    | cons x l ih =>
      intro h
      simp only [List.zip_cons_cons, List.all_cons, h x List.mem_cons_self, Bool.true_and]
      exact ih (fun y hy => h y (List.mem_cons_of_mem _ hy))
  simp only [Instr.sameBits, beq_self_eq_true, Bool.true_and]
  exact hz l h
theorem bits_int (n : Nat) (k : IntKind) (a : Int) : Instr.sameBits n (.int k a) (.int k a) = true := by
  cases n <;> simp [Instr.sameBits]
theorem any_run {α : Type} {s : Sem α} {v : α} (h : (simQ Tryz.prog [] [] s .no []).map (·.1) = some v) (w : World) : s.run Tryz.prog w = .ok v w := by
  cases hs : simQ Tryz.prog [] [] s .no [] with
  | none => rw [hs] at h; cases h
  | some x =>
    obtain ⟨x1, es1⟩ := x
    rw [hs] at h
    simp only [Option.map_some, Option.some.injEq] at h
    subst h
    exact simQ_any _ _ _ _ hs w
theorem chk72 (em : Bool) (w : World) (a : VK) : (Instr.checkKey em 10000 151 (kV a)).run Tryz.prog w = .ok () w := any_run (by unfold kV vk; kernel_rfl) w
theorem chk84 (em : Bool) (w : World) (a : VK) : (Instr.checkKey em 10000 161 (kB a)).run Tryz.prog w = .ok () w := any_run (by unfold kB bk; kernel_rfl) w
theorem stay72 (w : World) (a : VK) : (Instr.keyThatStays (kV a) (kV a)).run Tryz.prog w = .ok (kV a) w :=
  stays_of (bits_agg 9999 [.int .i64 a.1, .int .i64 a.2.1, .int .i64 a.2.2.1, .int .i64 a.2.2.2] (fun x hx => by simp only [List.mem_cons, List.not_mem_nil, or_false] at hx; rcases hx with rfl | rfl | rfl | rfl <;> exact bits_int _ _ _)) w
theorem stay84 (w : World) (a : VK) : (Instr.keyThatStays (kB a) (kB a)).run Tryz.prog w = .ok (kB a) w :=
  stays_of (bits_agg 9999 [.int .i64 a.1, .int .i64 a.2.1, .int .i64 a.2.2.1, .int .u32 a.2.2.2] (fun x hx => by simp only [List.mem_cons, List.not_mem_nil, or_false] at hx; rcases hx with rfl | rfl | rfl | rfl <;> exact bits_int _ _ _)) w
theorem str72 : ∃ fs, Tryz.prog.underlying 151 = some (.struct fs) := ⟨_, (show Tryz.prog.underlying 151 = some (.struct (Tryz.prog.fieldsOf 151)) by kernel_rfl)⟩
theorem str84 : ∃ fs, Tryz.prog.underlying 161 = some (.struct fs) := ⟨_, (show Tryz.prog.underlying 161 = some (.struct (Tryz.prog.fieldsOf 161)) by kernel_rfl)⟩
theorem mt91 : MT Tryz.prog 167 151 4 kV Value.bool false := MT.ofStruct (by kernel_rfl) str72 (fun a => ⟨_, rfl⟩) (fun w a b => by unfold kV; rw [eq72, vk_dec]) chk72 stay72 (any_run (by kernel_rfl))
theorem mt69 : MT Tryz.prog 148 151 39 kV (Value.int .u32) 0 := MT.ofStruct (by kernel_rfl) str72 (fun a => ⟨_, rfl⟩) (fun w a b => by unfold kV; rw [eq72, vk_dec]) chk72 stay72 (any_run (by kernel_rfl))
theorem mt79 : MT Tryz.prog 156 161 3 kB (Value.int .i64) 0 := MT.ofStruct (by kernel_rfl) str84 (fun a => ⟨_, rfl⟩) (fun w a b => by unfold kB; rw [eq84, bk_dec]) chk84 stay84 (any_run (by kernel_rfl))

/-! ### what is computed -/
def vkey (m : Q32) : VK := (m.f0, m.f1, m.f2, m.f3)
def bkey (m : Q32) : VK := (m.f0, m.f2, m.f3, m.f4)
def dkey (m : Q32) : VK := (m.f0, 0, m.f2, m.f3)
noncomputable def cnt (k : Nat) (n : Int) : List Q32 → List (VK × Bool) → Option (List Q32)
  | [], _ => some []
  | m :: r, seen => if (mget seen (vkey m)).getD false = true then cnt k n r seen else (quorum_group_valid.f k n m).bind fun ok => if ok = true then (cnt k n r (mput seen (vkey m) true)).bind fun c => some (m :: c) else cnt k n r seen
def bump (sz : Int) (st : List (VK × Int) × List (VK × Int)) (m : Q32) : List (VK × Int) × List (VK × Int) :=
  (mput st.1 (bkey m) (W .i64 ((mget st.1 (bkey m)).getD 0 + 1)), if W .i64 ((mget st.1 (bkey m)).getD 0 + 1) = sz then mput st.2 (dkey m) m.f4 else st.2)
noncomputable def quorum_tally.f (k : Nat) (l : List Q32) (n : Int) : Option (List (VK × Int)) := (cnt k n l []).bind fun c => (quorum_Size.f n).bind fun sz => some (c.foldl (bump sz) ([], [])).2
/-- A message as yield is handed it. -/
def m32 (x : Q32) (A : Option Addr) (c : Nat) : Value := .agg #[.int .i64 x.f0, .int .i64 x.f1, .int .i64 x.f2, .int .i64 x.f3, .int .u32 x.f4, .int .i64 x.f5.f0, .string x.f5.f1, .slice A x.f5.f2.length c]
def E32 (x : Q32) (xs : Array Value) : Prop := ∃ A c, xs = #[m32 x A c]

/-! ### counted, and the iterator that it makes -/
noncomputable def kc45 : Code := cBody Tryz.f136
noncomputable def kc45r0 : Code := cL kc45
noncomputable def kc45e : Code := cR kc45
noncomputable def kc45r1 : Code := cL kc45e
noncomputable def kc45t : Code := cR kc45e
noncomputable def o45r0 : List Oper := cOps kc45r0
noncomputable def o45r1 : List Oper := cOps kc45r1
theorem own_new {w0 : World} {I0 I : Imm} {nx : Nat} {L : List Blk} {X : List Res} {w : World} (hs : Sat ⟨w0, fun _ => False, I0⟩ I nx L X w) {i : Nat} {b : Blk} (hi : L[i]? = some b) : w0.heap.size ≤ b.g :=
  (hs.own b (List.mem_of_getElem? hi)).resolve_right (fun h => h)
def fv53 (b1 b2 : Nat) : Value := .func (.func 147) #[] #[.pointer (some ⟨b1, 0, none⟩), .pointer (some ⟨b2, 0, none⟩)]
def counted.Post (I : Imm) (w : World) (A : Option Addr) (n c : Nat) (a : Int) (v : Value) (w' : World) : Prop :=
  ∃ (J : Imm) (b1 b2 : Nat), v = fv53 b1 b2 ∧ Got w w' I J [] ∧ J ⟨b1, 0, none⟩ = some (.slice A n c) ∧ J ⟨b2, 0, none⟩ = some (.func (.func 116) #[.int .i64 a] #[])
theorem counted.calls (I0 : Imm) (A : Option Addr) (n c : Nat) (a : Int) (w : World) (hI : I0.at_ w) :
    Calls Tryz.prog 136 [.slice A n c, .func (.func 116) #[.int .i64 a] #[]].toArray w fun e w' => ∃ v, e = .returned v ∧ counted.Post I0 w A n c a v w' := by
  refine calls_body Tryz.func136 (by kernel_rfl) 6 (by kernel_rfl) (by kernel_rfl) ⟨w, fun _ => False, I0⟩ I0 [] [(0, .slice A n c), (1, .func (.func 116) #[.int .i64 a] #[])] (by kernel_rfl) (Sat.start w _ I0 hI) ?_
  generalize w.heap.size = nx0
  show OK _ kc45 _ _ _ _ _ _ _ _
  refine OK.seq kc45r0 kc45e (by kernel_rfl) ?_
  refine OK.region 0 o45r0 (by kernel_rfl) ?_
  refine RL.simP (K' := [(2, .pointer (some ⟨nx0, 0, none⟩)), (3, .pointer (some ⟨nx0 + 1, 0, none⟩))]) (nx' := nx0 + 2) (L' := [⟨nx0, [.slice A n c], 29⟩, ⟨nx0 + 1, [.func (.func 116) #[.int .i64 a] #[]], 126⟩]) [] (RFacts.nil _ _ _) 3 [.no, .no, .no] (by kernel_rfl) (by kernel_rfl) ?_
  refine RL.nil (by kernel_rfl) ?_
  refine QN.then_ ?_
  refine OK.seq kc45r1 kc45t (by kernel_rfl) ?_
  refine OK.region 1 o45r1 (by kernel_rfl) ?_
  refine RL.simP (K' := [(4, .func (.func 147) #[] #[.pointer (some ⟨nx0, 0, none⟩), .pointer (some ⟨nx0 + 1, 0, none⟩)])]) (nx' := nx0 + 2) (L' := [⟨nx0, [.slice A n c], 29⟩, ⟨nx0 + 1, [.func (.func 116) #[.int .i64 a] #[]], 126⟩]) [] (RFacts.nil _ _ _) 2 [.no, .no] (by kernel_rfl) (by kernel_rfl) ?_
  refine RL.immL 0 rfl (fun w hs => own_new hs (i := 0) rfl) (fun J1 hJ1 h1 => ?_)
  refine RL.immL 0 rfl (fun w hs => own_new hs (i := 0) rfl) (fun J2 hJ2 h2 => ?_)
  refine RL.nil (by kernel_rfl) ?_
  refine QN.then_ ?_
  refine OK.ret (by kernel_rfl) ?_
  refine QN.body rfl [] (RFacts.nil _ _ _) .no (fv53 nx0 (nx0 + 1)) (by kernel_rfl) (by kernel_rfl) (by kernel_rfl) ?_ _ (.inr rfl)
  exact fun w' hs' => ⟨_, rfl, J2, nx0, nx0 + 1, rfl, hs'.got _ (List.nil_sublist _), hJ2 _ _ (h1 0 _ rfl), h2 0 _ rfl⟩

theorem W64 {n : Int} (h0 : 0 ≤ n) (h1 : n < 9223372036854775808) : W .i64 n = n := by
  have h2 : (2 : Int) ^ 64 = 18446744073709551616 := by decide
  have h3 : (2 : Int) ^ 63 = 9223372036854775808 := by decide
  unfold W IntKind.wrap
  simp only [IntKind.bits, IntKind.signed, h2, h3, Nat.add_one_sub_one, Bool.true_and, decide_eq_true_eq]
  have h4 : n % 18446744073709551616 = n := Int.emod_eq_of_lt h0 (by omega)
  rw [h4, if_neg (by omega)]

noncomputable def kc53 : Code := cBody Tryz.f147
noncomputable def kc53r0 : Code := cL kc53
noncomputable def kc53a : Code := cR kc53
noncomputable def kc53r1 : Code := cL kc53a
noncomputable def kc53b : Code := cR kc53a
noncomputable def kc53lp : Code := cL kc53b
noncomputable def kc53in : Code := cL kc53lp
noncomputable def kc53r2 : Code := cL kc53in
noncomputable def kc53c : Code := cR kc53in
noncomputable def kc53cd : Code := cL kc53c
noncomputable def kc53d : Code := cR kc53c
noncomputable def c53bk : Code := cL kc53d
noncomputable def kc53r8 : Code := cR kc53d
noncomputable def kc53bd : Code := cL c53bk
noncomputable def kc53r3 : Code := cL kc53bd
noncomputable def c53e1 : Code := cR kc53bd
noncomputable def kc53r4 : Code := cL c53e1
noncomputable def c53e2 : Code := cR c53e1
noncomputable def c53e3 : Code := cL c53e2
noncomputable def c53e4 : Code := cR c53e2
noncomputable def kc53r5 : Code := cL c53e3
noncomputable def kc53k5 : Code := cR c53e3
noncomputable def kc53r6 : Code := cL c53e4
noncomputable def c53e5 : Code := cR c53e4
noncomputable def kc53r7 : Code := cL c53e5
noncomputable def kc53k7 : Code := cR c53e5
noncomputable def o53 : Nat → List Oper
  | 0 => cOps kc53r0
  | 1 => cOps kc53r1
  | 2 => cOps kc53r2
  | 3 => cOps kc53r3
  | 4 => cOps kc53r4
  | 5 => cOps kc53r5
  | 6 => cOps kc53r6
  | 7 => cOps kc53r7
  | _ => cOps kc53r8
/-- What holds at the head of a round. -/
def inv53 (k : Nat) (n : Int) (l c : List Q32) (I0 : Imm) (A : Option Addr) (cap b2 lid : Nat) (W : World) (S' : Nat → Prop) (J' : List Q32 → World → Prop) (kq : Nat) : St := fun K I _ L X =>
  ∃ (i g : Nat) (seen : List (VK × Bool)) (pre rest : List Q32), K = [(9, .slice A l.length cap), (10, .int .i64 (l.length : Int)), (11, .int .i64 (i : Int)), (4, .map (some g)), (0, .func (.yield lid) #[] #[]), (2, .pointer (some ⟨b2, 0, none⟩))] ∧ L = [] ∧ X = [jres S' W (J' pre), mres kV Value.bool g seen] ∧ Imm.le I0 I ∧
    i + kq = l.length + 1 ∧ i ≤ l.length ∧ cnt k n (l.drop i) seen = some rest ∧ pre ++ rest = c
theorem counted1.calls (k : Nat) (n : Int) (l c : List Q32) (hc : cnt k n l [] = some c) (I0 : Imm) (A : Option Addr) (cap : Nat) (hr : Rd qt32 I0 A l) (b1 b2 : Nat)
    (h1 : I0 ⟨b1, 0, none⟩ = some (.slice A l.length cap)) (h2 : I0 ⟨b2, 0, none⟩ = some (.func (.func 116) #[.int .i64 n] #[]))
    (lid : Nat) (W : World) (hI : I0.at_ W) (S' : Nat → Prop) (hS : ∀ k, S' k → k < W.heap.size) (hIS : ∀ a v, I0 a = some v → ¬ S' a.block) (J' : List Q32 → World → Prop) (hJ : ∀ pre A B, J' pre A → LowEq W.heap.size A B → J' pre B)
    (hY : ∀ pre x xs W1, J' pre W1 → (pre ++ [x]) <+: c → E32 x xs → YieldAt (Fence.ro none) 0 Tryz.prog lid xs W1 fun e W' => e = .returned (.bool true) ∧ J' (pre ++ [x]) W' ∧ Evo S' W1 W')
    (h0 : J' [] W) : Calls Tryz.prog 147 [.func (.yield lid) #[] #[], .pointer (some ⟨b1, 0, none⟩), .pointer (some ⟨b2, 0, none⟩)].toArray W fun e W' => (∃ v, e = .returned v) ∧ J' c W' ∧ Evo S' W W' := by
  refine calls_body Tryz.func147 (by kernel_rfl) 41 (by kernel_rfl) (by kernel_rfl) ⟨W, S', I0⟩ I0 [jres S' W (J' [])] [(0, .func (.yield lid) #[] #[]), (1, .pointer (some ⟨b1, 0, none⟩)), (2, .pointer (some ⟨b2, 0, none⟩))] (by kernel_rfl) (Sat.startJ hI hS hIS h0) ?_
  generalize W.heap.size = nx0
  show OK _ kc53 _ _ _ _ _ _ _ _
  refine OK.seq kc53r0 kc53a (by kernel_rfl) ?_
  refine OK.region 0 (o53 0) (by kernel_rfl) ?_
  refine RL.makeMap (T := 167) kV Value.bool (some 8) (by kernel_rfl) (by kernel_rfl) ?_
  refine RL.simP (K' := [(4, .map (some nx0)), (0, .func (.yield lid) #[] #[]), (1, .pointer (some ⟨b1, 0, none⟩)), (2, .pointer (some ⟨b2, 0, none⟩))]) (nx' := nx0 + 1) (L' := []) [] (RFacts.nil _ _ _) 1 [.no] (by kernel_rfl) (by kernel_rfl) ?_
  refine RL.nil (by kernel_rfl) ?_
  refine QN.then_ ?_
  refine OK.seq kc53r1 kc53b (by kernel_rfl) ?_
  refine OK.region 1 (o53 1) (by kernel_rfl) ?_
  refine RL.simP (K' := [(9, .slice A l.length cap), (10, .int .i64 (l.length : Int)), (11, .int .i64 ((0 : Nat) : Int)), (4, .map (some nx0)), (0, .func (.yield lid) #[] #[]), (2, .pointer (some ⟨b2, 0, none⟩))]) (nx' := nx0 + 1) (L' := []) [(⟨b1, 0, none⟩, .slice A l.length cap)] (RFacts.imm h1 (RFacts.nil _ _ _)) 3 [.r 0, .no, .no] (by kernel_rfl) (by kernel_rfl) ?_
  refine RL.nil (by kernel_rfl) ?_
  refine QN.then_ ?_
  refine OK.block 0 kc53lp (by kernel_rfl) ?_
  refine OK.loopInv kc53in (by kernel_rfl) (inv53 k n l c I0 A cap b2 lid W S' J') (l.length + 1) ⟨0, nx0, [], [], c, rfl, rfl, rfl, Imm.le_refl _, by omega, by omega, by simpa using hc, rfl⟩ (fun K I nx L X h => ?_) ?_
  · obtain ⟨i, g, seen, pre, rest, _, _, _, _, h5, h6, _⟩ := h
    omega
  rintro kq _ I nx _ _ ⟨i, g, seen, pre, rest, rfl, rfl, rfl, hle, hi1, hi2, hcnt, hpre⟩ Q' hJn hQ
  refine OK.seq kc53r2 kc53c (by kernel_rfl) ?_
  refine OK.region 2 (o53 2) (by kernel_rfl) ?_
  refine RL.simP (K' := [(12, .bool (decide ((i : Int) < (l.length : Int)))), (9, .slice A l.length cap), (10, .int .i64 (l.length : Int)), (11, .int .i64 (i : Int)), (4, .map (some g)), (0, .func (.yield lid) #[] #[]), (2, .pointer (some ⟨b2, 0, none⟩))]) (nx' := nx) (L' := []) [] (RFacts.nil _ _ _) 1 [.no] (by kernel_rfl) (by kernel_rfl) ?_
  refine RL.nil (by kernel_rfl) ?_
  refine QN.then_ ?_
  refine OK.seq kc53cd kc53d (by kernel_rfl) ?_
  refine OK.cond (.tmp 12) (cL kc53cd) (cR kc53cd) (decide ((i : Int) < (l.length : Int))) (by kernel_rfl) (by kernel_rfl) (by kernel_rfl) (fun hb => ?_) (fun hb => ?_)
  rotate_left
  · -- the end
    have hlt : ¬ ((i : Int) < (l.length : Int)) := of_decide_eq_false hb
    have hil : i = l.length := by omega
    subst hil
    rw [List.drop_length] at hcnt
    obtain rfl : [] = rest := Option.some.inj hcnt
    rw [List.append_nil] at hpre
    subst hpre
    refine OK.exit 0 (by kernel_rfl) ?_
    refine QN.thenE ?_
    refine QN.outE hQ ?_
    refine QN.blkE ?_
    refine QN.body rfl [] (RFacts.nil _ _ _) .no (.tuple #[]) (by kernel_rfl) (by kernel_rfl) (by kernel_rfl) ?_ _ (.inl rfl)
    exact fun w' hs' => ⟨⟨_, rfl⟩, jres_at hs' List.mem_cons_self (hJ _), hs'.evo⟩
  have hlt : (i : Int) < (l.length : Int) := of_decide_eq_true hb
  refine OK.skip (by kernel_rfl) ?_
  refine QN.then_ ?_
  refine OK.seq c53bk kc53r8 (by kernel_rfl) ?_
  -- what comes behind the body, whatever it has done
  have hnext : ∀ (J : Imm) (nx : Nat) (L : List Blk) (seen' : List (VK × Bool)) (pre' rest' : List Q32), Imm.le I0 J → cnt k n (l.drop (i + 1)) seen' = some rest' → pre' ++ rest' = c →
      OK Tryz.prog kc53r8 Q' ⟨41, []⟩ [(9, .slice A l.length cap), (10, .int .i64 (l.length : Int)), (11, .int .i64 (i : Int)), (4, .map (some g)), (0, .func (.yield lid) #[] #[]), (2, .pointer (some ⟨b2, 0, none⟩))] ⟨W, S', I0⟩ J nx L [jres S' W (J' pre'), mres kV Value.bool g seen'] := by
    intro J nx L seen' pre' rest' hJ1 hcnt' hpre'
    refine OK.sub (K' := [(9, .slice A l.length cap), (10, .int .i64 (l.length : Int)), (11, .int .i64 (i : Int)), (4, .map (some g)), (0, .func (.yield lid) #[] #[]), (2, .pointer (some ⟨b2, 0, none⟩))]) (L' := []) (by kernel_rfl) (List.nil_sublist _) (List.Sublist.refl _) ?_
    refine OK.region 8 (o53 8) (by kernel_rfl) ?_
    refine RL.simP (K' := [(9, .slice A l.length cap), (10, .int .i64 (l.length : Int)), (11, .int .i64 (RW.W .i64 ((i : Int) + 1))), (4, .map (some g)), (0, .func (.yield lid) #[] #[]), (2, .pointer (some ⟨b2, 0, none⟩))]) (nx' := nx) (L' := []) [] (RFacts.nil _ _ _) 2 [.no, .no] (by kernel_rfl) (by kernel_rfl) ?_
    refine RL.nil (by kernel_rfl) ?_
    have hml := hr.1
    rw [W64 (by omega) (by omega), show ((i : Int) + 1) = ((i + 1 : Nat) : Int) from by omega]
    exact hJn _ _ _ _ _ ⟨i + 1, g, seen', pre', rest', rfl, rfl, rfl, hJ1, by omega, by omega, hcnt', hpre'⟩
  obtain ⟨g1, o1, hA1, A1, kc1, hl1, hr1, hc1⟩ := qt32_at (Rd.ext hle hr) (i : Int) (by omega) hlt
  obtain ⟨m, hm⟩ : ∃ m, l.getD (i : Int).toNat qz32 = m := ⟨_, rfl⟩
  rw [hm] at hl1 hr1 hc1
  have hil : i < l.length := by omega
  have hdrop : l.drop i = m :: l.drop (i + 1) := by
    rw [List.drop_eq_getElem_cons hil, ← hm, Int.toNat_natCast, List.getD_eq_getElem?_getD, List.getElem?_eq_getElem hil]
    rfl
  rw [hdrop] at hcnt
  simp only [cnt] at hcnt
  refine OK.block 1 kc53bd (by kernel_rfl) ?_
  refine OK.seq kc53r3 c53e1 (by kernel_rfl) ?_
  refine OK.region 3 (o53 3) (by kernel_rfl) ?_
  refine RL.idx 8 .i64 (i : Int) hA1 l.length cap (some 13) (by kernel_rfl) (by kernel_rfl) (T := 29) (e := 43) (by kernel_rfl) (by kernel_rfl) (by omega) hlt (K' := [(13, .pointer (some ⟨g1, o1 + (i : Int).toNat * 8, none⟩)), (12, .bool (decide ((i : Int) < (l.length : Int)))), (9, .slice A l.length cap), (10, .int .i64 (l.length : Int)), (11, .int .i64 (i : Int)), (4, .map (some g)), (0, .func (.yield lid) #[] #[]), (2, .pointer (some ⟨b2, 0, none⟩))]) ?_ ?_
  · kernel_rfl
  refine RL.simP (K' := [(6, .pointer (some ⟨nx, 0, none⟩)), (9, .slice A l.length cap), (10, .int .i64 (l.length : Int)), (11, .int .i64 (i : Int)), (4, .map (some g)), (0, .func (.yield lid) #[] #[]), (2, .pointer (some ⟨b2, 0, none⟩))]) (nx' := nx + 1)
    (L' := [⟨nx, [.int .i64 m.f0, .int .i64 m.f1, .int .i64 m.f2, .int .i64 m.f3, .int .u32 m.f4, .int .i64 m.f5.f0, .string m.f5.f1, .slice A1 m.f5.f2.length kc1], 43⟩])
    [(⟨g1, o1 + (i : Int).toNat * 8, none⟩, .int .i64 m.f0), (⟨g1, o1 + (i : Int).toNat * 8 + 1, none⟩, .int .i64 m.f1), (⟨g1, o1 + (i : Int).toNat * 8 + 2, none⟩, .int .i64 m.f2), (⟨g1, o1 + (i : Int).toNat * 8 + 3, none⟩, .int .i64 m.f3), (⟨g1, o1 + (i : Int).toNat * 8 + 4, none⟩, .int .u32 m.f4), (⟨g1, o1 + (i : Int).toNat * 8 + 5, none⟩, .int .i64 m.f5.f0), (⟨g1, o1 + (i : Int).toNat * 8 + 6, none⟩, .string m.f5.f1), (⟨g1, o1 + (i : Int).toNat * 8 + 7, none⟩, .slice A1 m.f5.f2.length kc1)]
    (RFacts.imm (hc1 0 _ rfl) (RFacts.imm (hc1 1 _ rfl) (RFacts.imm (hc1 2 _ rfl) (RFacts.imm (hc1 3 _ rfl) (RFacts.imm (hc1 4 _ rfl) (RFacts.imm (hc1 5 _ rfl) (RFacts.imm (hc1 6 _ rfl) (RFacts.imm (hc1 7 _ rfl) (RFacts.nil _ _ _))))))))) 3 [.r 0, .no, .l 0] (by kernel_rfl) (by kernel_rfl) ?_
  refine RL.nil (by kernel_rfl) ?_
  refine QN.then_ ?_
  refine OK.seq kc53r4 c53e2 (by kernel_rfl) ?_
  refine OK.region 4 (o53 4) (by kernel_rfl) ?_
  refine RL.simP (K' := [(6, .pointer (some ⟨nx, 0, none⟩)), (7, .pointer (some ⟨nx + 1, 0, none⟩)), (9, .slice A l.length cap), (10, .int .i64 (l.length : Int)), (11, .int .i64 (i : Int)), (4, .map (some g)), (0, .func (.yield lid) #[] #[]), (2, .pointer (some ⟨b2, 0, none⟩))]) (nx' := nx + 2)
    (L' := [⟨nx, [.int .i64 m.f0, .int .i64 m.f1, .int .i64 m.f2, .int .i64 m.f3, .int .u32 m.f4, .int .i64 m.f5.f0, .string m.f5.f1, .slice A1 m.f5.f2.length kc1], 43⟩, ⟨nx + 1, [.int .i64 m.f0, .int .i64 m.f1, .int .i64 m.f2, .int .i64 m.f3], 151⟩])
    [] (RFacts.nil _ _ _) 12 [.no, .l 0, .no, .l 0, .no, .l 0, .no, .l 0, .no, .no, .no, .l 1] (by kernel_rfl) (by kernel_rfl) ?_
  refine RL.nil (by kernel_rfl) ?_
  refine QN.then_ ?_
  refine OK.seq c53e3 c53e4 (by kernel_rfl) ?_
  refine OK.seq kc53r5 kc53k5 (by kernel_rfl) ?_
  refine OK.region 5 (o53 5) (by kernel_rfl) ?_
  refine RL.simP (K' := [(25, .map (some g)), (26, kV (vkey m)), (6, .pointer (some ⟨nx, 0, none⟩)), (7, .pointer (some ⟨nx + 1, 0, none⟩)), (9, .slice A l.length cap), (10, .int .i64 (l.length : Int)), (11, .int .i64 (i : Int)), (4, .map (some g)), (0, .func (.yield lid) #[] #[]), (2, .pointer (some ⟨b2, 0, none⟩))]) (nx' := nx + 2)
    (L' := [⟨nx, [.int .i64 m.f0, .int .i64 m.f1, .int .i64 m.f2, .int .i64 m.f3, .int .u32 m.f4, .int .i64 m.f5.f0, .string m.f5.f1, .slice A1 m.f5.f2.length kc1], 43⟩, ⟨nx + 1, [.int .i64 m.f0, .int .i64 m.f1, .int .i64 m.f2, .int .i64 m.f3], 151⟩])
    [] (RFacts.nil _ _ _) 2 [.no, .l 1] (by kernel_rfl) (by kernel_rfl) ?_
  cases hsv : (mget seen (vkey m)).getD false with
  | true =>
    rw [hsv, if_pos rfl] at hcnt
    refine RL.lookM mt91 (vkey m) false 1 (some 27) (by kernel_rfl) rfl (by kernel_rfl) (K' := [(27, .bool true), (25, .map (some g)), (26, kV (vkey m)), (6, .pointer (some ⟨nx, 0, none⟩)), (7, .pointer (some ⟨nx + 1, 0, none⟩)), (9, .slice A l.length cap), (10, .int .i64 (l.length : Int)), (11, .int .i64 (i : Int)), (4, .map (some g)), (0, .func (.yield lid) #[] #[]), (2, .pointer (some ⟨b2, 0, none⟩))]) ?_ ?_
    · rw [if_neg (by decide), hsv]; kernel_rfl
    refine RL.simP (K' := [(33, .bool true), (9, .slice A l.length cap), (10, .int .i64 (l.length : Int)), (11, .int .i64 (i : Int)), (4, .map (some g)), (0, .func (.yield lid) #[] #[]), (2, .pointer (some ⟨b2, 0, none⟩))]) (nx' := nx + 2) (L' := [⟨nx, [.int .i64 m.f0, .int .i64 m.f1, .int .i64 m.f2, .int .i64 m.f3, .int .u32 m.f4, .int .i64 m.f5.f0, .string m.f5.f1, .slice A1 m.f5.f2.length kc1], 43⟩, ⟨nx + 1, [.int .i64 m.f0, .int .i64 m.f1, .int .i64 m.f2, .int .i64 m.f3], 151⟩]) [] (RFacts.nil _ _ _) 6 [] (by kernel_rfl) (by kernel_rfl) ?_
    refine RL.nil (by kernel_rfl) ?_
    refine QN.then_ ?_
    refine OK.condT (.tmp 33) (cL kc53k5) (cR kc53k5) (by kernel_rfl) (by kernel_rfl) (by kernel_rfl) ?_
    refine OK.exit 1 (by kernel_rfl) ?_
    refine QN.thenE ?_
    refine QN.blkE ?_
    refine QN.then_ ?_
    refine OK.sub (K' := [(9, .slice A l.length cap), (10, .int .i64 (l.length : Int)), (11, .int .i64 (i : Int)), (4, .map (some g)), (0, .func (.yield lid) #[] #[]), (2, .pointer (some ⟨b2, 0, none⟩))]) (L' := []) (by kernel_rfl) (List.nil_sublist _) (List.Sublist.refl _) ?_
    exact hnext _ _ _ _ _ _ hle hcnt hpre
  | false =>
    rw [hsv, if_neg (by decide)] at hcnt
    obtain ⟨ok, hok, hcnt⟩ := Option.bind_eq_some_iff.mp hcnt
    refine RL.lookM mt91 (vkey m) false 1 (some 27) (by kernel_rfl) rfl (by kernel_rfl) (K' := [(27, .bool false), (25, .map (some g)), (26, kV (vkey m)), (6, .pointer (some ⟨nx, 0, none⟩)), (7, .pointer (some ⟨nx + 1, 0, none⟩)), (9, .slice A l.length cap), (10, .int .i64 (l.length : Int)), (11, .int .i64 (i : Int)), (4, .map (some g)), (0, .func (.yield lid) #[] #[]), (2, .pointer (some ⟨b2, 0, none⟩))]) ?_ ?_
    · rw [if_neg (by decide), hsv]; kernel_rfl
    refine RL.simP (K' := [(28, .bool false), (29, .func (.func 116) #[.int .i64 n] #[]), (30, m32 m A1 kc1), (6, .pointer (some ⟨nx, 0, none⟩)), (7, .pointer (some ⟨nx + 1, 0, none⟩)), (9, .slice A l.length cap), (10, .int .i64 (l.length : Int)), (11, .int .i64 (i : Int)), (4, .map (some g)), (0, .func (.yield lid) #[] #[]), (2, .pointer (some ⟨b2, 0, none⟩))]) (nx' := nx + 2) (L' := [⟨nx, [.int .i64 m.f0, .int .i64 m.f1, .int .i64 m.f2, .int .i64 m.f3, .int .u32 m.f4, .int .i64 m.f5.f0, .string m.f5.f1, .slice A1 m.f5.f2.length kc1], 43⟩, ⟨nx + 1, [.int .i64 m.f0, .int .i64 m.f1, .int .i64 m.f2, .int .i64 m.f3], 151⟩]) [(⟨b2, 0, none⟩, .func (.func 116) #[.int .i64 n] #[])] (RFacts.imm (hle _ _ h2) (RFacts.nil _ _ _)) 3 [.no, .r 0, .l 0] (by kernel_rfl) (by kernel_rfl) ?_
    refine RL.callP 116 [.int .i64 n, m32 m A1 kc1] (some 31) (fun w => quorum_group_valid.Post I w ok) (by kernel_rfl) (by kernel_rfl) (fun w hs => quorum_group_valid.calls k I n m A1 kc1 w hs.im hl1 hr1 ok hok) ?_
    rintro w v w' hs ⟨J, rfl, hg⟩
    have hleJ := Imm.le_trans hle hg.le
    refine RL.resume (K' := [(31, .bool ok), (28, .bool false), (29, .func (.func 116) #[.int .i64 n] #[]), (30, m32 m A1 kc1), (6, .pointer (some ⟨nx, 0, none⟩)), (7, .pointer (some ⟨nx + 1, 0, none⟩)), (9, .slice A l.length cap), (10, .int .i64 (l.length : Int)), (11, .int .i64 (i : Int)), (4, .map (some g)), (0, .func (.yield lid) #[] #[]), (2, .pointer (some ⟨b2, 0, none⟩))]) (X' := [jres S' W (J' pre), mres kV Value.bool g seen]) (by kernel_rfl) (hs.call hg) ?_
    clear hs hg
    generalize w'.heap.size = nx2
    clear w w'
    refine RL.simP (K' := [(33, .bool (!ok)), (6, .pointer (some ⟨nx, 0, none⟩)), (7, .pointer (some ⟨nx + 1, 0, none⟩)), (9, .slice A l.length cap), (10, .int .i64 (l.length : Int)), (11, .int .i64 (i : Int)), (4, .map (some g)), (0, .func (.yield lid) #[] #[]), (2, .pointer (some ⟨b2, 0, none⟩))]) (nx' := nx2) (L' := [⟨nx, [.int .i64 m.f0, .int .i64 m.f1, .int .i64 m.f2, .int .i64 m.f3, .int .u32 m.f4, .int .i64 m.f5.f0, .string m.f5.f1, .slice A1 m.f5.f2.length kc1], 43⟩, ⟨nx + 1, [.int .i64 m.f0, .int .i64 m.f1, .int .i64 m.f2, .int .i64 m.f3], 151⟩]) [] (RFacts.nil _ _ _) 2 [.no, .no] (by kernel_rfl) (by kernel_rfl) ?_
    refine RL.nil (by kernel_rfl) ?_
    refine QN.then_ ?_
    cases ok with
    | false =>
      rw [if_neg (by decide)] at hcnt
      refine OK.condT (.tmp 33) (cL kc53k5) (cR kc53k5) (by kernel_rfl) (by kernel_rfl) (by kernel_rfl) ?_
      refine OK.exit 1 (by kernel_rfl) ?_
      refine QN.thenE ?_
      refine QN.blkE ?_
      refine QN.then_ ?_
      refine OK.sub (K' := [(9, .slice A l.length cap), (10, .int .i64 (l.length : Int)), (11, .int .i64 (i : Int)), (4, .map (some g)), (0, .func (.yield lid) #[] #[]), (2, .pointer (some ⟨b2, 0, none⟩))]) (L' := []) (by kernel_rfl) (List.nil_sublist _) (List.Sublist.refl _) ?_
      exact hnext _ _ _ _ _ _ hleJ hcnt hpre
    | true =>
      rw [if_pos rfl] at hcnt
      obtain ⟨rest', hcnt2, hrest⟩ := Option.bind_eq_some_iff.mp hcnt
      obtain rfl := Option.some.inj hrest
      have hpre2 : (pre ++ [m]) ++ rest' = c := by rw [List.append_assoc]; exact hpre
      refine OK.condF (.tmp 33) (cL kc53k5) (cR kc53k5) (by kernel_rfl) (by kernel_rfl) (by kernel_rfl) ?_
      refine OK.skip (by kernel_rfl) ?_
      refine QN.then_ ?_
      refine OK.seq kc53r6 c53e5 (by kernel_rfl) ?_
      refine OK.region 6 (o53 6) (by kernel_rfl) ?_
      refine RL.simP (K' := [(34, .map (some g)), (35, kV (vkey m)), (6, .pointer (some ⟨nx, 0, none⟩)), (7, .pointer (some ⟨nx + 1, 0, none⟩)), (9, .slice A l.length cap), (10, .int .i64 (l.length : Int)), (11, .int .i64 (i : Int)), (4, .map (some g)), (0, .func (.yield lid) #[] #[]), (2, .pointer (some ⟨b2, 0, none⟩))]) (nx' := nx2) (L' := [⟨nx, [.int .i64 m.f0, .int .i64 m.f1, .int .i64 m.f2, .int .i64 m.f3, .int .u32 m.f4, .int .i64 m.f5.f0, .string m.f5.f1, .slice A1 m.f5.f2.length kc1], 43⟩, ⟨nx + 1, [.int .i64 m.f0, .int .i64 m.f1, .int .i64 m.f2, .int .i64 m.f3], 151⟩]) [] (RFacts.nil _ _ _) 2 [.no, .l 1] (by kernel_rfl) (by kernel_rfl) ?_
      refine RL.putM mt91 (vkey m) true 1 (by kernel_rfl) rfl (by kernel_rfl) ?_
      refine RL.nil (by kernel_rfl) ?_
      refine QN.then_ ?_
      refine OK.seq kc53r7 kc53k7 (by kernel_rfl) ?_
      refine OK.regionI 7 (o53 7) (by kernel_rfl) ?_
      refine RLi.simP (K' := [(36, .func (.yield lid) #[] #[]), (37, m32 m A1 kc1), (6, .pointer (some ⟨nx, 0, none⟩)), (7, .pointer (some ⟨nx + 1, 0, none⟩)), (9, .slice A l.length cap), (10, .int .i64 (l.length : Int)), (11, .int .i64 (i : Int)), (4, .map (some g)), (0, .func (.yield lid) #[] #[]), (2, .pointer (some ⟨b2, 0, none⟩))]) (nx' := nx2) (L' := [⟨nx, [.int .i64 m.f0, .int .i64 m.f1, .int .i64 m.f2, .int .i64 m.f3, .int .u32 m.f4, .int .i64 m.f5.f0, .string m.f5.f1, .slice A1 m.f5.f2.length kc1], 43⟩, ⟨nx + 1, [.int .i64 m.f0, .int .i64 m.f1, .int .i64 m.f2, .int .i64 m.f3], 151⟩]) [] (RFacts.nil _ _ _) 2 [.no, .l 0] (by kernel_rfl) (by kernel_rfl) (by kernel_rfl) ?_
      refine RLi.yield (X' := [jres S' W (J' (pre ++ [m])), mres kV Value.bool g (mput seen (vkey m) true)]) lid #[m32 m A1 kc1] (some 38) (by kernel_rfl) (by kernel_rfl) (by kernel_rfl) (fun w hs => ?_) (fun nx3 => ?_)
      · refine RW.YieldAt.mono (hY pre m _ w (jres_at hs List.mem_cons_self (hJ _)) ⟨rest', hpre2⟩ ⟨A1, kc1, rfl⟩) ?_
        rintro e w' ⟨he, hJ', hev⟩
        exact ⟨he, hs.yielded hS hev hJ'⟩
      refine RLi.simP (K' := [(39, .bool false), (9, .slice A l.length cap), (10, .int .i64 (l.length : Int)), (11, .int .i64 (i : Int)), (4, .map (some g)), (0, .func (.yield lid) #[] #[]), (2, .pointer (some ⟨b2, 0, none⟩))]) (nx' := nx3) (L' := [⟨nx, [.int .i64 m.f0, .int .i64 m.f1, .int .i64 m.f2, .int .i64 m.f3, .int .u32 m.f4, .int .i64 m.f5.f0, .string m.f5.f1, .slice A1 m.f5.f2.length kc1], 43⟩, ⟨nx + 1, [.int .i64 m.f0, .int .i64 m.f1, .int .i64 m.f2, .int .i64 m.f3], 151⟩]) [] (RFacts.nil _ _ _) 1 [.no] (by kernel_rfl) (by kernel_rfl) (by kernel_rfl) ?_
      refine RLi.nil (by kernel_rfl) ?_
      refine QN.then_ ?_
      refine OK.condF (.tmp 39) (cL kc53k7) (cR kc53k7) (by kernel_rfl) (by kernel_rfl) (by kernel_rfl) ?_
      refine OK.skip (by kernel_rfl) ?_
      refine QN.blkN ?_
      refine QN.then_ ?_
      refine OK.sub (K' := [(9, .slice A l.length cap), (10, .int .i64 (l.length : Int)), (11, .int .i64 (i : Int)), (4, .map (some g)), (0, .func (.yield lid) #[] #[]), (2, .pointer (some ⟨b2, 0, none⟩))]) (L' := []) (by kernel_rfl) (List.nil_sublist _) (List.Sublist.refl _) ?_
      exact hnext _ _ _ _ _ _ hleJ hcnt2 hpre2

/-! ### the tally -/
def cAs : Code → Code
  | .rangeFunc _ _ a _ => a
  | c => c
def cBd : Code → Code
  | .rangeFunc _ _ _ b => b
  | c => c
noncomputable def kc35 : Code := cBody Tryz.f127
noncomputable def kc35r0 : Code := cL kc35
noncomputable def kc35a : Code := cR kc35
noncomputable def kc35r1 : Code := cL kc35a
noncomputable def kc35b : Code := cR kc35a
noncomputable def kc35c : Code := cL kc35b
noncomputable def kc35r2 : Code := cL kc35c
noncomputable def c35bk : Code := cR kc35c
noncomputable def c35rf : Code := cL c35bk
noncomputable def kc35e : Code := cR kc35b
noncomputable def kc35r8 : Code := cL kc35e
noncomputable def kc35t : Code := cR kc35e
noncomputable def c35as : Code := cAs c35rf
noncomputable def kc35bd : Code := cBd c35rf
noncomputable def c35b1 : Code := cL kc35bd
noncomputable def kc35r4 : Code := cL c35b1
noncomputable def c35d1 : Code := cR c35b1
noncomputable def kc35r5 : Code := cL c35d1
noncomputable def c35d2 : Code := cR c35d1
noncomputable def kc35r6 : Code := cL c35d2
noncomputable def kc35cd : Code := cR c35d2
noncomputable def kc35r7 : Code := cL kc35cd
noncomputable def c35sk : Code := cR kc35cd
noncomputable def o35 : Nat → List Oper
  | 0 => cOps kc35r0
  | 1 => cOps kc35r1
  | 2 => cOps kc35r2
  | 3 => cOps c35as
  | 4 => cOps kc35r4
  | 5 => cOps kc35r5
  | 6 => cOps kc35r6
  | 7 => cOps kc35r7
  | _ => cOps kc35r8
def cells32 (x : Q32) (A : Option Addr) (c : Nat) : List Value := [.int .i64 x.f0, .int .i64 x.f1, .int .i64 x.f2, .int .i64 x.f3, .int .u32 x.f4, .int .i64 x.f5.f0, .string x.f5.f1, .slice A x.f5.f2.length c]
def cells84 (m : Q32) : List Value := [.int .i64 m.f0, .int .i64 m.f2, .int .i64 m.f3, .int .u32 m.f4]
theorem an35_5 : ancs (o35 5) [] = [0, 0, 3, 7, 3, 19, 63] := by kernel_rfl
theorem an35_6 : ancs (o35 6) [] = [0, 0, 3, 0, 8, 31] := by kernel_rfl
theorem tally_body (lid : Nat) (Q : Exit → Act → World → Prop) (hQ : ¬ LetsOut Q) (B : Base) (I : Imm) (nx g3 g5 g6 gv gd gm : Nat) (n sz : Int) (m : Q32) (A1 : Option Addr) (kc1 : Nat) (vt dt : List (VK × Int))
    (h3 : I ⟨g3, 0, none⟩ = some (.int .i64 n)) (h5 : I ⟨g5, 0, none⟩ = some (.map (some gv))) (h6 : I ⟨g6, 0, none⟩ = some (.map (some gd))) (hsz : quorum_Size.f n = some sz)
    (k : ∀ J nx', I.le J → QN Q .normal ⟨47, []⟩ [] B J nx' [] [mres kB (Value.int .i64) gv (bump sz (vt, dt) m).1, mres kV (Value.int .u32) gd (bump sz (vt, dt) m).2]) :
    OKr lid Tryz.prog kc35bd Q ⟨47, []⟩ [(7, .pointer (some ⟨gm, 0, none⟩)), (3, .pointer (some ⟨g3, 0, none⟩)), (5, .pointer (some ⟨g5, 0, none⟩)), (6, .pointer (some ⟨g6, 0, none⟩))] B I nx [⟨gm, cells32 m A1 kc1, 43⟩] [mres kB (Value.int .i64) gv vt, mres kV (Value.int .u32) gd dt] := by
  obtain ⟨v, hv⟩ : ∃ v, RW.W .i64 ((mget vt (bkey m)).getD 0 + 1) = v := ⟨_, rfl⟩
  refine OKr.block 1 c35b1 (by kernel_rfl) ?_
  have hQ1 : ¬ LetsOut (Exit.inBlock 1 Q) := letsBlock hQ
  refine OKr.seq kc35r4 c35d1 (by kernel_rfl) ?_
  refine OKr.region 4 (o35 4) (by kernel_rfl) (letsThen hQ1) (by kernel_rfl) ?_
  refine RL.simP (K' := [(8, .pointer (some ⟨nx, 0, none⟩)), (3, .pointer (some ⟨g3, 0, none⟩)), (5, .pointer (some ⟨g5, 0, none⟩)), (6, .pointer (some ⟨g6, 0, none⟩))]) (nx' := nx + 1) (L' := [⟨gm, cells32 m A1 kc1, 43⟩, ⟨nx, cells84 m, 161⟩]) [] (RFacts.nil _ _ _) 12 [.no, .l 0, .no, .l 0, .no, .l 0, .no, .no, .l 0, .no, .no, .l 1] (by kernel_rfl) (by kernel_rfl) ?_
  refine RL.nil (by kernel_rfl) ?_
  refine QN.thenr ?_
  refine OKr.seq kc35r5 c35d2 (by kernel_rfl) ?_
  refine OKr.drawn 5 (o35 5) (by kernel_rfl) (by kernel_rfl) (letsThen hQ1) (by kernel_rfl) ?_
  obtain ⟨old, hold⟩ : ∃ old, (mget vt (bkey m)).getD 0 = old := ⟨_, rfl⟩
  obtain ⟨at_, hat⟩ : ∃ at_ : Nat, mat vt (bkey m) = at_ := ⟨_, rfl⟩
  refine drawnAnyS 6 (o35 5) _ [(4, fun _ => .tuple #[.int .i64 old, goInt (at_ : Int)])] [(2, fun _ => .int .i64 old)] [(⟨g5, 0, none⟩, .map (some gv))] [⟨gm, cells32 m A1 kc1, 43⟩, ⟨nx, cells84 m, 161⟩] [.r 0, .l 1, .no, .no, .no, .no] an35_5 (by kernel_rfl) (by kernel_rfl)
    (fun _ => [.map (some gv), kB (bkey m), .int .i64 old, .int .i64 (RW.W .i64 (old + 1)), .tuple #[.int .i64 old, goInt (at_ : Int)], goInt (at_ : Int)])
    (fun _ => [(31, goInt (at_ : Int)), (30, .tuple #[.int .i64 old, goInt (at_ : Int)]), (29, .int .i64 (RW.W .i64 (old + 1))), (28, .int .i64 old), (27, kB (bkey m)), (26, .map (some gv)), (8, .pointer (some ⟨nx, 0, none⟩)), (3, .pointer (some ⟨g3, 0, none⟩)), (5, .pointer (some ⟨g5, 0, none⟩)), (6, .pointer (some ⟨g6, 0, none⟩))])
    (fun u => by kernel_rfl) (fun u => by kernel_rfl)
    (fun D _ w => Sat B I (nx + 1) [⟨gm, cells32 m A1 kc1, 43⟩, ⟨nx, cells84 m, 161⟩] [mres kB (Value.int .i64) gv (bif D 4 then mens vt (bkey m) 0 else vt), mres kV (Value.int .u32) gd dt] w)
    (fun D u w hs => ⟨hs.blk, fun r hr => (RFacts.imm h5 (RFacts.nil _ _ _)) _ _ w hs r hr⟩) (fun u w hs => hs)
    [fun _ => [(29, .int .i64 (RW.W .i64 (old + 1))), (28, .int .i64 old), (27, kB (bkey m)), (26, .map (some gv)), (8, .pointer (some ⟨nx, 0, none⟩)), (3, .pointer (some ⟨g3, 0, none⟩)), (5, .pointer (some ⟨g5, 0, none⟩)), (6, .pointer (some ⟨g6, 0, none⟩))]]
    ⟨fun u => by kernel_rfl, trivial⟩ ⟨fun D u w hD _ hs => ?_, trivial⟩
    [fun _ => [(27, kB (bkey m)), (26, .map (some gv)), (8, .pointer (some ⟨nx, 0, none⟩)), (3, .pointer (some ⟨g3, 0, none⟩)), (5, .pointer (some ⟨g5, 0, none⟩)), (6, .pointer (some ⟨g6, 0, none⟩))]]
    ⟨fun u => by kernel_rfl, trivial⟩ ⟨fun D u w _ hs => ?_, fun _ _ _ => rfl, trivial⟩ (fun u a w hs ha => ?_)
  · -- the entry is made
    simp only [hD, cond_false] at hs ⊢
    have hx : execOp (evalK [(29, .int .i64 (RW.W .i64 (old + 1))), (28, .int .i64 old), (27, kB (bkey m)), (26, .map (some gv)), (8, .pointer (some ⟨nx, 0, none⟩)), (3, .pointer (some ⟨g3, 0, none⟩)), (5, .pointer (some ⟨g5, 0, none⟩)), (6, .pointer (some ⟨g6, 0, none⟩))]) ((o35 5).getD 4 default) = toNext (Instr.mapEntry 156 (.map (some gv)) (kB (bkey m))) := by kernel_rfl
    have hr := mt79.entry (hs.res _ List.mem_cons_self) (bkey m)
    rw [hold, hat] at hr
    refine .inl ⟨_, _, .inl (by rw [hx]; exact run_toNext hr), fun _ => (none, 0, []), rfl, ?_⟩
    simp only [dset_self, cond_true]
    exact hs.putMap (m := 0) rfl
  · -- the count that stands
    have hx : execOp (evalK [(27, kB (bkey m)), (26, .map (some gv)), (8, .pointer (some ⟨nx, 0, none⟩)), (3, .pointer (some ⟨g3, 0, none⟩)), (5, .pointer (some ⟨g5, 0, none⟩)), (6, .pointer (some ⟨g6, 0, none⟩))]) ((o35 5).getD 2 default) = toNext (Instr.lookup 156 (.map (some gv)) (kB (bkey m)) false) := by kernel_rfl
    have hr := mt79.lookup (q := 0) (w := w) (g := gv) (l := bif D 4 then mens vt (bkey m) 0 else vt) (by simp) (hs.res _ List.mem_cons_self) (bkey m) false
    have hval : (mget (bif D 4 then mens vt (bkey m) 0 else vt) (bkey m)).getD 0 = old := by
      cases D 4 with
      | true => rw [cond_true, mens_get]; exact hold
      | false => exact hold
    rw [if_neg (by decide), hval] at hr
    rw [hx]
    exact run_toNext hr
  refine RL.go (X := [mres kB (Value.int .i64) gv (mens vt (bkey m) 0), mres kV (Value.int .u32) gd dt]) ?_ ha hs
  have hmm := mens_mat vt (bkey m) 0
  refine RL.storeM (T := 156) (bkey m) v 0 (l := mens vt (bkey m) 0) (by rw [hmm.1]; exact hmm.2) (by kernel_rfl) rfl ?_ ?_
  · rw [hmm.1, hat, ← hv, hold]
    kernel_rfl
  refine RL.norm (X' := [mres kB (Value.int .i64) gv (mput vt (bkey m) v), mres kV (Value.int .u32) gd dt]) rfl rfl rfl (by rw [mput_mens]; rfl) ?_
  refine RL.nil (by kernel_rfl) ?_
  refine QN.thenr ?_
  refine OKr.seq kc35r6 kc35cd (by kernel_rfl) ?_
  have hget : (mget (mput vt (bkey m) v) (bkey m)).getD 0 = v := by rw [mput_get]; rfl
  refine OKr.drawn 6 (o35 6) (by kernel_rfl) (by kernel_rfl) (letsThen hQ1) (by kernel_rfl) ?_
  refine drawnAnyS 6 (o35 6) _ [(4, fun _ => .int .i64 sz)] [(2, fun _ => .int .i64 v)] [(⟨g5, 0, none⟩, .map (some gv)), (⟨g3, 0, none⟩, .int .i64 n)] [⟨gm, cells32 m A1 kc1, 43⟩, ⟨nx, cells84 m, 161⟩] [.r 0, .l 1, .no, .r 1, .no, .no] an35_6 (by kernel_rfl) (by kernel_rfl)
    (fun _ => [.map (some gv), kB (bkey m), .int .i64 v, .int .i64 n, .int .i64 sz, .bool (v == sz)])
    (fun _ => [(37, .bool (v == sz)), (36, .int .i64 sz), (35, .int .i64 n), (34, .int .i64 v), (33, kB (bkey m)), (32, .map (some gv)), (31, goInt (at_ : Int)), (30, .tuple #[.int .i64 old, goInt (at_ : Int)]), (29, .int .i64 (RW.W .i64 (old + 1))), (28, .int .i64 old), (27, kB (bkey m)), (26, .map (some gv)), (8, .pointer (some ⟨nx, 0, none⟩)), (3, .pointer (some ⟨g3, 0, none⟩)), (5, .pointer (some ⟨g5, 0, none⟩)), (6, .pointer (some ⟨g6, 0, none⟩))])
    (fun u => by kernel_rfl) (fun u => by kernel_rfl)
    (fun _ _ w => ∃ J, I.le J ∧ Sat B J w.heap.size [⟨gm, cells32 m A1 kc1, 43⟩, ⟨nx, cells84 m, 161⟩] [mres kB (Value.int .i64) gv (mput vt (bkey m) v), mres kV (Value.int .u32) gd dt] w)
    (fun D u w ⟨J, hJ, hs⟩ => ⟨hs.blk, fun r hr => (RFacts.imm (hJ _ _ h5) (RFacts.imm (hJ _ _ h3) (RFacts.nil _ _ _))) _ _ w hs r hr⟩) (fun u w hs => ⟨I, Imm.le_refl _, by rw [hs.hnx]; exact hs⟩)
    [fun _ => [(35, .int .i64 n), (34, .int .i64 v), (33, kB (bkey m)), (32, .map (some gv)), (31, goInt (at_ : Int)), (30, .tuple #[.int .i64 old, goInt (at_ : Int)]), (29, .int .i64 (RW.W .i64 (old + 1))), (28, .int .i64 old), (27, kB (bkey m)), (26, .map (some gv)), (8, .pointer (some ⟨nx, 0, none⟩)), (3, .pointer (some ⟨g3, 0, none⟩)), (5, .pointer (some ⟨g5, 0, none⟩)), (6, .pointer (some ⟨g6, 0, none⟩))]]
    ⟨fun u => by kernel_rfl, trivial⟩ ⟨fun D u w _ _ hs => ?_, trivial⟩
    [fun _ => [(33, kB (bkey m)), (32, .map (some gv)), (31, goInt (at_ : Int)), (30, .tuple #[.int .i64 old, goInt (at_ : Int)]), (29, .int .i64 (RW.W .i64 (old + 1))), (28, .int .i64 old), (27, kB (bkey m)), (26, .map (some gv)), (8, .pointer (some ⟨nx, 0, none⟩)), (3, .pointer (some ⟨g3, 0, none⟩)), (5, .pointer (some ⟨g5, 0, none⟩)), (6, .pointer (some ⟨g6, 0, none⟩))]]
    ⟨fun u => by kernel_rfl, trivial⟩ ⟨fun D u w _ hs => ?_, fun _ _ _ => rfl, trivial⟩ (fun u a w hs ha => ?_)
  · -- the size of a quorum
    obtain ⟨J, hJ, hs⟩ := hs
    refine (Does.call 137 [.int .i64 n] (by kernel_rfl) (quorum_Size.calls J n w hs.im sz hsz)).mono ?_
    rintro x w' ⟨J2, rfl, hg⟩
    exact ⟨fun _ => (none, 0, []), rfl, J2, Imm.le_trans hJ hg.le, hs.call hg⟩
  · obtain ⟨J, hJ, hs⟩ := hs
    have hx : execOp (evalK [(33, kB (bkey m)), (32, .map (some gv)), (31, goInt (at_ : Int)), (30, .tuple #[.int .i64 old, goInt (at_ : Int)]), (29, .int .i64 (RW.W .i64 (old + 1))), (28, .int .i64 old), (27, kB (bkey m)), (26, .map (some gv)), (8, .pointer (some ⟨nx, 0, none⟩)), (3, .pointer (some ⟨g3, 0, none⟩)), (5, .pointer (some ⟨g5, 0, none⟩)), (6, .pointer (some ⟨g6, 0, none⟩))]) ((o35 6).getD 2 default) = toNext (Instr.lookup 156 (.map (some gv)) (kB (bkey m)) false) := by kernel_rfl
    have hr := mt79.lookup (q := 0) (w := w) (g := gv) (l := mput vt (bkey m) v) (by simp) (hs.res _ List.mem_cons_self) (bkey m) false
    rw [if_neg (by decide), hget] at hr
    rw [hx]
    exact run_toNext hr
  obtain ⟨J, hJ, hs⟩ := hs
  revert hs
  generalize w.heap.size = nx2
  intro hs
  refine RL.go (X := [mres kB (Value.int .i64) gv (mput vt (bkey m) v), mres kV (Value.int .u32) gd dt]) ?_ ha hs
  clear hs ha a w u
  refine RL.nil (by kernel_rfl) ?_
  refine QN.thenr ?_
  refine OKr.cond (.tmp 37) kc35r7 c35sk (v == sz) (by kernel_rfl) (by kernel_rfl) (by kernel_rfl) (fun hb => ?_) (fun hb => ?_)
  · have hvs : v = sz := beq_iff_eq.1 hb
    refine OKr.region 7 (o35 7) (by kernel_rfl) hQ1 (by kernel_rfl) ?_
    refine RL.simP (K' := [(38, .map (some gd)), (43, kV (dkey m)), (45, .int .u32 m.f4)]) (nx' := nx2) (L' := [⟨gm, cells32 m A1 kc1, 43⟩, ⟨nx, cells84 m, 161⟩]) [(⟨g6, 0, none⟩, .map (some gd))] (RFacts.imm (hJ _ _ h6) (RFacts.nil _ _ _)) 8 [.r 0, .no, .l 1, .no, .l 1, .no, .no, .l 1] (by kernel_rfl) (by kernel_rfl) ?_
    refine RL.putM mt69 (dkey m) m.f4 1 (by kernel_rfl) rfl (by kernel_rfl) ?_
    refine RL.nil (by kernel_rfl) ?_
    refine QN.blkN ?_
    refine QN.sub (K' := []) (L' := []) rfl (List.nil_sublist _) (List.Sublist.refl _) ?_
    have := k J nx2 hJ
    unfold bump at this
    simp only [hv, if_pos hvs] at this
    exact this
  · have hvs : v ≠ sz := fun e => by rw [e] at hb; simp at hb
    refine OKr.skip (by kernel_rfl) ?_
    refine QN.blkN ?_
    refine QN.sub (K' := []) (L' := []) rfl (List.nil_sublist _) (List.Sublist.refl _) ?_
    have := k J nx2 hJ
    unfold bump at this
    simp only [hv, if_neg hvs] at this
    exact this

theorem knows_round {A : Fr} {K : List (Nat × Value)} {a : Act} (ha : Knows A K a) (p : Tmp) (v : Value) : Knows ⟨A.n, []⟩ (putK A K (some p) v) { tmps := ((#[p] : Array Tmp).zip #[v]).foldl (fun t (q, v) => t.setIfInBounds q v) a.tmps, defers := [] } := by
  have h := ha.put (some p) v
  have e : ((#[p] : Array Tmp).zip #[v]).foldl (fun t (q, v) => t.setIfInBounds q v) a.tmps = a.tmps.setIfInBounds p v := by simp
  rw [e]
  exact ⟨h.size, rfl, h.slot⟩
def tst (sz : Int) (pre : List Q32) : List (VK × Int) × List (VK × Int) := pre.foldl (bump sz) ([], [])
theorem tst_snoc (sz : Int) (pre : List Q32) (x : Q32) : tst sz (pre ++ [x]) = bump sz (tst sz pre) x := by simp [tst]
/-- What holds between the rounds. -/
def tJ (I : Imm) (gv gd : Nat) (sz : Int) (pre : List Q32) (W : World) : Prop :=
  I.at_ W ∧ W.heap[gv]? = some (.map (ents kB (Value.int .i64) 0 (tst sz pre).1).toArray (tst sz pre).1.length) ∧ W.heap[gd]? = some (.map (ents kV (Value.int .u32) 0 (tst sz pre).2).toArray (tst sz pre).2.length)
def quorum_tally.Post (I : Imm) (w : World) (r : List (VK × Int)) (v : Value) (w' : World) : Prop := ∃ (J : Imm) (g : Nat), v = .map (some g) ∧ Got w w' I J [] ∧ Mp kV (Value.int .u32) J g r
theorem quorum_tally.calls (k : Nat) (I0 : Imm) (a0 : List Q32) (Ap0 : Option Addr) (cp0 : Nat) (a1 : Int) (w : World) (hI : I0.at_ w) (hlp0 : a0.length ≤ cp0) (hrp0 : Rd qt32 I0 Ap0 a0) (r : List (VK × Int)) (h : quorum_tally.f k a0 a1 = some r) :
    Calls Tryz.prog 127 [.slice Ap0 a0.length cp0, .int .i64 a1].toArray w fun e w' => ∃ v, e = .returned v ∧ quorum_tally.Post I0 w r v w' := by
  obtain ⟨c, hc, h⟩ := Option.bind_eq_some_iff.mp h
  obtain ⟨sz, hsz, h⟩ := Option.bind_eq_some_iff.mp h
  obtain rfl : (tst sz c).2 = r := Option.some.inj h
  clear h
  refine calls_bodyM Tryz.func127 (by kernel_rfl) 47 (by kernel_rfl) (by kernel_rfl) ⟨w, fun _ => False, I0⟩ I0 [] [(0, .slice Ap0 a0.length cp0), (1, .int .i64 a1)] (by kernel_rfl) (Sat.start w _ I0 hI) ?_
  generalize w.heap.size = nx0
  show OK _ kc35 _ _ _ _ _ _ _ _
  refine OK.seq kc35r0 kc35a (by kernel_rfl) ?_
  refine OK.region 0 (o35 0) (by kernel_rfl) ?_
  refine RL.simP (K' := [(3, .pointer (some ⟨nx0, 0, none⟩)), (0, .slice Ap0 a0.length cp0)]) (nx' := nx0 + 1) (L' := [⟨nx0, [.int .i64 a1], 3⟩]) [] (RFacts.nil _ _ _) 2 [.no, .no] (by kernel_rfl) (by kernel_rfl) ?_
  refine RL.immL 0 rfl (fun w hs => own_new hs (i := 0) rfl) (fun J1 hJ1 h3 => ?_)
  refine RL.nil (by kernel_rfl) ?_
  refine QN.then_ ?_
  refine OK.seq kc35r1 kc35b (by kernel_rfl) ?_
  refine OK.region 1 (o35 1) (by kernel_rfl) ?_
  refine RL.makeMap (T := 156) kB (Value.int .i64) (some 9) (by kernel_rfl) (by kernel_rfl) ?_
  refine RL.makeMap (T := 148) kV (Value.int .u32) (some 10) (by kernel_rfl) (by kernel_rfl) ?_
  refine RL.simP (K' := [(5, .pointer (some ⟨nx0 + 1 + 1 + 1, 0, none⟩)), (6, .pointer (some ⟨nx0 + 1 + 1 + 1 + 1, 0, none⟩)), (3, .pointer (some ⟨nx0, 0, none⟩)), (0, .slice Ap0 a0.length cp0)]) (nx' := nx0 + 1 + 1 + 1 + 1 + 1) (L' := [⟨nx0 + 1 + 1 + 1, [.map (some (nx0 + 1))], 156⟩, ⟨nx0 + 1 + 1 + 1 + 1, [.map (some (nx0 + 1 + 1))], 148⟩]) [] (RFacts.nil _ _ _) 4 [.no, .no, .l 0, .l 1] (by kernel_rfl) (by kernel_rfl) ?_
  refine RL.immL 0 rfl (fun w hs => own_new hs (i := 0) rfl) (fun J2 hJ2 h5 => ?_)
  refine RL.immL 0 rfl (fun w hs => own_new hs (i := 0) rfl) (fun J3 hJ3 h6 => ?_)
  refine RL.nil (by kernel_rfl) ?_
  refine QN.then_ ?_
  refine OK.seq kc35c kc35e (by kernel_rfl) ?_
  refine OK.seq kc35r2 c35bk (by kernel_rfl) ?_
  refine OK.region 2 (o35 2) (by kernel_rfl) ?_
  replace h3 := hJ3 _ _ (hJ2 _ _ (h3 0 _ rfl))
  replace h5 := hJ3 _ _ (h5 0 _ rfl)
  replace h6 := h6 0 _ rfl
  have hJ := Imm.le_trans hJ1 (Imm.le_trans hJ2 hJ3)
  refine RL.simP (K' := [(11, .slice Ap0 a0.length cp0), (13, .func (.func 116) #[.int .i64 a1] #[]), (5, .pointer (some ⟨nx0 + 1 + 1 + 1, 0, none⟩)), (6, .pointer (some ⟨nx0 + 1 + 1 + 1 + 1, 0, none⟩)), (3, .pointer (some ⟨nx0, 0, none⟩))]) (nx' := nx0 + 1 + 1 + 1 + 1 + 1) (L' := []) [(⟨nx0, 0, none⟩, .int .i64 a1)] (RFacts.imm h3 (RFacts.nil _ _ _)) 3 [.no, .r 0, .no] (by kernel_rfl) (by kernel_rfl) ?_
  refine RL.callP 136 [.slice Ap0 a0.length cp0, .func (.func 116) #[.int .i64 a1] #[]] (some 14) (fun w => counted.Post J3 w Ap0 a0.length cp0 a1) (by kernel_rfl) (by kernel_rfl) (fun w hs => counted.calls J3 Ap0 a0.length cp0 a1 w hs.im) ?_
  rintro w1 v w2 hs ⟨J, b1, b2, rfl, hg, hb1, hb2⟩
  replace hJ := Imm.le_trans hJ hg.le
  replace h3 := hg.le _ _ h3
  replace h5 := hg.le _ _ h5
  replace h6 := hg.le _ _ h6
  refine RL.resume (K' := [(14, fv53 b1 b2), (11, .slice Ap0 a0.length cp0), (13, .func (.func 116) #[.int .i64 a1] #[]), (5, .pointer (some ⟨nx0 + 1 + 1 + 1, 0, none⟩)), (6, .pointer (some ⟨nx0 + 1 + 1 + 1 + 1, 0, none⟩)), (3, .pointer (some ⟨nx0, 0, none⟩))]) (X' := [mres kB (Value.int .i64) (nx0 + 1) [], mres kV (Value.int .u32) (nx0 + 1 + 1) []]) (by kernel_rfl) (hs.call hg) ?_
  clear hs hg
  generalize w2.heap.size = nx2
  clear w1 w2 hJ1 hJ2 hJ3 J1 J2 J3
  generalize nx0 + 1 + 1 + 1 + 1 = g6 at h6 ⊢
  generalize nx0 + 1 + 1 + 1 = g5 at h5 ⊢
  generalize hgd : nx0 + 1 + 1 = gd at h6 ⊢
  generalize hgv : nx0 + 1 = gv at h5 ⊢
  have hne : gv ≠ gd := by omega
  clear hgd hgv
  refine RL.nil (by kernel_rfl) ?_
  refine QN.then_ ?_
  refine OK.block 0 c35rf (by kernel_rfl) ?_
  intro a w1 ha hs
  have hrf : c35rf = .rangeFunc (.tmp 14) #[15] c35as kc35bd := by kernel_rfl
  rw [hrf]
  have hlow : ∀ a v, J a = some v → a.block < w1.heap.size := fun a v h => look_lt (hs.im a v h)
  have hgvl : gv < w1.heap.size := by rw [hs.hnx]; exact (hs.rown _ List.mem_cons_self gv rfl).1
  have hgdl : gd < w1.heap.size := by rw [hs.hnx]; exact (hs.rown _ (List.mem_cons_of_mem _ List.mem_cons_self) gd rfl).1
  have hImv : ∀ a v, J a = some v → a.block ≠ gv := fun a v h e => hs.imX a v h _ List.mem_cons_self e
  have hImd : ∀ a v, J a = some v → a.block ≠ gd := fun a v h e => hs.imX a v h _ (List.mem_cons_of_mem _ List.mem_cons_self) e
  have hat : ∀ {A B : World}, J.at_ A → LowEq w1.heap.size A B → J.at_ B := fun {A B} h hl a v hv => by
    rw [← h a v hv]
    exact look_of_block (hl.blk _ (hlow a v hv))
  refine range_wp (gf := 147) (lb := #[.pointer (some ⟨b1, 0, none⟩), .pointer (some ⟨b2, 0, none⟩)]) ((ha.eval (by kernel_rfl)).trans (by kernel_rfl)) (fun args w => any_run (by kernel_rfl) w) E32 (fun x xs ⟨A, c, e⟩ => by rw [e]; rfl) c (fun k => k = gv ∨ k = gd) (fun k hk => by rcases hk with rfl | rfl <;> assumption)
    (tJ J gv gd sz) (fun pre A B h hl => ⟨hat h.1 hl, by rw [hl.blk _ hgvl]; exact h.2.1, by rw [hl.blk _ hgdl]; exact h.2.2⟩) ⟨hs.im, hs.res _ List.mem_cons_self, hs.res _ (List.mem_cons_of_mem _ List.mem_cons_self)⟩ ?_ ?_ ?_
  · -- a round
    rintro l pre x xs W hJp hpre ⟨A1, kc1, rfl⟩ hwl hlW
    refine (OKr.region 3 (o35 3) (by kernel_rfl) (fun ⟨_, _, h⟩ => h) (by kernel_rfl) ?_ : OKr l Tryz.prog c35as _ ⟨47, []⟩ [(15, m32 x A1 kc1), (14, fv53 b1 b2), (11, .slice Ap0 a0.length cp0), (13, .func (.func 116) #[.int .i64 a1] #[]), (5, .pointer (some ⟨g5, 0, none⟩)), (6, .pointer (some ⟨g6, 0, none⟩)), (3, .pointer (some ⟨nx0, 0, none⟩))] ⟨W, fun _ => False, J⟩ J W.heap.size [] []) _ W (knows_round ha 15 (m32 x A1 kc1)) (Sat.start W _ J hJp.1)
    refine RL.simP (K' := [(7, .pointer (some ⟨W.heap.size, 0, none⟩)), (3, .pointer (some ⟨nx0, 0, none⟩)), (5, .pointer (some ⟨g5, 0, none⟩)), (6, .pointer (some ⟨g6, 0, none⟩))]) (nx' := W.heap.size + 1) (L' := [⟨W.heap.size, cells32 x A1 kc1, 43⟩]) [] (RFacts.nil _ _ _) 2 [.no, .l 0] (by kernel_rfl) (by kernel_rfl) ?_
    refine RL.nil (by kernel_rfl) ?_
    intro a1' W1 ha1 hs1
    refine ⟨hs1.evo, fun W2 hev => ?_⟩
    have hsz1 := hs1.evo.size
    have hsz2 := hev.size
    have e2 : ∀ k, k < W.heap.size → k ≠ l → W2.heap[k]? = W.heap[k]? := fun k hk hne => (hev.blk k (by show k < W1.heap.size; have : W.heap.size ≤ W1.heap.size := hsz1; omega) hne).trans (hs1.evo.blk k hk (fun h => h))
    have hm : W2.heap[W.heap.size]? = some (.cells (cells32 x A1 kc1).toArray 43 (0, 0)) := by
      rw [hev.blk _ (by rw [hs1.hnx]; exact Nat.lt_succ_self _) (by omega)]
      exact hs1.blk _ List.mem_cons_self
    have hat2 : J.at_ W2 := fun a v hv => by
      rw [← hJp.1 a v hv]
      have := hlow a v hv
      exact look_of_block (e2 _ (by omega) (by omega))
    have hml : W.heap.size < W2.heap.size := (Array.getElem?_eq_some_iff.1 hm).1
    refine tally_body l _ (fun ⟨_, _, h⟩ => by cases h.1) ⟨W2, fun k => (k = gv ∨ k = gd) ∨ W.heap.size ≤ k, J⟩ J W2.heap.size nx0 g5 g6 gv gd W.heap.size a1 sz x A1 kc1 (tst sz pre).1 (tst sz pre).2 h3 h5 h6 hsz (fun J' nx' hJ' a3 W3 _ hs3 => ?_) a1' W2 ha1 (Sat.start2 hat2 _ (fun b hb => ?_) (List.pairwise_singleton _ _) _ _ ?_ ?_ ?_ ?_ ?_)
    · refine ⟨rfl, ⟨fun a v hv => hs3.im a v (hJ' a v hv), ?_, ?_⟩, hs3.evo⟩
      · rw [tst_snoc]; exact hs3.res _ List.mem_cons_self
      · rw [tst_snoc]; exact hs3.res _ (List.mem_cons_of_mem _ List.mem_cons_self)
    · rw [List.mem_singleton.1 hb]
      exact ⟨hm, .inr (Nat.le_refl _), fun a v hv => by have := hlow a v hv; show W.heap.size ≠ a.block; omega⟩
    · show W2.heap[gv]? = _
      rw [e2 gv (by omega) (by omega)]
      exact hJp.2.1
    · show W2.heap[gd]? = _
      rw [e2 gd (by omega) (by omega)]
      exact hJp.2.2
    · intro k hk
      obtain rfl : k = gv := hk
      exact ⟨by omega, .inl (.inl rfl), fun b hb => by rw [List.mem_singleton.1 hb]; show W.heap.size ≠ k; omega, fun a v hv => hImv a v hv⟩
    · intro k hk
      obtain rfl : k = gd := hk
      exact ⟨by omega, .inl (.inr rfl), fun b hb => by rw [List.mem_singleton.1 hb]; show W.heap.size ≠ k; omega, fun a v hv => hImd a v hv⟩
    · intro k hk hk2
      obtain rfl : k = gv := hk
      exact hne hk2
  · -- the iterator
    intro l W S' J' hev hS' hJ' hY h0
    have hsz1 := hev.size
    exact counted1.calls k a1 a0 c hc J Ap0 cp0 (Rd.ext hJ hrp0) b1 b2 hb1 hb2 l W (hat hs.im (hev.low (Nat.le_refl _) (fun k h => h.elim))) S' (fun k hk => (hS' k hk).1) (fun a v hv hs' => by
      have := hlow a v hv
      rcases (hS' _ hs').2 with (h | h) | h
      · exact hImv a v hv h
      · exact hImd a v hv h
      · omega) J' hJ' (fun pre x xs W1 h1 h2 h3 => hY pre x xs W1 h1 h2 h3) h0
  · -- behind it
    intro D W hD hJc hev hdef
    have hs' := hs.turned (r1' := mres kB (Value.int .i64) gv (tst sz c).1) (r2' := mres kV (Value.int .u32) gd (tst sz c).2) (fun k hk => hk) hev rfl rfl hJc.2.1 hJc.2.2 hdef hD
    refine (?_ : OK Tryz.prog kc35e (bodyPostM Fence.wide 0 Tryz.prog Tryz.f127 _) ⟨47, [{ target := .collected D, args := #[] }]⟩ [(14, fv53 b1 b2), (11, .slice Ap0 a0.length cp0), (13, .func (.func 116) #[.int .i64 a1] #[]), (5, .pointer (some ⟨g5, 0, none⟩)), (6, .pointer (some ⟨g6, 0, none⟩)), (3, .pointer (some ⟨nx0, 0, none⟩))] _ J W.heap.size [] [mres kB (Value.int .i64) gv (tst sz c).1, mres kV (Value.int .u32) gd (tst sz c).2, dres D (some [])]) _ W ⟨ha.size, by show _ :: a.defers = _; rw [ha.defers], ha.slot⟩ hs'
    refine OK.seq kc35r8 kc35t (by kernel_rfl) ?_
    refine OK.region 8 (o35 8) (by kernel_rfl) ?_
    refine RL.simP (K' := [(4, .map (some gd))]) (nx' := W.heap.size) (L' := []) [(⟨g6, 0, none⟩, .map (some gd))] (RFacts.imm h6 (RFacts.nil _ _ _)) 2 [.r 0, .no] (by kernel_rfl) (by kernel_rfl) ?_
    refine RL.nil (by kernel_rfl) ?_
    refine QN.then_ ?_
    refine OK.ret (by kernel_rfl) ?_
    refine QN.bodyM rfl (.map (some gd)) (by kernel_rfl) (by kernel_rfl) (fun w2 hs2 => hs2.res (dres D (some [])) (List.mem_cons_of_mem _ (List.mem_cons_of_mem _ List.mem_cons_self))) (fun w2 hs2 => ?_)
    have hDl : D < w2.heap.size := (Array.getElem?_eq_some_iff.1 (hs2.res (dres D (some [])) (List.mem_cons_of_mem _ (List.mem_cons_of_mem _ List.mem_cons_self)))).1
    have hs3 := hs2.replace (m := 2) (r := dres D (some [])) rfl (dres D none) (w' := w2.putObj D (.deferred none)) rfl rfl rfl (by simp) (fun k _ hf => World.putObj_heap_other (fun e => hf e)) (World.putObj_heap_same hDl) (fun k hk => .inl hk) (fun k hk => by obtain rfl : k = D := hk; simpa using hDl)
    have hgd3 : (w2.putObj D (.deferred none)).heap[gd]? = some (.map (ents kV (Value.int .u32) 0 (tst sz c).2).toArray (tst sz c).2.length) := hs3.res (mres kV (Value.int .u32) gd (tst sz c).2) (List.mem_cons_of_mem _ List.mem_cons_self)
    have hown := hs3.rown (mres kV (Value.int .u32) gd (tst sz c).2) (List.mem_cons_of_mem _ List.mem_cons_self) gd rfl
    have hmk : ∀ a v, mapImm gd (codeM (ents kV (Value.int .u32) 0 (tst sz c).2).toArray) a = some v → a = ⟨gd, 0, some 0⟩ ∧ v = codeM (ents kV (Value.int .u32) 0 (tst sz c).2).toArray := fun a v h => by
      unfold mapImm at h
      split at h
      · exact ⟨‹_›, (Option.some.inj h).symm⟩
      · cases h
    have hs4 := (hs3.less (List.Sublist.refl _) (List.nil_sublist _)).imm (mapImm gd (codeM (ents kV (Value.int .u32) 0 (tst sz c).2).toArray)) (fun a v h => by
      obtain ⟨rfl, rfl⟩ := hmk a v h
      simp only [RW.look, hgd3]) (fun a v _ b hb => by cases hb) (fun a v _ r hr => by cases hr) (fun a v h => by
      obtain ⟨rfl, rfl⟩ := hmk a v h
      exact .inl (hown.2.resolve_right (fun h => h)))
    refine ⟨_, rfl, _, gd, rfl, hs4.got _ (List.nil_sublist _), Imm.or_get ?_ (by unfold mapImm; rw [if_pos rfl])⟩
    cases hx : J ⟨gd, 0, some 0⟩ with
    | none => rfl
    | some v => exact absurd rfl (hImd _ v hx)

end Go.Proofs.YtfecniimkgkmfaaGreat
namespace Go.Proofs.YtfecniimkgkmfaaGreat
open Go Go.Proofs.YtfecniimkgkmfaaGreat.RW
set_option linter.unusedVariables false
set_option maxRecDepth 100000
set_option maxHeartbeats 8000000

/-! ### quorum_Prepared: function 14, armillary/quorum.Prepared -/
noncomputable def K14_0 : Code := cBody Tryz.f146
noncomputable def K14_1 : Code := cL K14_0
noncomputable def O14_1 : List Oper := cOps K14_1
noncomputable def K14_3 : Code := cR K14_0
noncomputable def K14_4 : Code := cL K14_3
noncomputable def O14_4 : List Oper := cOps K14_4
noncomputable def K14_6 : Code := cR K14_3
noncomputable def K14_7 : Code := cL K14_6
noncomputable def O14_7 : List Oper := cOps K14_7
noncomputable def K14_9 : Code := cR K14_6
noncomputable def quorum_Prepared.f (k : Nat) (a0 : List Q32) (a1 : Int) (a2 : Q24) : Option (Int × Bool) := ((quorum_tally.f k a0 a1).bind fun t1 => (some ((mget t1 (2, 0, a2.f0, a2.f1)).getD 0, (mget t1 (2, 0, a2.f0, a2.f1)).isSome)))
def quorum_Prepared.Post (I : Imm) (w : World) (r : Int × Bool) (v : Value) (w' : World) : Prop :=
  ∃ (J : Imm), v = .tuple #[.int .u32 r.1, .bool r.2] ∧ Got w w' I J []
theorem quorum_Prepared.a14_4 : ancs O14_4 [] = [0, 0, 3, 0, 8, 31, 63, 127, 127, 255, 1023] := by kernel_rfl
theorem quorum_Prepared.a14_4o : drawOk O14_4 [0, 0, 3, 0, 8, 31, 63, 127, 127, 255, 1023] 10 = true := by kernel_rfl
noncomputable def quorum_Prepared.d1l (t1 : (List (VK × Int))) : List Ld :=
  [⟨2, fun x => .map (some ((x 0).2.1)), fun x => [], fun x J => Mp kV (Value.int .u32) J (x 0).2.1 t1 ∧ True, fun x J J' h f => ⟨Mp.ext h f.1, trivial⟩⟩]
noncomputable def quorum_Prepared.d1g (a2 : Q24) (t1 : (List (VK × Int))) : List (Nat × ((Nat → Wt) → Value)) := [(5, fun u => .tuple #[.int .u32 ((mget t1 (2, 0, a2.f0, a2.f1)).getD 0), .bool (mget t1 (2, 0, a2.f0, a2.f1)).isSome])]
theorem quorum_Prepared.d1v (a0 : List Q32) (Ap0 : Option Addr) (cp0 : Nat) (a1 : Int) (a2 : Q24) (nx0 : Nat) (t1 : (List (VK × Int))) (u : Nat → Wt) : (qSim Tryz.prog [] [⟨nx0, [.int .i64 a2.f0, .int .i64 a2.f1], 109⟩] O14_4 ⟨21, []⟩ (Ld.vl (quorum_Prepared.d1l t1)) (quorum_Prepared.d1g a2 t1) u [.no, .no, .no, .l 0, .no, .no, .no, .no, .no, .no] 0 (O14_4.take 10) [(5, .pointer (some ⟨nx0, 0, none⟩)), (0, .slice Ap0 a0.length cp0), (1, .int .i64 a1)]).map (fun x => (x.1, x.2.1)) = some ([.slice Ap0 a0.length cp0, .int .i64 a1, .map (some ((u 2 0).2.1)), .agg #[.int .i64 a2.f0, .int .i64 a2.f1], .agg #[.int .i64 2, .int .i64 0, .int .i64 a2.f0, .int .i64 a2.f1], .tuple #[.int .u32 ((mget t1 (2, 0, a2.f0, a2.f1)).getD 0), .bool (mget t1 (2, 0, a2.f0, a2.f1)).isSome], .tuple #[.int .u32 ((mget t1 (2, 0, a2.f0, a2.f1)).getD 0), .bool (mget t1 (2, 0, a2.f0, a2.f1)).isSome], .int .u32 ((mget t1 (2, 0, a2.f0, a2.f1)).getD 0), .bool (mget t1 (2, 0, a2.f0, a2.f1)).isSome, .int .u32 ((mget t1 (2, 0, a2.f0, a2.f1)).getD 0)], [(8, .int .u32 ((mget t1 (2, 0, a2.f0, a2.f1)).getD 0)), (18, .bool (mget t1 (2, 0, a2.f0, a2.f1)).isSome), (17, .int .u32 ((mget t1 (2, 0, a2.f0, a2.f1)).getD 0)), (10, .tuple #[.int .u32 ((mget t1 (2, 0, a2.f0, a2.f1)).getD 0), .bool (mget t1 (2, 0, a2.f0, a2.f1)).isSome]), (16, .tuple #[.int .u32 ((mget t1 (2, 0, a2.f0, a2.f1)).getD 0), .bool (mget t1 (2, 0, a2.f0, a2.f1)).isSome]), (15, .agg #[.int .i64 2, .int .i64 0, .int .i64 a2.f0, .int .i64 a2.f1]), (14, .agg #[.int .i64 a2.f0, .int .i64 a2.f1]), (13, .map (some ((u 2 0).2.1))), (12, .int .i64 a1), (11, .slice Ap0 a0.length cp0), (5, .pointer (some ⟨nx0, 0, none⟩)), (0, .slice Ap0 a0.length cp0), (1, .int .i64 a1)]) := by kernel_rfl
theorem quorum_Prepared.d1e (a0 : List Q32) (Ap0 : Option Addr) (cp0 : Nat) (a1 : Int) (a2 : Q24) (nx0 : Nat) (t1 : (List (VK × Int))) (u : Nat → Wt) : (qSim Tryz.prog [] [⟨nx0, [.int .i64 a2.f0, .int .i64 a2.f1], 109⟩] O14_4 ⟨21, []⟩ (Ld.vl (quorum_Prepared.d1l t1)) (quorum_Prepared.d1g a2 t1) u [.no, .no, .no, .l 0, .no, .no, .no, .no, .no, .no] 0 (O14_4.take 10) [(5, .pointer (some ⟨nx0, 0, none⟩)), (0, .slice Ap0 a0.length cp0), (1, .int .i64 a1)]).map (fun x => x.2.2.map (·.1)) = (qSim Tryz.prog [] [⟨nx0, [.int .i64 a2.f0, .int .i64 a2.f1], 109⟩] O14_4 ⟨21, []⟩ (Ld.vl (quorum_Prepared.d1l t1)) (quorum_Prepared.d1g a2 t1) u [.no, .no, .no, .l 0, .no, .no, .no, .no, .no, .no] 0 (O14_4.take 10) [(5, .pointer (some ⟨nx0, 0, none⟩)), (0, .slice Ap0 a0.length cp0), (1, .int .i64 a1)]).map (fun x => x.2.2.map (·.2)) := by kernel_rfl
theorem quorum_Prepared.calls (k : Nat) (I0 : Imm) (a0 : List Q32) (Ap0 : Option Addr) (cp0 : Nat) (a1 : Int) (a2 : Q24) (w : World) (hI : I0.at_ w) (hlp0 : a0.length ≤ cp0) (hrp0 : Rd qt32 I0 Ap0 a0) (r : Int × Bool) (h : quorum_Prepared.f k a0 a1 a2 = some r) :
    Calls Tryz.prog 146 [.slice Ap0 a0.length cp0, .int .i64 a1, .agg #[.int .i64 a2.f0, .int .i64 a2.f1]].toArray w fun e w' => ∃ v, e = .returned v ∧ quorum_Prepared.Post I0 w r v w' := by
  have H : ((quorum_tally.f k a0 a1).bind fun t1 => (some ((mget t1 (2, 0, a2.f0, a2.f1)).getD 0, (mget t1 (2, 0, a2.f0, a2.f1)).isSome))) = some r := h
  clear h
  refine calls_body Tryz.func146 (by kernel_rfl) 21 (by kernel_rfl) (by kernel_rfl) ⟨w, fun _ => False, I0⟩ I0 [] [(0, .slice Ap0 a0.length cp0), (1, .int .i64 a1), (2, .agg #[.int .i64 a2.f0, .int .i64 a2.f1])] (by kernel_rfl) (Sat.start w _ I0 hI) ?_
  generalize w.heap.size = nx0
  show OK _ K14_0 _ _ _ _ _ _ _ _
  refine OK.seq K14_1 K14_3 (by kernel_rfl) ?_
  refine OK.region 0 O14_1 (by kernel_rfl) ?_
  refine RL.simP (K' := [(5, .pointer (some ⟨nx0, 0, none⟩)), (0, .slice Ap0 a0.length cp0), (1, .int .i64 a1)]) (nx' := nx0 + 1) (L' := [⟨nx0, [.int .i64 a2.f0, .int .i64 a2.f1], 109⟩]) [] (RFacts.nil _ _ _) 3 [.no, .no, .no] (by kernel_rfl) (by kernel_rfl) ?_
  refine RL.nil (by kernel_rfl) ?_
  refine QN.then_ ?_
  refine OK.seq K14_4 K14_6 (by kernel_rfl) ?_
  obtain ⟨t1, hA1, H⟩ := Option.bind_eq_some_iff.mp H
  refine OK.drawnC 1 10 O14_4 [0, 0, 3, 0, 8, 31, 63, 127, 127, 255, 1023] (by kernel_rfl) (by kernel_rfl) (quorum_Prepared.d1l t1) (quorum_Prepared.d1g a2 t1) [] (RI.nil _) [.no, .no, .no, .l 0, .no, .no, .no, .no, .no, .no] quorum_Prepared.a14_4 quorum_Prepared.a14_4o (by kernel_rfl) (by kernel_rfl) (fun u => [.slice Ap0 a0.length cp0, .int .i64 a1, .map (some ((u 2 0).2.1)), .agg #[.int .i64 a2.f0, .int .i64 a2.f1], .agg #[.int .i64 2, .int .i64 0, .int .i64 a2.f0, .int .i64 a2.f1], .tuple #[.int .u32 ((mget t1 (2, 0, a2.f0, a2.f1)).getD 0), .bool (mget t1 (2, 0, a2.f0, a2.f1)).isSome], .tuple #[.int .u32 ((mget t1 (2, 0, a2.f0, a2.f1)).getD 0), .bool (mget t1 (2, 0, a2.f0, a2.f1)).isSome], .int .u32 ((mget t1 (2, 0, a2.f0, a2.f1)).getD 0), .bool (mget t1 (2, 0, a2.f0, a2.f1)).isSome, .int .u32 ((mget t1 (2, 0, a2.f0, a2.f1)).getD 0)]) (fun u => [(8, .int .u32 ((mget t1 (2, 0, a2.f0, a2.f1)).getD 0)), (18, .bool (mget t1 (2, 0, a2.f0, a2.f1)).isSome), (17, .int .u32 ((mget t1 (2, 0, a2.f0, a2.f1)).getD 0)), (10, .tuple #[.int .u32 ((mget t1 (2, 0, a2.f0, a2.f1)).getD 0), .bool (mget t1 (2, 0, a2.f0, a2.f1)).isSome]), (16, .tuple #[.int .u32 ((mget t1 (2, 0, a2.f0, a2.f1)).getD 0), .bool (mget t1 (2, 0, a2.f0, a2.f1)).isSome]), (15, .agg #[.int .i64 2, .int .i64 0, .int .i64 a2.f0, .int .i64 a2.f1]), (14, .agg #[.int .i64 a2.f0, .int .i64 a2.f1]), (13, .map (some ((u 2 0).2.1))), (12, .int .i64 a1), (11, .slice Ap0 a0.length cp0), (5, .pointer (some ⟨nx0, 0, none⟩)), (0, .slice Ap0 a0.length cp0), (1, .int .i64 a1)]) (quorum_Prepared.d1v a0 Ap0 cp0 a1 a2 nx0 t1) (quorum_Prepared.d1e a0 Ap0 cp0 a1 a2 nx0 t1) [fun u => [(12, .int .i64 a1), (11, .slice Ap0 a0.length cp0), (5, .pointer (some ⟨nx0, 0, none⟩)), (0, .slice Ap0 a0.length cp0), (1, .int .i64 a1)]] (framesOk.cons (fun u => by kernel_rfl) framesOk.nil) ?_ [fun u => [(15, .agg #[.int .i64 2, .int .i64 0, .int .i64 a2.f0, .int .i64 a2.f1]), (14, .agg #[.int .i64 a2.f0, .int .i64 a2.f1]), (13, .map (some ((u 2 0).2.1))), (12, .int .i64 a1), (11, .slice Ap0 a0.length cp0), (5, .pointer (some ⟨nx0, 0, none⟩)), (0, .slice Ap0 a0.length cp0), (1, .int .i64 a1)]] (framesOk.cons (fun u => by kernel_rfl) framesOk.nil) ?_ ?_
  · refine LoudsG.cons ?_ (LoudsG.nil)
    · intro D u J w hp hJ hs hF
      refine Does.call 127 [.slice Ap0 a0.length cp0, .int .i64 a1] (by kernel_rfl) ((quorum_tally.calls k J a0 Ap0 cp0 a1 w hs.im hlp0 (Rd.ext hJ hrp0) t1 hA1).mono ?_)
      rintro e w' ⟨v, rfl, J2, g0_, rfl, hg, hm0_⟩
      exact ⟨_, rfl, fun _ => (none, g0_, []), J2, rfl, hg, hm0_, trivial⟩
  · refine Givens.consS (fun D u w hp hS =>  ?_) (fun _ _ _ => rfl) (Givens.nil)
    · obtain ⟨J, hJ, hs, hF⟩ := hS
      exact giv_look mt69 (2, 0, a2.f0, a2.f1) (((hF.1 (hp 2 (by kernel_rfl) (by kernel_rfl))).1)) hs.im (by kernel_rfl)
  intro u I1 nx1 hi1 hF
  have hf1 := ((hF.1 rfl).1)
  clear hF
  show RL _ _ _ 10 _ [(8, .int .u32 ((mget t1 (2, 0, a2.f0, a2.f1)).getD 0)), (18, .bool (mget t1 (2, 0, a2.f0, a2.f1)).isSome), (17, .int .u32 ((mget t1 (2, 0, a2.f0, a2.f1)).getD 0)), (10, .tuple #[.int .u32 ((mget t1 (2, 0, a2.f0, a2.f1)).getD 0), .bool (mget t1 (2, 0, a2.f0, a2.f1)).isSome]), (16, .tuple #[.int .u32 ((mget t1 (2, 0, a2.f0, a2.f1)).getD 0), .bool (mget t1 (2, 0, a2.f0, a2.f1)).isSome]), (15, .agg #[.int .i64 2, .int .i64 0, .int .i64 a2.f0, .int .i64 a2.f1]), (14, .agg #[.int .i64 a2.f0, .int .i64 a2.f1]), (13, .map (some ((u 2 0).2.1))), (12, .int .i64 a1), (11, .slice Ap0 a0.length cp0), (5, .pointer (some ⟨nx0, 0, none⟩)), (0, .slice Ap0 a0.length cp0), (1, .int .i64 a1)] _ _ _ [⟨nx0, [.int .i64 a2.f0, .int .i64 a2.f1], 109⟩] []
  revert hf1
  generalize (u 2 0).1 = A1
  generalize (u 2 0).2.1 = kc1
  generalize (u 2 0).2.2 = cs1
  intro hf1
  clear u
  refine RL.simP (K' := [(9, .bool (mget t1 (2, 0, a2.f0, a2.f1)).isSome), (8, .int .u32 ((mget t1 (2, 0, a2.f0, a2.f1)).getD 0))]) (nx' := nx1) (L' := [⟨nx0, [.int .i64 a2.f0, .int .i64 a2.f1], 109⟩]) [] (RFacts.nil _ _ _) 1 [.no] (by kernel_rfl) (by kernel_rfl) ?_
  refine RL.nil (by kernel_rfl) ?_
  refine QN.then_ ?_
  refine OK.seq K14_7 K14_9 (by kernel_rfl) ?_
  refine OK.region 2 O14_7 (by kernel_rfl) ?_
  refine RL.simP (K' := [(7, .bool (mget t1 (2, 0, a2.f0, a2.f1)).isSome), (6, .int .u32 ((mget t1 (2, 0, a2.f0, a2.f1)).getD 0))]) (nx' := nx1) (L' := [⟨nx0, [.int .i64 a2.f0, .int .i64 a2.f1], 109⟩]) [] (RFacts.nil _ _ _) 4 [.no, .no, .no, .no] (by kernel_rfl) (by kernel_rfl) ?_
  refine RL.nil (by kernel_rfl) ?_
  refine QN.then_ ?_
  refine OK.ret (by kernel_rfl) ?_
  obtain rfl := Option.some.inj H
  refine QN.body rfl [] (RFacts.nil _ _ _) (.no) (.tuple #[.int .u32 ((mget t1 (2, 0, a2.f0, a2.f1)).getD 0), .bool (mget t1 (2, 0, a2.f0, a2.f1)).isSome]) (by kernel_rfl) (by kernel_rfl) (by kernel_rfl) ?_ _ (.inr rfl)
  exact fun w' hs' => ⟨_, rfl, I1, rfl, hs'.got _ .slnil⟩

end Go.Proofs.YtfecniimkgkmfaaGreat
namespace Go.Proofs.YtfecniimkgkmfaaGreat
open Go Go.Proofs.YtfecniimkgkmfaaGreat.RW
set_option linter.unusedVariables false
set_option maxRecDepth 100000
set_option maxHeartbeats 8000000

/-! ### quorum_Committed: function 16, armillary/quorum.Committed -/
noncomputable def K16_0 : Code := cBody Tryz.f140
noncomputable def K16_1 : Code := cL K16_0
noncomputable def O16_1 : List Oper := cOps K16_1
noncomputable def K16_3 : Code := cR K16_0
noncomputable def K16_4 : Code := cL K16_3
noncomputable def O16_4 : List Oper := cOps K16_4
noncomputable def K16_6 : Code := cR K16_3
noncomputable def K16_7 : Code := cL K16_6
noncomputable def O16_7 : List Oper := cOps K16_7
noncomputable def K16_9 : Code := cR K16_6
noncomputable def quorum_Committed.f (k : Nat) (a0 : List Q32) (a1 : Int) (a2 : Q24) : Option (Int × Bool) := ((quorum_tally.f k a0 a1).bind fun t1 => (some ((mget t1 (3, 0, a2.f0, a2.f1)).getD 0, (mget t1 (3, 0, a2.f0, a2.f1)).isSome)))
def quorum_Committed.Post (I : Imm) (w : World) (r : Int × Bool) (v : Value) (w' : World) : Prop :=
  ∃ (J : Imm), v = .tuple #[.int .u32 r.1, .bool r.2] ∧ Got w w' I J []
theorem quorum_Committed.a16_4 : ancs O16_4 [] = [0, 0, 3, 0, 8, 31, 63, 127, 127, 255, 1023] := by kernel_rfl
theorem quorum_Committed.a16_4o : drawOk O16_4 [0, 0, 3, 0, 8, 31, 63, 127, 127, 255, 1023] 10 = true := by kernel_rfl
noncomputable def quorum_Committed.d1l (t1 : (List (VK × Int))) : List Ld :=
  [⟨2, fun x => .map (some ((x 0).2.1)), fun x => [], fun x J => Mp kV (Value.int .u32) J (x 0).2.1 t1 ∧ True, fun x J J' h f => ⟨Mp.ext h f.1, trivial⟩⟩]
noncomputable def quorum_Committed.d1g (a2 : Q24) (t1 : (List (VK × Int))) : List (Nat × ((Nat → Wt) → Value)) := [(5, fun u => .tuple #[.int .u32 ((mget t1 (3, 0, a2.f0, a2.f1)).getD 0), .bool (mget t1 (3, 0, a2.f0, a2.f1)).isSome])]
theorem quorum_Committed.d1v (a0 : List Q32) (Ap0 : Option Addr) (cp0 : Nat) (a1 : Int) (a2 : Q24) (nx0 : Nat) (t1 : (List (VK × Int))) (u : Nat → Wt) : (qSim Tryz.prog [] [⟨nx0, [.int .i64 a2.f0, .int .i64 a2.f1], 109⟩] O16_4 ⟨21, []⟩ (Ld.vl (quorum_Committed.d1l t1)) (quorum_Committed.d1g a2 t1) u [.no, .no, .no, .l 0, .no, .no, .no, .no, .no, .no] 0 (O16_4.take 10) [(5, .pointer (some ⟨nx0, 0, none⟩)), (0, .slice Ap0 a0.length cp0), (1, .int .i64 a1)]).map (fun x => (x.1, x.2.1)) = some ([.slice Ap0 a0.length cp0, .int .i64 a1, .map (some ((u 2 0).2.1)), .agg #[.int .i64 a2.f0, .int .i64 a2.f1], .agg #[.int .i64 3, .int .i64 0, .int .i64 a2.f0, .int .i64 a2.f1], .tuple #[.int .u32 ((mget t1 (3, 0, a2.f0, a2.f1)).getD 0), .bool (mget t1 (3, 0, a2.f0, a2.f1)).isSome], .tuple #[.int .u32 ((mget t1 (3, 0, a2.f0, a2.f1)).getD 0), .bool (mget t1 (3, 0, a2.f0, a2.f1)).isSome], .int .u32 ((mget t1 (3, 0, a2.f0, a2.f1)).getD 0), .bool (mget t1 (3, 0, a2.f0, a2.f1)).isSome, .int .u32 ((mget t1 (3, 0, a2.f0, a2.f1)).getD 0)], [(8, .int .u32 ((mget t1 (3, 0, a2.f0, a2.f1)).getD 0)), (18, .bool (mget t1 (3, 0, a2.f0, a2.f1)).isSome), (17, .int .u32 ((mget t1 (3, 0, a2.f0, a2.f1)).getD 0)), (10, .tuple #[.int .u32 ((mget t1 (3, 0, a2.f0, a2.f1)).getD 0), .bool (mget t1 (3, 0, a2.f0, a2.f1)).isSome]), (16, .tuple #[.int .u32 ((mget t1 (3, 0, a2.f0, a2.f1)).getD 0), .bool (mget t1 (3, 0, a2.f0, a2.f1)).isSome]), (15, .agg #[.int .i64 3, .int .i64 0, .int .i64 a2.f0, .int .i64 a2.f1]), (14, .agg #[.int .i64 a2.f0, .int .i64 a2.f1]), (13, .map (some ((u 2 0).2.1))), (12, .int .i64 a1), (11, .slice Ap0 a0.length cp0), (5, .pointer (some ⟨nx0, 0, none⟩)), (0, .slice Ap0 a0.length cp0), (1, .int .i64 a1)]) := by kernel_rfl
theorem quorum_Committed.d1e (a0 : List Q32) (Ap0 : Option Addr) (cp0 : Nat) (a1 : Int) (a2 : Q24) (nx0 : Nat) (t1 : (List (VK × Int))) (u : Nat → Wt) : (qSim Tryz.prog [] [⟨nx0, [.int .i64 a2.f0, .int .i64 a2.f1], 109⟩] O16_4 ⟨21, []⟩ (Ld.vl (quorum_Committed.d1l t1)) (quorum_Committed.d1g a2 t1) u [.no, .no, .no, .l 0, .no, .no, .no, .no, .no, .no] 0 (O16_4.take 10) [(5, .pointer (some ⟨nx0, 0, none⟩)), (0, .slice Ap0 a0.length cp0), (1, .int .i64 a1)]).map (fun x => x.2.2.map (·.1)) = (qSim Tryz.prog [] [⟨nx0, [.int .i64 a2.f0, .int .i64 a2.f1], 109⟩] O16_4 ⟨21, []⟩ (Ld.vl (quorum_Committed.d1l t1)) (quorum_Committed.d1g a2 t1) u [.no, .no, .no, .l 0, .no, .no, .no, .no, .no, .no] 0 (O16_4.take 10) [(5, .pointer (some ⟨nx0, 0, none⟩)), (0, .slice Ap0 a0.length cp0), (1, .int .i64 a1)]).map (fun x => x.2.2.map (·.2)) := by kernel_rfl
theorem quorum_Committed.calls (k : Nat) (I0 : Imm) (a0 : List Q32) (Ap0 : Option Addr) (cp0 : Nat) (a1 : Int) (a2 : Q24) (w : World) (hI : I0.at_ w) (hlp0 : a0.length ≤ cp0) (hrp0 : Rd qt32 I0 Ap0 a0) (r : Int × Bool) (h : quorum_Committed.f k a0 a1 a2 = some r) :
    Calls Tryz.prog 140 [.slice Ap0 a0.length cp0, .int .i64 a1, .agg #[.int .i64 a2.f0, .int .i64 a2.f1]].toArray w fun e w' => ∃ v, e = .returned v ∧ quorum_Committed.Post I0 w r v w' := by
  have H : ((quorum_tally.f k a0 a1).bind fun t1 => (some ((mget t1 (3, 0, a2.f0, a2.f1)).getD 0, (mget t1 (3, 0, a2.f0, a2.f1)).isSome))) = some r := h
  clear h
  refine calls_body Tryz.func140 (by kernel_rfl) 21 (by kernel_rfl) (by kernel_rfl) ⟨w, fun _ => False, I0⟩ I0 [] [(0, .slice Ap0 a0.length cp0), (1, .int .i64 a1), (2, .agg #[.int .i64 a2.f0, .int .i64 a2.f1])] (by kernel_rfl) (Sat.start w _ I0 hI) ?_
  generalize w.heap.size = nx0
  show OK _ K16_0 _ _ _ _ _ _ _ _
  refine OK.seq K16_1 K16_3 (by kernel_rfl) ?_
  refine OK.region 0 O16_1 (by kernel_rfl) ?_
  refine RL.simP (K' := [(5, .pointer (some ⟨nx0, 0, none⟩)), (0, .slice Ap0 a0.length cp0), (1, .int .i64 a1)]) (nx' := nx0 + 1) (L' := [⟨nx0, [.int .i64 a2.f0, .int .i64 a2.f1], 109⟩]) [] (RFacts.nil _ _ _) 3 [.no, .no, .no] (by kernel_rfl) (by kernel_rfl) ?_
  refine RL.nil (by kernel_rfl) ?_
  refine QN.then_ ?_
  refine OK.seq K16_4 K16_6 (by kernel_rfl) ?_
  obtain ⟨t1, hA1, H⟩ := Option.bind_eq_some_iff.mp H
  refine OK.drawnC 1 10 O16_4 [0, 0, 3, 0, 8, 31, 63, 127, 127, 255, 1023] (by kernel_rfl) (by kernel_rfl) (quorum_Committed.d1l t1) (quorum_Committed.d1g a2 t1) [] (RI.nil _) [.no, .no, .no, .l 0, .no, .no, .no, .no, .no, .no] quorum_Committed.a16_4 quorum_Committed.a16_4o (by kernel_rfl) (by kernel_rfl) (fun u => [.slice Ap0 a0.length cp0, .int .i64 a1, .map (some ((u 2 0).2.1)), .agg #[.int .i64 a2.f0, .int .i64 a2.f1], .agg #[.int .i64 3, .int .i64 0, .int .i64 a2.f0, .int .i64 a2.f1], .tuple #[.int .u32 ((mget t1 (3, 0, a2.f0, a2.f1)).getD 0), .bool (mget t1 (3, 0, a2.f0, a2.f1)).isSome], .tuple #[.int .u32 ((mget t1 (3, 0, a2.f0, a2.f1)).getD 0), .bool (mget t1 (3, 0, a2.f0, a2.f1)).isSome], .int .u32 ((mget t1 (3, 0, a2.f0, a2.f1)).getD 0), .bool (mget t1 (3, 0, a2.f0, a2.f1)).isSome, .int .u32 ((mget t1 (3, 0, a2.f0, a2.f1)).getD 0)]) (fun u => [(8, .int .u32 ((mget t1 (3, 0, a2.f0, a2.f1)).getD 0)), (18, .bool (mget t1 (3, 0, a2.f0, a2.f1)).isSome), (17, .int .u32 ((mget t1 (3, 0, a2.f0, a2.f1)).getD 0)), (10, .tuple #[.int .u32 ((mget t1 (3, 0, a2.f0, a2.f1)).getD 0), .bool (mget t1 (3, 0, a2.f0, a2.f1)).isSome]), (16, .tuple #[.int .u32 ((mget t1 (3, 0, a2.f0, a2.f1)).getD 0), .bool (mget t1 (3, 0, a2.f0, a2.f1)).isSome]), (15, .agg #[.int .i64 3, .int .i64 0, .int .i64 a2.f0, .int .i64 a2.f1]), (14, .agg #[.int .i64 a2.f0, .int .i64 a2.f1]), (13, .map (some ((u 2 0).2.1))), (12, .int .i64 a1), (11, .slice Ap0 a0.length cp0), (5, .pointer (some ⟨nx0, 0, none⟩)), (0, .slice Ap0 a0.length cp0), (1, .int .i64 a1)]) (quorum_Committed.d1v a0 Ap0 cp0 a1 a2 nx0 t1) (quorum_Committed.d1e a0 Ap0 cp0 a1 a2 nx0 t1) [fun u => [(12, .int .i64 a1), (11, .slice Ap0 a0.length cp0), (5, .pointer (some ⟨nx0, 0, none⟩)), (0, .slice Ap0 a0.length cp0), (1, .int .i64 a1)]] (framesOk.cons (fun u => by kernel_rfl) framesOk.nil) ?_ [fun u => [(15, .agg #[.int .i64 3, .int .i64 0, .int .i64 a2.f0, .int .i64 a2.f1]), (14, .agg #[.int .i64 a2.f0, .int .i64 a2.f1]), (13, .map (some ((u 2 0).2.1))), (12, .int .i64 a1), (11, .slice Ap0 a0.length cp0), (5, .pointer (some ⟨nx0, 0, none⟩)), (0, .slice Ap0 a0.length cp0), (1, .int .i64 a1)]] (framesOk.cons (fun u => by kernel_rfl) framesOk.nil) ?_ ?_
  · refine LoudsG.cons ?_ (LoudsG.nil)
    · intro D u J w hp hJ hs hF
      refine Does.call 127 [.slice Ap0 a0.length cp0, .int .i64 a1] (by kernel_rfl) ((quorum_tally.calls k J a0 Ap0 cp0 a1 w hs.im hlp0 (Rd.ext hJ hrp0) t1 hA1).mono ?_)
      rintro e w' ⟨v, rfl, J2, g0_, rfl, hg, hm0_⟩
      exact ⟨_, rfl, fun _ => (none, g0_, []), J2, rfl, hg, hm0_, trivial⟩
  · refine Givens.consS (fun D u w hp hS =>  ?_) (fun _ _ _ => rfl) (Givens.nil)
    · obtain ⟨J, hJ, hs, hF⟩ := hS
      exact giv_look mt69 (3, 0, a2.f0, a2.f1) (((hF.1 (hp 2 (by kernel_rfl) (by kernel_rfl))).1)) hs.im (by kernel_rfl)
  intro u I1 nx1 hi1 hF
  have hf1 := ((hF.1 rfl).1)
  clear hF
  show RL _ _ _ 10 _ [(8, .int .u32 ((mget t1 (3, 0, a2.f0, a2.f1)).getD 0)), (18, .bool (mget t1 (3, 0, a2.f0, a2.f1)).isSome), (17, .int .u32 ((mget t1 (3, 0, a2.f0, a2.f1)).getD 0)), (10, .tuple #[.int .u32 ((mget t1 (3, 0, a2.f0, a2.f1)).getD 0), .bool (mget t1 (3, 0, a2.f0, a2.f1)).isSome]), (16, .tuple #[.int .u32 ((mget t1 (3, 0, a2.f0, a2.f1)).getD 0), .bool (mget t1 (3, 0, a2.f0, a2.f1)).isSome]), (15, .agg #[.int .i64 3, .int .i64 0, .int .i64 a2.f0, .int .i64 a2.f1]), (14, .agg #[.int .i64 a2.f0, .int .i64 a2.f1]), (13, .map (some ((u 2 0).2.1))), (12, .int .i64 a1), (11, .slice Ap0 a0.length cp0), (5, .pointer (some ⟨nx0, 0, none⟩)), (0, .slice Ap0 a0.length cp0), (1, .int .i64 a1)] _ _ _ [⟨nx0, [.int .i64 a2.f0, .int .i64 a2.f1], 109⟩] []
  revert hf1
  generalize (u 2 0).1 = A1
  generalize (u 2 0).2.1 = kc1
  generalize (u 2 0).2.2 = cs1
  intro hf1
  clear u
  refine RL.simP (K' := [(9, .bool (mget t1 (3, 0, a2.f0, a2.f1)).isSome), (8, .int .u32 ((mget t1 (3, 0, a2.f0, a2.f1)).getD 0))]) (nx' := nx1) (L' := [⟨nx0, [.int .i64 a2.f0, .int .i64 a2.f1], 109⟩]) [] (RFacts.nil _ _ _) 1 [.no] (by kernel_rfl) (by kernel_rfl) ?_
  refine RL.nil (by kernel_rfl) ?_
  refine QN.then_ ?_
  refine OK.seq K16_7 K16_9 (by kernel_rfl) ?_
  refine OK.region 2 O16_7 (by kernel_rfl) ?_
  refine RL.simP (K' := [(7, .bool (mget t1 (3, 0, a2.f0, a2.f1)).isSome), (6, .int .u32 ((mget t1 (3, 0, a2.f0, a2.f1)).getD 0))]) (nx' := nx1) (L' := [⟨nx0, [.int .i64 a2.f0, .int .i64 a2.f1], 109⟩]) [] (RFacts.nil _ _ _) 4 [.no, .no, .no, .no] (by kernel_rfl) (by kernel_rfl) ?_
  refine RL.nil (by kernel_rfl) ?_
  refine QN.then_ ?_
  refine OK.ret (by kernel_rfl) ?_
  obtain rfl := Option.some.inj H
  refine QN.body rfl [] (RFacts.nil _ _ _) (.no) (.tuple #[.int .u32 ((mget t1 (3, 0, a2.f0, a2.f1)).getD 0), .bool (mget t1 (3, 0, a2.f0, a2.f1)).isSome]) (by kernel_rfl) (by kernel_rfl) (by kernel_rfl) ?_ _ (.inr rfl)
  exact fun w' hs' => ⟨_, rfl, I1, rfl, hs'.got _ .slnil⟩

end Go.Proofs.YtfecniimkgkmfaaGreat
namespace Go.Proofs.YtfecniimkgkmfaaGreat
open Go Go.Proofs.YtfecniimkgkmfaaGreat.RW
set_option linter.unusedVariables false
set_option maxRecDepth 100000
set_option maxHeartbeats 8000000

/-! ### quorum_HighestPrepared: function 18, armillary/quorum.HighestPrepared -/
noncomputable def K18_0 : Code := cBody Tryz.f113
noncomputable def K18_1 : Code := cL K18_0
noncomputable def O18_1 : List Oper := cOps K18_1
noncomputable def K18_3 : Code := cR K18_0
noncomputable def K18_4 : Code := cL K18_3
noncomputable def O18_4 : List Oper := cOps K18_4
noncomputable def K18_6 : Code := cR K18_3
noncomputable def K18_7 : Code := cL K18_6
noncomputable def O18_7 : List Oper := cOps K18_7
noncomputable def K18_9 : Code := cR K18_6
noncomputable def K18_10 : Code := cL K18_9
noncomputable def K18_11 : Code := cL K18_10
noncomputable def O18_11 : List Oper := cOps K18_11
noncomputable def K18_13 : Code := cR K18_10
noncomputable def K18_14 : Code := cL K18_13
noncomputable def K18_15 : Code := cL K18_14
noncomputable def K18_16 : Code := cL K18_15
noncomputable def O18_16 : List Oper := cOps K18_16
noncomputable def K18_18 : Code := cR K18_15
noncomputable def K18_19 : Code := cL K18_18
noncomputable def K18_20 : Code := cL K18_19
noncomputable def K18_21 : Code := cR K18_19
noncomputable def K18_22 : Code := cR K18_18
noncomputable def K18_23 : Code := cL K18_22
noncomputable def K18_24 : Code := cL K18_23
noncomputable def K18_25 : Code := cL K18_24
noncomputable def O18_25 : List Oper := cOps K18_25
noncomputable def K18_27 : Code := cR K18_24
noncomputable def K18_28 : Code := cL K18_27
noncomputable def K18_29 : Code := cL K18_28
noncomputable def O18_29 : List Oper := cOps K18_29
noncomputable def K18_31 : Code := cR K18_28
noncomputable def K18_32 : Code := cL K18_31
noncomputable def K18_33 : Code := cR K18_31
noncomputable def K18_34 : Code := cR K18_27
noncomputable def K18_35 : Code := cL K18_34
noncomputable def O18_35 : List Oper := cOps K18_35
noncomputable def K18_37 : Code := cR K18_34
noncomputable def K18_38 : Code := cL K18_37
noncomputable def O18_38 : List Oper := cOps K18_38
noncomputable def K18_40 : Code := cR K18_37
noncomputable def K18_41 : Code := cL K18_40
noncomputable def O18_41 : List Oper := cOps K18_41
noncomputable def K18_43 : Code := cR K18_40
noncomputable def K18_44 : Code := cR K18_22
noncomputable def O18_44 : List Oper := cOps K18_44
noncomputable def K18_46 : Code := cR K18_9
noncomputable def K18_47 : Code := cL K18_46
noncomputable def O18_47 : List Oper := cOps K18_47
noncomputable def K18_49 : Code := cR K18_46
noncomputable def quorum_HighestPrepared.k1  : Int × ByteArray × List Int × Int → Option (Q30 × Bool)
  | (x1, x2, x3, x4) => (some ((⟨x1, x2, x3⟩ : Q30), (decide (x4 ≥ 0))))
noncomputable def quorum_HighestPrepared.k3  : Int × ByteArray × List Int × Int → Option (Int × ByteArray × List Int × Int)
  | (x16, x17, x18, x19) => (some (x16, x17, x18, x19))
noncomputable def quorum_HighestPrepared.k4 (a0 : List Q32) (x5 : Int) (x6 : ByteArray) (x7 : List Int) (x8 : Int) (x9 : Int) (x15 : Bool) : Option (Int × ByteArray × List Int × Int) := ((if x15 = true then (some ((a0.getD (x9).toNat qz32).f5.f0, (a0.getD (x9).toNat qz32).f5.f1, (a0.getD (x9).toNat qz32).f5.f2, (a0.getD (x9).toNat qz32).f2)) else (some (x5, x6, x7, x8))).bind (quorum_HighestPrepared.k3))
noncomputable def quorum_HighestPrepared.k5 (a0 : List Q32) (t1 : (List (VK × Int))) (x5 : Int) (x6 : ByteArray) (x7 : List Int) (x8 : Int) (x9 : Int) (x14 : Bool) : Option (Int × ByteArray × List Int × Int) := (if x14 = true then (some (x5, x6, x7, x8)) else ((if (mget t1 (2, 0, (a0.getD (x9).toNat qz32).f2, (a0.getD (x9).toNat qz32).f3)).isSome = true then (some (((mget t1 (2, 0, (a0.getD (x9).toNat qz32).f2, (a0.getD (x9).toNat qz32).f3)).getD 0) == ((a0.getD (x9).toNat qz32).f4))) else (some false)).bind (quorum_HighestPrepared.k4 a0 x5 x6 x7 x8 x9)))
noncomputable def quorum_HighestPrepared.l1 (a0 : List Q32) (a1 : Int) (a2 : Q24) (t1 : (List (VK × Int))) : Nat → Int → ByteArray → (List Int) → Int → Int → Option (Int × ByteArray × List Int × Int)
  | 0, _, _, _, _, _ => none
  | k + 1, x5, x6, x7, x8, x9 => (if x9 < (a0.length : Int) then ((if 0 ≤ x9 then (if x9 < (a0.length : Int) then ((if ((a0.getD (x9).toNat qz32).f0) ≠ 1 then (some true) else (if ((a0.getD (x9).toNat qz32).f3) ≠ a2.f1 then (some true) else (if ((a0.getD (x9).toNat qz32).f2) ≥ a2.f0 then (some true) else (if ((a0.getD (x9).toNat qz32).f2) ≤ x8 then (some true) else ((quorum_Valid.f k (a0.getD (x9).toNat qz32) a1).bind fun t2 => (some (!t2))))))).bind (quorum_HighestPrepared.k5 a0 t1 x5 x6 x7 x8 x9)) else none) else none).bind (fun (x10, x11, x12, x13) => (quorum_HighestPrepared.l1 a0 a1 a2 t1 k x10 x11 x12 x13 (W .i64 (x9 + 1))))) else (some (x5, x6, x7, x8)))
noncomputable def quorum_HighestPrepared.f (k : Nat) (a0 : List Q32) (a1 : Int) (a2 : Q24) : Option (Q30 × Bool) := ((quorum_tally.f k a0 a1).bind fun t1 => ((quorum_HighestPrepared.l1 a0 a1 a2 t1 k 0 (⟨#[]⟩ : ByteArray) [] (-1) 0).bind (quorum_HighestPrepared.k1)))
def quorum_HighestPrepared.Post (I : Imm) (w : World) (r : Q30 × Bool) (v : Value) (w' : World) : Prop :=
  ∃ (J : Imm) (A0_2 : Option Addr) (c0_2 : Nat), v = .tuple #[.agg #[.int .i64 r.1.f0, .string r.1.f1, .slice A0_2 r.1.f2.length c0_2], .bool r.2] ∧ Got w w' I J [] ∧ r.1.f2.length ≤ c0_2 ∧ Rd (Ty.int .u8) J A0_2 r.1.f2
theorem quorum_HighestPrepared.a18_41 : ancs O18_41 [] = [0, 1, 0, 4, 3, 31] := by kernel_rfl
theorem quorum_HighestPrepared.a18_41o : drawOk O18_41 [0, 1, 0, 4, 3, 31] 5 = true := by kernel_rfl
noncomputable def quorum_HighestPrepared.d1l  : List Ld :=
  []
noncomputable def quorum_HighestPrepared.d1g  : List (Nat × ((Nat → Wt) → Value)) := []
theorem quorum_HighestPrepared.d1v (a0 : List Q32) (Ap0 : Option Addr) (cp0 : Nat) (a1 : Int) (a2 : Q24) (nx0 : Nat) (g1 : Nat) (nx1 : Nat) (x5 : Int) (x6 : ByteArray) (x7 : List Int) (A2 : Option Addr) (kc2 : Nat) (x8 : Int) (x9 : Int) (nx3 : Nat) (A1_5_2_ : Option Addr) (c1_5_2_ : Nat) (x15 : Bool) (u : Nat → Wt) : (qSim Tryz.prog [] [⟨nx0, [.int .i64 a2.f0, .int .i64 a2.f1], 109⟩, ⟨nx0 + 1, [.int .i64 0, .string (⟨#[]⟩ : ByteArray), .slice none 0 0], 41⟩, ⟨nx1, [.int .i64 x5, .string x6, .slice A2 x7.length kc2], 41⟩, ⟨nx3, [.int .i64 ((a0.getD (x9).toNat qz32).f0), .int .i64 ((a0.getD (x9).toNat qz32).f1), .int .i64 ((a0.getD (x9).toNat qz32).f2), .int .i64 ((a0.getD (x9).toNat qz32).f3), .int .u32 ((a0.getD (x9).toNat qz32).f4), .int .i64 ((a0.getD (x9).toNat qz32).f5.f0), .string ((a0.getD (x9).toNat qz32).f5.f1), .slice A1_5_2_ (((a0.getD (x9).toNat qz32).f5.f2).length) c1_5_2_], 43⟩] O18_41 ⟨80, []⟩ (Ld.vl quorum_HighestPrepared.d1l) quorum_HighestPrepared.d1g u [.no, .l 3, .no, .l 3, .no] 0 (O18_41.take 5) [(1, .int .i64 a1), (5, .pointer (some ⟨nx0, 0, none⟩)), (6, .pointer (some ⟨nx0 + 1, 0, none⟩)), (8, .map (some g1)), (9, .int .i64 x8), (10, .pointer (some ⟨nx1, 0, none⟩)), (12, .pointer (some ⟨nx3, 0, none⟩)), (19, .slice Ap0 a0.length cp0), (20, .int .i64 (a0.length : Int)), (21, .int .i64 x9), (71, .bool x15)]).map (fun x => (x.1, x.2.1)) = some ([.pointer (some ⟨nx3, 2, none⟩), .int .i64 ((a0.getD (x9).toNat qz32).f2), .pointer (some ⟨nx3, 5, none⟩), .agg #[.int .i64 ((a0.getD (x9).toNat qz32).f5.f0), .string ((a0.getD (x9).toNat qz32).f5.f1), .slice A1_5_2_ (((a0.getD (x9).toNat qz32).f5.f2).length) c1_5_2_], .int .i64 ((a0.getD (x9).toNat qz32).f2)], [(9, .int .i64 ((a0.getD (x9).toNat qz32).f2)), (75, .agg #[.int .i64 ((a0.getD (x9).toNat qz32).f5.f0), .string ((a0.getD (x9).toNat qz32).f5.f1), .slice A1_5_2_ (((a0.getD (x9).toNat qz32).f5.f2).length) c1_5_2_]), (74, .pointer (some ⟨nx3, 5, none⟩)), (73, .int .i64 ((a0.getD (x9).toNat qz32).f2)), (72, .pointer (some ⟨nx3, 2, none⟩)), (1, .int .i64 a1), (5, .pointer (some ⟨nx0, 0, none⟩)), (6, .pointer (some ⟨nx0 + 1, 0, none⟩)), (8, .map (some g1)), (10, .pointer (some ⟨nx1, 0, none⟩)), (12, .pointer (some ⟨nx3, 0, none⟩)), (19, .slice Ap0 a0.length cp0), (20, .int .i64 (a0.length : Int)), (21, .int .i64 x9), (71, .bool x15)]) := by kernel_rfl
theorem quorum_HighestPrepared.d1e (a0 : List Q32) (Ap0 : Option Addr) (cp0 : Nat) (a1 : Int) (a2 : Q24) (nx0 : Nat) (g1 : Nat) (nx1 : Nat) (x5 : Int) (x6 : ByteArray) (x7 : List Int) (A2 : Option Addr) (kc2 : Nat) (x8 : Int) (x9 : Int) (nx3 : Nat) (A1_5_2_ : Option Addr) (c1_5_2_ : Nat) (x15 : Bool) (u : Nat → Wt) : (qSim Tryz.prog [] [⟨nx0, [.int .i64 a2.f0, .int .i64 a2.f1], 109⟩, ⟨nx0 + 1, [.int .i64 0, .string (⟨#[]⟩ : ByteArray), .slice none 0 0], 41⟩, ⟨nx1, [.int .i64 x5, .string x6, .slice A2 x7.length kc2], 41⟩, ⟨nx3, [.int .i64 ((a0.getD (x9).toNat qz32).f0), .int .i64 ((a0.getD (x9).toNat qz32).f1), .int .i64 ((a0.getD (x9).toNat qz32).f2), .int .i64 ((a0.getD (x9).toNat qz32).f3), .int .u32 ((a0.getD (x9).toNat qz32).f4), .int .i64 ((a0.getD (x9).toNat qz32).f5.f0), .string ((a0.getD (x9).toNat qz32).f5.f1), .slice A1_5_2_ (((a0.getD (x9).toNat qz32).f5.f2).length) c1_5_2_], 43⟩] O18_41 ⟨80, []⟩ (Ld.vl quorum_HighestPrepared.d1l) quorum_HighestPrepared.d1g u [.no, .l 3, .no, .l 3, .no] 0 (O18_41.take 5) [(1, .int .i64 a1), (5, .pointer (some ⟨nx0, 0, none⟩)), (6, .pointer (some ⟨nx0 + 1, 0, none⟩)), (8, .map (some g1)), (9, .int .i64 x8), (10, .pointer (some ⟨nx1, 0, none⟩)), (12, .pointer (some ⟨nx3, 0, none⟩)), (19, .slice Ap0 a0.length cp0), (20, .int .i64 (a0.length : Int)), (21, .int .i64 x9), (71, .bool x15)]).map (fun x => x.2.2.map (·.1)) = (qSim Tryz.prog [] [⟨nx0, [.int .i64 a2.f0, .int .i64 a2.f1], 109⟩, ⟨nx0 + 1, [.int .i64 0, .string (⟨#[]⟩ : ByteArray), .slice none 0 0], 41⟩, ⟨nx1, [.int .i64 x5, .string x6, .slice A2 x7.length kc2], 41⟩, ⟨nx3, [.int .i64 ((a0.getD (x9).toNat qz32).f0), .int .i64 ((a0.getD (x9).toNat qz32).f1), .int .i64 ((a0.getD (x9).toNat qz32).f2), .int .i64 ((a0.getD (x9).toNat qz32).f3), .int .u32 ((a0.getD (x9).toNat qz32).f4), .int .i64 ((a0.getD (x9).toNat qz32).f5.f0), .string ((a0.getD (x9).toNat qz32).f5.f1), .slice A1_5_2_ (((a0.getD (x9).toNat qz32).f5.f2).length) c1_5_2_], 43⟩] O18_41 ⟨80, []⟩ (Ld.vl quorum_HighestPrepared.d1l) quorum_HighestPrepared.d1g u [.no, .l 3, .no, .l 3, .no] 0 (O18_41.take 5) [(1, .int .i64 a1), (5, .pointer (some ⟨nx0, 0, none⟩)), (6, .pointer (some ⟨nx0 + 1, 0, none⟩)), (8, .map (some g1)), (9, .int .i64 x8), (10, .pointer (some ⟨nx1, 0, none⟩)), (12, .pointer (some ⟨nx3, 0, none⟩)), (19, .slice Ap0 a0.length cp0), (20, .int .i64 (a0.length : Int)), (21, .int .i64 x9), (71, .bool x15)]).map (fun x => x.2.2.map (·.2)) := by kernel_rfl
theorem quorum_HighestPrepared.calls (k : Nat) (I0 : Imm) (a0 : List Q32) (Ap0 : Option Addr) (cp0 : Nat) (a1 : Int) (a2 : Q24) (w : World) (hI : I0.at_ w) (hlp0 : a0.length ≤ cp0) (hrp0 : Rd qt32 I0 Ap0 a0) (r : Q30 × Bool) (h : quorum_HighestPrepared.f k a0 a1 a2 = some r) :
    Calls Tryz.prog 113 [.slice Ap0 a0.length cp0, .int .i64 a1, .agg #[.int .i64 a2.f0, .int .i64 a2.f1]].toArray w fun e w' => ∃ v, e = .returned v ∧ quorum_HighestPrepared.Post I0 w r v w' := by
  have H : ((quorum_tally.f k a0 a1).bind fun t1 => ((quorum_HighestPrepared.l1 a0 a1 a2 t1 k 0 (⟨#[]⟩ : ByteArray) [] (-1) 0).bind (quorum_HighestPrepared.k1))) = some r := h
  clear h
  refine calls_body Tryz.func113 (by kernel_rfl) 80 (by kernel_rfl) (by kernel_rfl) ⟨w, fun _ => False, I0⟩ I0 [] [(0, .slice Ap0 a0.length cp0), (1, .int .i64 a1), (2, .agg #[.int .i64 a2.f0, .int .i64 a2.f1])] (by kernel_rfl) (Sat.start w _ I0 hI) ?_
  generalize w.heap.size = nx0
  show OK _ K18_0 _ _ _ _ _ _ _ _
  refine OK.seq K18_1 K18_3 (by kernel_rfl) ?_
  refine OK.region 0 O18_1 (by kernel_rfl) ?_
  refine RL.simP (K' := [(6, .pointer (some ⟨nx0 + 1, 0, none⟩)), (5, .pointer (some ⟨nx0, 0, none⟩)), (0, .slice Ap0 a0.length cp0), (1, .int .i64 a1)]) (nx' := nx0 + 2) (L' := [⟨nx0, [.int .i64 a2.f0, .int .i64 a2.f1], 109⟩, ⟨nx0 + 1, [.int .i64 0, .string (⟨#[]⟩ : ByteArray), .slice none 0 0], 41⟩]) [] (RFacts.nil _ _ _) 3 [.no, .no, .no] (by kernel_rfl) (by kernel_rfl) ?_
  refine RL.nil (by kernel_rfl) ?_
  refine QN.then_ ?_
  refine OK.seq K18_4 K18_6 (by kernel_rfl) ?_
  refine OK.region 1 O18_4 (by kernel_rfl) ?_
  refine RL.simP (K' := [(16, .int .i64 a1), (15, .slice Ap0 a0.length cp0), (6, .pointer (some ⟨nx0 + 1, 0, none⟩)), (5, .pointer (some ⟨nx0, 0, none⟩)), (0, .slice Ap0 a0.length cp0), (1, .int .i64 a1)]) (nx' := nx0 + 2) (L' := [⟨nx0, [.int .i64 a2.f0, .int .i64 a2.f1], 109⟩, ⟨nx0 + 1, [.int .i64 0, .string (⟨#[]⟩ : ByteArray), .slice none 0 0], 41⟩]) [] (RFacts.nil _ _ _) 2 [.no, .no] (by kernel_rfl) (by kernel_rfl) ?_
  obtain ⟨t1, hA1, H⟩ := Option.bind_eq_some_iff.mp H
  refine RL.callP 127 [.slice Ap0 a0.length cp0, .int .i64 a1] (some 17) (fun w => quorum_tally.Post I0 w t1) (by kernel_rfl) (by kernel_rfl) (fun w hs => quorum_tally.calls k I0 a0 Ap0 cp0 a1 w hs.im hlp0 hrp0 t1 hA1) ?_
  rintro w v w' hs ⟨I1, g1, rfl, hg, hm1⟩
  have hi1 := hg.le
  refine RL.resume (K' := [(17, .map (some g1)), (16, .int .i64 a1), (15, .slice Ap0 a0.length cp0), (6, .pointer (some ⟨nx0 + 1, 0, none⟩)), (5, .pointer (some ⟨nx0, 0, none⟩)), (0, .slice Ap0 a0.length cp0), (1, .int .i64 a1)]) (X' := []) (by kernel_rfl) (hs.call hg) ?_
  clear hs hg
  generalize w'.heap.size = nx1
  clear w w'
  refine RL.simP (K' := [(8, .map (some g1)), (6, .pointer (some ⟨nx0 + 1, 0, none⟩)), (5, .pointer (some ⟨nx0, 0, none⟩)), (0, .slice Ap0 a0.length cp0), (1, .int .i64 a1)]) (nx' := nx1) (L' := [⟨nx0, [.int .i64 a2.f0, .int .i64 a2.f1], 109⟩, ⟨nx0 + 1, [.int .i64 0, .string (⟨#[]⟩ : ByteArray), .slice none 0 0], 41⟩]) [] (RFacts.nil _ _ _) 1 [.no] (by kernel_rfl) (by kernel_rfl) ?_
  refine RL.nil (by kernel_rfl) ?_
  refine QN.then_ ?_
  refine OK.seq K18_7 K18_9 (by kernel_rfl) ?_
  refine OK.region 2 O18_7 (by kernel_rfl) ?_
  refine RL.simP (K' := [(9, .int .i64 (-1)), (10, .pointer (some ⟨nx1, 0, none⟩)), (8, .map (some g1)), (6, .pointer (some ⟨nx0 + 1, 0, none⟩)), (5, .pointer (some ⟨nx0, 0, none⟩)), (0, .slice Ap0 a0.length cp0), (1, .int .i64 a1)]) (nx' := nx1 + 1) (L' := [⟨nx0, [.int .i64 a2.f0, .int .i64 a2.f1], 109⟩, ⟨nx0 + 1, [.int .i64 0, .string (⟨#[]⟩ : ByteArray), .slice none 0 0], 41⟩, ⟨nx1, [.int .i64 0, .string (⟨#[]⟩ : ByteArray), .slice none 0 0], 41⟩]) [] (RFacts.nil _ _ _) 4 [.no, .no, .no, .l 2] (by kernel_rfl) (by kernel_rfl) ?_
  refine RL.nil (by kernel_rfl) ?_
  refine QN.then_ ?_
  refine OK.seq K18_10 K18_46 (by kernel_rfl) ?_
  refine OK.seq K18_11 K18_13 (by kernel_rfl) ?_
  refine OK.region 3 O18_11 (by kernel_rfl) ?_
  refine RL.simP (K' := [(21, .int .i64 0), (20, .int .i64 (a0.length : Int)), (19, .slice Ap0 a0.length cp0), (9, .int .i64 (-1)), (10, .pointer (some ⟨nx1, 0, none⟩)), (8, .map (some g1)), (6, .pointer (some ⟨nx0 + 1, 0, none⟩)), (5, .pointer (some ⟨nx0, 0, none⟩)), (1, .int .i64 a1)]) (nx' := nx1 + 1) (L' := [⟨nx0, [.int .i64 a2.f0, .int .i64 a2.f1], 109⟩, ⟨nx0 + 1, [.int .i64 0, .string (⟨#[]⟩ : ByteArray), .slice none 0 0], 41⟩, ⟨nx1, [.int .i64 0, .string (⟨#[]⟩ : ByteArray), .slice none 0 0], 41⟩]) [] (RFacts.nil _ _ _) 3 [.no, .no, .no] (by kernel_rfl) (by kernel_rfl) ?_
  refine RL.nil (by kernel_rfl) ?_
  refine QN.then_ ?_
  refine OK.join (fun K' I' _ L' X' => ∃ (x1 : Int) (x2 : ByteArray) (x3 : List Int) (x4 : Int) (A1 : Option Addr) (kc1 : Nat), K' = [(6, .pointer (some ⟨nx0 + 1, 0, none⟩)), (9, .int .i64 x4), (10, .pointer (some ⟨nx1, 0, none⟩))] ∧ L' = [⟨nx0, [.int .i64 a2.f0, .int .i64 a2.f1], 109⟩, ⟨nx0 + 1, [.int .i64 0, .string (⟨#[]⟩ : ByteArray), .slice none 0 0], 41⟩, ⟨nx1, [.int .i64 x1, .string x2, .slice A1 x3.length kc1], 41⟩] ∧ X' = [] ∧ Imm.le I1 I' ∧ x3.length ≤ kc1 ∧ Rd (Ty.int .u8) I' A1 x3 ∧ quorum_HighestPrepared.k1 (x1, x2, x3, x4) = some r) ?_ ?_
  · rintro _ I2 nx2 _ _ ⟨x1, x2, x3, x4, A1, kc1, rfl, rfl, rfl, hi2, hl1, hr1, H⟩
    replace H : (some ((⟨x1, x2, x3⟩ : Q30), (decide (x4 ≥ 0)))) = some r := H
    refine QN.then_ ?_
    refine OK.seq K18_47 K18_49 (by kernel_rfl) ?_
    refine OK.region 11 O18_47 (by kernel_rfl) ?_
    refine RL.simP (K' := [(7, .bool (decide (x4 ≥ 0))), (6, .pointer (some ⟨nx0 + 1, 0, none⟩))]) (nx' := nx2) (L' := [⟨nx0, [.int .i64 a2.f0, .int .i64 a2.f1], 109⟩, ⟨nx0 + 1, [.int .i64 x1, .string x2, .slice A1 x3.length kc1], 41⟩, ⟨nx1, [.int .i64 x1, .string x2, .slice A1 x3.length kc1], 41⟩]) [] (RFacts.nil _ _ _) 5 [.l 2, .no, .no, .l 1, .no] (by kernel_rfl) (by kernel_rfl) ?_
    refine RL.nil (by kernel_rfl) ?_
    refine QN.then_ ?_
    refine OK.ret (by kernel_rfl) ?_
    obtain rfl := Option.some.inj H
    refine QN.body rfl [] (RFacts.nil _ _ _) (.l 1) (.tuple #[.agg #[.int .i64 x1, .string x2, .slice A1 x3.length kc1], .bool (decide (x4 ≥ 0))]) (by kernel_rfl) (by kernel_rfl) (by kernel_rfl) ?_ _ (.inr rfl)
    exact fun w' hs' => ⟨_, rfl, I2, A1, kc1, rfl, hs'.got _ .slnil, hl1, hr1⟩
  · intro Q_1 hJ1 hQ1
    obtain ⟨y1, H, HK1⟩ := Option.bind_eq_some_iff.mp H
    refine OK.block 0 K18_14 (by kernel_rfl) ?_
    refine OK.sub (K' := [(1, .int .i64 a1), (5, .pointer (some ⟨nx0, 0, none⟩)), (6, .pointer (some ⟨nx0 + 1, 0, none⟩)), (8, .map (some g1)), (9, .int .i64 (-1)), (10, .pointer (some ⟨nx1, 0, none⟩)), (19, .slice Ap0 a0.length cp0), (20, .int .i64 (a0.length : Int)), (21, .int .i64 0)]) (L' := [⟨nx0, [.int .i64 a2.f0, .int .i64 a2.f1], 109⟩, ⟨nx0 + 1, [.int .i64 0, .string (⟨#[]⟩ : ByteArray), .slice none 0 0], 41⟩, ⟨nx1, [.int .i64 0, .string (⟨#[]⟩ : ByteArray), .slice none 0 0], 41⟩]) (by kernel_rfl) (.cons_cons _ (.cons_cons _ (.cons_cons _ .slnil))) (.refl _) ?_
    refine OK.loopInv K18_15 (by kernel_rfl) (fun n_ K' I' _ L' X' => ∃ (x5 : Int) (x6 : ByteArray) (x7 : List Int) (x8 : Int) (x9 : Int) (A2 : Option Addr) (kc2 : Nat), K' = [(1, .int .i64 a1), (5, .pointer (some ⟨nx0, 0, none⟩)), (6, .pointer (some ⟨nx0 + 1, 0, none⟩)), (8, .map (some g1)), (9, .int .i64 x8), (10, .pointer (some ⟨nx1, 0, none⟩)), (19, .slice Ap0 a0.length cp0), (20, .int .i64 (a0.length : Int)), (21, .int .i64 x9)] ∧ L' = [⟨nx0, [.int .i64 a2.f0, .int .i64 a2.f1], 109⟩, ⟨nx0 + 1, [.int .i64 0, .string (⟨#[]⟩ : ByteArray), .slice none 0 0], 41⟩, ⟨nx1, [.int .i64 x5, .string x6, .slice A2 x7.length kc2], 41⟩] ∧ X' = [] ∧ Imm.le I1 I' ∧ x7.length ≤ kc2 ∧ Rd (Ty.int .u8) I' A2 x7 ∧ quorum_HighestPrepared.l1 a0 a1 a2 t1 n_ x5 x6 x7 x8 x9 = some y1) k ⟨0, (⟨#[]⟩ : ByteArray), [], (-1), 0, none, 0, rfl, rfl, rfl, (Imm.le_refl _), (Nat.le_refl _), (Rd.nil _ _ _), H⟩ ?_ ?_
    · rintro _ _ _ _ _ ⟨x5, x6, x7, x8, x9, A2, kc2, rfl, rfl, rfl, _, hl2, hr2, H⟩
      cases H
    · rintro kq1 _ I3 nx3 _ _ ⟨x5, x6, x7, x8, x9, A2, kc2, rfl, rfl, rfl, hi3, hl2, hr2, H⟩ Q_l1 hJ2 hQ2
      replace H : (if x9 < (a0.length : Int) then ((if 0 ≤ x9 then (if x9 < (a0.length : Int) then ((if ((a0.getD (x9).toNat qz32).f0) ≠ 1 then (some true) else (if ((a0.getD (x9).toNat qz32).f3) ≠ a2.f1 then (some true) else (if ((a0.getD (x9).toNat qz32).f2) ≥ a2.f0 then (some true) else (if ((a0.getD (x9).toNat qz32).f2) ≤ x8 then (some true) else ((quorum_Valid.f kq1 (a0.getD (x9).toNat qz32) a1).bind fun t2 => (some (!t2))))))).bind (quorum_HighestPrepared.k5 a0 t1 x5 x6 x7 x8 x9)) else none) else none).bind (fun (x10, x11, x12, x13) => (quorum_HighestPrepared.l1 a0 a1 a2 t1 kq1 x10 x11 x12 x13 (W .i64 (x9 + 1))))) else (some (x5, x6, x7, x8))) = some y1 := H
      refine OK.seq K18_16 K18_18 (by kernel_rfl) ?_
      refine OK.region 4 O18_16 (by kernel_rfl) ?_
      refine RL.simP (K' := [(22, .bool (decide (x9 < (a0.length : Int)))), (1, .int .i64 a1), (5, .pointer (some ⟨nx0, 0, none⟩)), (6, .pointer (some ⟨nx0 + 1, 0, none⟩)), (8, .map (some g1)), (9, .int .i64 x8), (10, .pointer (some ⟨nx1, 0, none⟩)), (19, .slice Ap0 a0.length cp0), (20, .int .i64 (a0.length : Int)), (21, .int .i64 x9)]) (nx' := nx3) (L' := [⟨nx0, [.int .i64 a2.f0, .int .i64 a2.f1], 109⟩, ⟨nx0 + 1, [.int .i64 0, .string (⟨#[]⟩ : ByteArray), .slice none 0 0], 41⟩, ⟨nx1, [.int .i64 x5, .string x6, .slice A2 x7.length kc2], 41⟩]) [] (RFacts.nil _ _ _) 1 [.no] (by kernel_rfl) (by kernel_rfl) ?_
      refine RL.nil (by kernel_rfl) ?_
      refine QN.then_ ?_
      refine OK.seq K18_19 K18_22 (by kernel_rfl) ?_
      refine OK.cond (.tmp 22) K18_20 K18_21 (decide (x9 < (a0.length : Int))) (by kernel_rfl) (by kernel_rfl) (by kernel_rfl) (fun hb => ?_) (fun hb => ?_)
      · skip
        have hc := (of_decide_eq_true hb)
        rw [if_pos hc] at H
        clear hb
        refine OK.skip (by kernel_rfl) ?_
        refine QN.then_ ?_
        refine OK.seq K18_23 K18_44 (by kernel_rfl) ?_
        refine OK.join (fun K' I' _ L' X' => ∃ (x10 : Int) (x11 : ByteArray) (x12 : List Int) (x13 : Int) (A3 : Option Addr) (kc3 : Nat), K' = [(1, .int .i64 a1), (5, .pointer (some ⟨nx0, 0, none⟩)), (6, .pointer (some ⟨nx0 + 1, 0, none⟩)), (8, .map (some g1)), (9, .int .i64 x13), (10, .pointer (some ⟨nx1, 0, none⟩)), (19, .slice Ap0 a0.length cp0), (20, .int .i64 (a0.length : Int)), (21, .int .i64 x9)] ∧ L' = [⟨nx0, [.int .i64 a2.f0, .int .i64 a2.f1], 109⟩, ⟨nx0 + 1, [.int .i64 0, .string (⟨#[]⟩ : ByteArray), .slice none 0 0], 41⟩, ⟨nx1, [.int .i64 x10, .string x11, .slice A3 x12.length kc3], 41⟩] ∧ X' = [] ∧ Imm.le I3 I' ∧ x12.length ≤ kc3 ∧ Rd (Ty.int .u8) I' A3 x12 ∧ (quorum_HighestPrepared.l1 a0 a1 a2 t1 kq1 x10 x11 x12 x13 (W .i64 (x9 + 1))) = some y1) ?_ ?_
        · rintro _ I4 nx4 _ _ ⟨x10, x11, x12, x13, A3, kc3, rfl, rfl, rfl, hi4, hl3, hr3, H⟩
          replace H : (quorum_HighestPrepared.l1 a0 a1 a2 t1 kq1 x10 x11 x12 x13 (W .i64 (x9 + 1))) = some y1 := H
          refine QN.then_ ?_
          refine OK.region 10 O18_44 (by kernel_rfl) ?_
          refine RL.simP (K' := [(21, .int .i64 (W .i64 (x9 + 1))), (1, .int .i64 a1), (5, .pointer (some ⟨nx0, 0, none⟩)), (6, .pointer (some ⟨nx0 + 1, 0, none⟩)), (8, .map (some g1)), (9, .int .i64 x13), (10, .pointer (some ⟨nx1, 0, none⟩)), (19, .slice Ap0 a0.length cp0), (20, .int .i64 (a0.length : Int))]) (nx' := nx4) (L' := [⟨nx0, [.int .i64 a2.f0, .int .i64 a2.f1], 109⟩, ⟨nx0 + 1, [.int .i64 0, .string (⟨#[]⟩ : ByteArray), .slice none 0 0], 41⟩, ⟨nx1, [.int .i64 x10, .string x11, .slice A3 x12.length kc3], 41⟩]) [] (RFacts.nil _ _ _) 2 [.no, .no] (by kernel_rfl) (by kernel_rfl) ?_
          refine RL.nil (by kernel_rfl) ?_
          refine QN.sub (K' := [(1, .int .i64 a1), (5, .pointer (some ⟨nx0, 0, none⟩)), (6, .pointer (some ⟨nx0 + 1, 0, none⟩)), (8, .map (some g1)), (9, .int .i64 x13), (10, .pointer (some ⟨nx1, 0, none⟩)), (19, .slice Ap0 a0.length cp0), (20, .int .i64 (a0.length : Int)), (21, .int .i64 (W .i64 (x9 + 1)))]) (L' := [⟨nx0, [.int .i64 a2.f0, .int .i64 a2.f1], 109⟩, ⟨nx0 + 1, [.int .i64 0, .string (⟨#[]⟩ : ByteArray), .slice none 0 0], 41⟩, ⟨nx1, [.int .i64 x10, .string x11, .slice A3 x12.length kc3], 41⟩]) (by kernel_rfl) (.cons_cons _ (.cons_cons _ (.cons_cons _ .slnil))) (.refl _) ?_
          exact hJ2 _ _ _ _ _ ⟨x10, x11, x12, x13, W .i64 (x9 + 1), A3, kc3, rfl, rfl, rfl, (Imm.le_trans hi3 hi4), hl3, hr3, H⟩
        · intro Q_2 hJ3 hQ3
          obtain ⟨y2, H, HK2⟩ := Option.bind_eq_some_iff.mp H
          refine OK.block 1 K18_24 (by kernel_rfl) ?_
          refine OK.seq K18_25 K18_27 (by kernel_rfl) ?_
          refine OK.region 5 O18_25 (by kernel_rfl) ?_
          by_cases hib0 : 0 ≤ x9
          case neg => rw [if_neg hib0] at H; cases H
          rw [if_pos hib0] at H
          by_cases hib1 : x9 < (a0.length : Int)
          case neg => rw [if_neg hib1] at H; cases H
          rw [if_pos hib1] at H
          obtain ⟨g1_, o1_, hA1_, A1_5_2_, c1_5_2_, hl1_5_2_, hr1_5_2_, hc1_⟩ := qt32_at (Rd.ext (Imm.le_trans hi1 hi3) hrp0) x9 hib0 hib1
          refine RL.idx 8 .i64 x9 hA1_ a0.length cp0 (some 23) (by kernel_rfl) (by kernel_rfl) (T := 29) (e := 43) (by kernel_rfl) (by kernel_rfl) hib0 hib1 (K' := [(23, .pointer (some ⟨g1_, o1_ + (x9).toNat * 8, none⟩)), (22, .bool (decide (x9 < (a0.length : Int)))), (1, .int .i64 a1), (5, .pointer (some ⟨nx0, 0, none⟩)), (6, .pointer (some ⟨nx0 + 1, 0, none⟩)), (8, .map (some g1)), (9, .int .i64 x8), (10, .pointer (some ⟨nx1, 0, none⟩)), (19, .slice Ap0 a0.length cp0), (20, .int .i64 (a0.length : Int)), (21, .int .i64 x9)]) (by kernel_rfl) ?_
          refine RL.simP (K' := [(12, .pointer (some ⟨nx3, 0, none⟩)), (1, .int .i64 a1), (5, .pointer (some ⟨nx0, 0, none⟩)), (6, .pointer (some ⟨nx0 + 1, 0, none⟩)), (8, .map (some g1)), (9, .int .i64 x8), (10, .pointer (some ⟨nx1, 0, none⟩)), (19, .slice Ap0 a0.length cp0), (20, .int .i64 (a0.length : Int)), (21, .int .i64 x9)]) (nx' := nx3 + 1) (L' := [⟨nx0, [.int .i64 a2.f0, .int .i64 a2.f1], 109⟩, ⟨nx0 + 1, [.int .i64 0, .string (⟨#[]⟩ : ByteArray), .slice none 0 0], 41⟩, ⟨nx1, [.int .i64 x5, .string x6, .slice A2 x7.length kc2], 41⟩, ⟨nx3, [.int .i64 ((a0.getD (x9).toNat qz32).f0), .int .i64 ((a0.getD (x9).toNat qz32).f1), .int .i64 ((a0.getD (x9).toNat qz32).f2), .int .i64 ((a0.getD (x9).toNat qz32).f3), .int .u32 ((a0.getD (x9).toNat qz32).f4), .int .i64 ((a0.getD (x9).toNat qz32).f5.f0), .string ((a0.getD (x9).toNat qz32).f5.f1), .slice A1_5_2_ (((a0.getD (x9).toNat qz32).f5.f2).length) c1_5_2_], 43⟩]) [(⟨g1_, o1_ + (x9).toNat * 8, none⟩, .int .i64 ((a0.getD (x9).toNat qz32).f0)), (⟨g1_, o1_ + (x9).toNat * 8 + 1, none⟩, .int .i64 ((a0.getD (x9).toNat qz32).f1)), (⟨g1_, o1_ + (x9).toNat * 8 + 2, none⟩, .int .i64 ((a0.getD (x9).toNat qz32).f2)), (⟨g1_, o1_ + (x9).toNat * 8 + 3, none⟩, .int .i64 ((a0.getD (x9).toNat qz32).f3)), (⟨g1_, o1_ + (x9).toNat * 8 + 4, none⟩, .int .u32 ((a0.getD (x9).toNat qz32).f4)), (⟨g1_, o1_ + (x9).toNat * 8 + 5, none⟩, .int .i64 ((a0.getD (x9).toNat qz32).f5.f0)), (⟨g1_, o1_ + (x9).toNat * 8 + 6, none⟩, .string ((a0.getD (x9).toNat qz32).f5.f1)), (⟨g1_, o1_ + (x9).toNat * 8 + 7, none⟩, .slice A1_5_2_ (((a0.getD (x9).toNat qz32).f5.f2).length) c1_5_2_)] (RFacts.imm (hc1_ 0 _ rfl) (RFacts.imm (hc1_ 1 _ rfl) (RFacts.imm (hc1_ 2 _ rfl) (RFacts.imm (hc1_ 3 _ rfl) (RFacts.imm (hc1_ 4 _ rfl) (RFacts.imm (hc1_ 5 _ rfl) (RFacts.imm (hc1_ 6 _ rfl) (RFacts.imm (hc1_ 7 _ rfl) (RFacts.nil _ _ _))))))))) 3 [.r 0, .no, .l 3] (by kernel_rfl) (by kernel_rfl) ?_
          refine RL.nil (by kernel_rfl) ?_
          refine QN.then_ ?_
          refine OK.seq K18_28 K18_34 (by kernel_rfl) ?_
          refine OK.seq K18_29 K18_31 (by kernel_rfl) ?_
          refine OK.join (fun K' I' _ L' X' => ∃ (x14 : Bool), K' = [(1, .int .i64 a1), (5, .pointer (some ⟨nx0, 0, none⟩)), (6, .pointer (some ⟨nx0 + 1, 0, none⟩)), (8, .map (some g1)), (9, .int .i64 x8), (10, .pointer (some ⟨nx1, 0, none⟩)), (12, .pointer (some ⟨nx3, 0, none⟩)), (19, .slice Ap0 a0.length cp0), (20, .int .i64 (a0.length : Int)), (21, .int .i64 x9), (53, .bool x14)] ∧ L' = [⟨nx0, [.int .i64 a2.f0, .int .i64 a2.f1], 109⟩, ⟨nx0 + 1, [.int .i64 0, .string (⟨#[]⟩ : ByteArray), .slice none 0 0], 41⟩, ⟨nx1, [.int .i64 x5, .string x6, .slice A2 x7.length kc2], 41⟩, ⟨nx3, [.int .i64 ((a0.getD (x9).toNat qz32).f0), .int .i64 ((a0.getD (x9).toNat qz32).f1), .int .i64 ((a0.getD (x9).toNat qz32).f2), .int .i64 ((a0.getD (x9).toNat qz32).f3), .int .u32 ((a0.getD (x9).toNat qz32).f4), .int .i64 ((a0.getD (x9).toNat qz32).f5.f0), .string ((a0.getD (x9).toNat qz32).f5.f1), .slice A1_5_2_ (((a0.getD (x9).toNat qz32).f5.f2).length) c1_5_2_], 43⟩] ∧ X' = [] ∧ Imm.le I3 I' ∧ quorum_HighestPrepared.k5 a0 t1 x5 x6 x7 x8 x9 x14 = some y2) ?_ ?_
          · rintro _ I5 nx5 _ _ ⟨x14, rfl, rfl, rfl, hi5, H⟩
            replace H : (if x14 = true then (some (x5, x6, x7, x8)) else ((if (mget t1 (2, 0, (a0.getD (x9).toNat qz32).f2, (a0.getD (x9).toNat qz32).f3)).isSome = true then (some (((mget t1 (2, 0, (a0.getD (x9).toNat qz32).f2, (a0.getD (x9).toNat qz32).f3)).getD 0) == ((a0.getD (x9).toNat qz32).f4))) else (some false)).bind (quorum_HighestPrepared.k4 a0 x5 x6 x7 x8 x9))) = some y2 := H
            refine QN.then_ ?_
            refine OK.cond (.tmp 53) K18_32 K18_33 x14 (by kernel_rfl) (by kernel_rfl) (by kernel_rfl) (fun hb => ?_) (fun hb => ?_)
            · skip
              have hc := hb
              rw [if_pos hc] at H
              clear hb
              refine OK.exit 1 (by kernel_rfl) ?_
              refine QN.thenE ?_
              refine QN.blkE ?_
              obtain rfl := Option.some.inj H
              refine QN.sub (K' := [(1, .int .i64 a1), (5, .pointer (some ⟨nx0, 0, none⟩)), (6, .pointer (some ⟨nx0 + 1, 0, none⟩)), (8, .map (some g1)), (9, .int .i64 x8), (10, .pointer (some ⟨nx1, 0, none⟩)), (19, .slice Ap0 a0.length cp0), (20, .int .i64 (a0.length : Int)), (21, .int .i64 x9)]) (L' := [⟨nx0, [.int .i64 a2.f0, .int .i64 a2.f1], 109⟩, ⟨nx0 + 1, [.int .i64 0, .string (⟨#[]⟩ : ByteArray), .slice none 0 0], 41⟩, ⟨nx1, [.int .i64 x5, .string x6, .slice A2 x7.length kc2], 41⟩]) (by kernel_rfl) (.cons_cons _ (.cons_cons _ (.cons_cons _ (.cons _ .slnil)))) (.refl _) ?_
              exact hJ3 _ _ _ _ _ ⟨x5, x6, x7, x8, A2, kc2, rfl, rfl, rfl, hi5, hl2, (Rd.ext hi5 hr2), HK2⟩
            · skip
              have hc := (Bool.eq_false_iff.1 hb)
              rw [if_neg hc] at H
              clear hb
              refine OK.skip (by kernel_rfl) ?_
              refine QN.then_ ?_
              refine OK.seq K18_35 K18_37 (by kernel_rfl) ?_
              refine OK.region 7 O18_35 (by kernel_rfl) ?_
              refine RL.simP (K' := [(61, .agg #[.int .i64 2, .int .i64 0, .int .i64 ((a0.getD (x9).toNat qz32).f2), .int .i64 ((a0.getD (x9).toNat qz32).f3)]), (55, .map (some g1)), (1, .int .i64 a1), (5, .pointer (some ⟨nx0, 0, none⟩)), (6, .pointer (some ⟨nx0 + 1, 0, none⟩)), (8, .map (some g1)), (9, .int .i64 x8), (10, .pointer (some ⟨nx1, 0, none⟩)), (12, .pointer (some ⟨nx3, 0, none⟩)), (19, .slice Ap0 a0.length cp0), (20, .int .i64 (a0.length : Int)), (21, .int .i64 x9)]) (nx' := nx5) (L' := [⟨nx0, [.int .i64 a2.f0, .int .i64 a2.f1], 109⟩, ⟨nx0 + 1, [.int .i64 0, .string (⟨#[]⟩ : ByteArray), .slice none 0 0], 41⟩, ⟨nx1, [.int .i64 x5, .string x6, .slice A2 x7.length kc2], 41⟩, ⟨nx3, [.int .i64 ((a0.getD (x9).toNat qz32).f0), .int .i64 ((a0.getD (x9).toNat qz32).f1), .int .i64 ((a0.getD (x9).toNat qz32).f2), .int .i64 ((a0.getD (x9).toNat qz32).f3), .int .u32 ((a0.getD (x9).toNat qz32).f4), .int .i64 ((a0.getD (x9).toNat qz32).f5.f0), .string ((a0.getD (x9).toNat qz32).f5.f1), .slice A1_5_2_ (((a0.getD (x9).toNat qz32).f5.f2).length) c1_5_2_], 43⟩]) [] (RFacts.nil _ _ _) 7 [.no, .no, .l 3, .no, .l 3, .no, .no] (by kernel_rfl) (by kernel_rfl) ?_
              refine RL.lookF mt69 (2, 0, (a0.getD (x9).toNat qz32).f2, (a0.getD (x9).toNat qz32).f3) (some 62) (by kernel_rfl) (Mp.ext (Imm.le_trans hi3 hi5) hm1) (by kernel_rfl) (K' := [(62, .tuple #[.int .u32 ((mget t1 (2, 0, (a0.getD (x9).toNat qz32).f2, (a0.getD (x9).toNat qz32).f3)).getD 0), .bool (mget t1 (2, 0, (a0.getD (x9).toNat qz32).f2, (a0.getD (x9).toNat qz32).f3)).isSome]), (61, .agg #[.int .i64 2, .int .i64 0, .int .i64 ((a0.getD (x9).toNat qz32).f2), .int .i64 ((a0.getD (x9).toNat qz32).f3)]), (55, .map (some g1)), (1, .int .i64 a1), (5, .pointer (some ⟨nx0, 0, none⟩)), (6, .pointer (some ⟨nx0 + 1, 0, none⟩)), (8, .map (some g1)), (9, .int .i64 x8), (10, .pointer (some ⟨nx1, 0, none⟩)), (12, .pointer (some ⟨nx3, 0, none⟩)), (19, .slice Ap0 a0.length cp0), (20, .int .i64 (a0.length : Int)), (21, .int .i64 x9)]) (by kernel_rfl) ?_
              refine RL.simP (K' := [(14, .bool (mget t1 (2, 0, (a0.getD (x9).toNat qz32).f2, (a0.getD (x9).toNat qz32).f3)).isSome), (13, .int .u32 ((mget t1 (2, 0, (a0.getD (x9).toNat qz32).f2, (a0.getD (x9).toNat qz32).f3)).getD 0)), (1, .int .i64 a1), (5, .pointer (some ⟨nx0, 0, none⟩)), (6, .pointer (some ⟨nx0 + 1, 0, none⟩)), (8, .map (some g1)), (9, .int .i64 x8), (10, .pointer (some ⟨nx1, 0, none⟩)), (12, .pointer (some ⟨nx3, 0, none⟩)), (19, .slice Ap0 a0.length cp0), (20, .int .i64 (a0.length : Int)), (21, .int .i64 x9)]) (nx' := nx5) (L' := [⟨nx0, [.int .i64 a2.f0, .int .i64 a2.f1], 109⟩, ⟨nx0 + 1, [.int .i64 0, .string (⟨#[]⟩ : ByteArray), .slice none 0 0], 41⟩, ⟨nx1, [.int .i64 x5, .string x6, .slice A2 x7.length kc2], 41⟩, ⟨nx3, [.int .i64 ((a0.getD (x9).toNat qz32).f0), .int .i64 ((a0.getD (x9).toNat qz32).f1), .int .i64 ((a0.getD (x9).toNat qz32).f2), .int .i64 ((a0.getD (x9).toNat qz32).f3), .int .u32 ((a0.getD (x9).toNat qz32).f4), .int .i64 ((a0.getD (x9).toNat qz32).f5.f0), .string ((a0.getD (x9).toNat qz32).f5.f1), .slice A1_5_2_ (((a0.getD (x9).toNat qz32).f5.f2).length) c1_5_2_], 43⟩]) [] (RFacts.nil _ _ _) 5 [.no, .no, .no, .no, .no] (by kernel_rfl) (by kernel_rfl) ?_
              refine RL.nil (by kernel_rfl) ?_
              refine QN.then_ ?_
              refine OK.seq K18_38 K18_40 (by kernel_rfl) ?_
              refine OK.join (fun K' I' _ L' X' => ∃ (x15 : Bool), K' = [(1, .int .i64 a1), (5, .pointer (some ⟨nx0, 0, none⟩)), (6, .pointer (some ⟨nx0 + 1, 0, none⟩)), (8, .map (some g1)), (9, .int .i64 x8), (10, .pointer (some ⟨nx1, 0, none⟩)), (12, .pointer (some ⟨nx3, 0, none⟩)), (19, .slice Ap0 a0.length cp0), (20, .int .i64 (a0.length : Int)), (21, .int .i64 x9), (71, .bool x15)] ∧ L' = [⟨nx0, [.int .i64 a2.f0, .int .i64 a2.f1], 109⟩, ⟨nx0 + 1, [.int .i64 0, .string (⟨#[]⟩ : ByteArray), .slice none 0 0], 41⟩, ⟨nx1, [.int .i64 x5, .string x6, .slice A2 x7.length kc2], 41⟩, ⟨nx3, [.int .i64 ((a0.getD (x9).toNat qz32).f0), .int .i64 ((a0.getD (x9).toNat qz32).f1), .int .i64 ((a0.getD (x9).toNat qz32).f2), .int .i64 ((a0.getD (x9).toNat qz32).f3), .int .u32 ((a0.getD (x9).toNat qz32).f4), .int .i64 ((a0.getD (x9).toNat qz32).f5.f0), .string ((a0.getD (x9).toNat qz32).f5.f1), .slice A1_5_2_ (((a0.getD (x9).toNat qz32).f5.f2).length) c1_5_2_], 43⟩] ∧ X' = [] ∧ Imm.le I5 I' ∧ quorum_HighestPrepared.k4 a0 x5 x6 x7 x8 x9 x15 = some y2) ?_ ?_
              · rintro _ I6 nx6 _ _ ⟨x15, rfl, rfl, rfl, hi6, H⟩
                replace H : ((if x15 = true then (some ((a0.getD (x9).toNat qz32).f5.f0, (a0.getD (x9).toNat qz32).f5.f1, (a0.getD (x9).toNat qz32).f5.f2, (a0.getD (x9).toNat qz32).f2)) else (some (x5, x6, x7, x8))).bind (quorum_HighestPrepared.k3)) = some y2 := H
                refine QN.then_ ?_
                refine OK.join (fun K' I' _ L' X' => ∃ (x16 : Int) (x17 : ByteArray) (x18 : List Int) (x19 : Int) (A4 : Option Addr) (kc4 : Nat), K' = [(1, .int .i64 a1), (5, .pointer (some ⟨nx0, 0, none⟩)), (6, .pointer (some ⟨nx0 + 1, 0, none⟩)), (8, .map (some g1)), (9, .int .i64 x19), (10, .pointer (some ⟨nx1, 0, none⟩)), (19, .slice Ap0 a0.length cp0), (20, .int .i64 (a0.length : Int)), (21, .int .i64 x9)] ∧ L' = [⟨nx0, [.int .i64 a2.f0, .int .i64 a2.f1], 109⟩, ⟨nx0 + 1, [.int .i64 0, .string (⟨#[]⟩ : ByteArray), .slice none 0 0], 41⟩, ⟨nx1, [.int .i64 x16, .string x17, .slice A4 x18.length kc4], 41⟩, ⟨nx3, [.int .i64 ((a0.getD (x9).toNat qz32).f0), .int .i64 ((a0.getD (x9).toNat qz32).f1), .int .i64 ((a0.getD (x9).toNat qz32).f2), .int .i64 ((a0.getD (x9).toNat qz32).f3), .int .u32 ((a0.getD (x9).toNat qz32).f4), .int .i64 ((a0.getD (x9).toNat qz32).f5.f0), .string ((a0.getD (x9).toNat qz32).f5.f1), .slice A1_5_2_ (((a0.getD (x9).toNat qz32).f5.f2).length) c1_5_2_], 43⟩] ∧ X' = [] ∧ Imm.le I6 I' ∧ x18.length ≤ kc4 ∧ Rd (Ty.int .u8) I' A4 x18 ∧ quorum_HighestPrepared.k3 (x16, x17, x18, x19) = some y2) ?_ ?_
                · rintro _ I7 nx7 _ _ ⟨x16, x17, x18, x19, A4, kc4, rfl, rfl, rfl, hi7, hl4, hr4, H⟩
                  replace H : (some (x16, x17, x18, x19)) = some y2 := H
                  refine QN.blkN ?_
                  obtain rfl := Option.some.inj H
                  refine QN.sub (K' := [(1, .int .i64 a1), (5, .pointer (some ⟨nx0, 0, none⟩)), (6, .pointer (some ⟨nx0 + 1, 0, none⟩)), (8, .map (some g1)), (9, .int .i64 x19), (10, .pointer (some ⟨nx1, 0, none⟩)), (19, .slice Ap0 a0.length cp0), (20, .int .i64 (a0.length : Int)), (21, .int .i64 x9)]) (L' := [⟨nx0, [.int .i64 a2.f0, .int .i64 a2.f1], 109⟩, ⟨nx0 + 1, [.int .i64 0, .string (⟨#[]⟩ : ByteArray), .slice none 0 0], 41⟩, ⟨nx1, [.int .i64 x16, .string x17, .slice A4 x18.length kc4], 41⟩]) (by kernel_rfl) (.cons_cons _ (.cons_cons _ (.cons_cons _ (.cons _ .slnil)))) (.refl _) ?_
                  exact hJ3 _ _ _ _ _ ⟨x16, x17, x18, x19, A4, kc4, rfl, rfl, rfl, (Imm.le_trans (Imm.le_trans hi5 hi6) hi7), hl4, hr4, HK2⟩
                · intro Q_3 hJ6 hQ6
                  obtain ⟨y5, H, HK5⟩ := Option.bind_eq_some_iff.mp H
                  refine OK.cond (.tmp 71) K18_41 K18_43 x15 (by kernel_rfl) (by kernel_rfl) (by kernel_rfl) (fun hb => ?_) (fun hb => ?_)
                  · skip
                    have hc := hb
                    rw [if_pos hc] at H
                    clear hb
                    refine OK.drawnC 9 5 O18_41 [0, 1, 0, 4, 3, 31] (by kernel_rfl) (by kernel_rfl) quorum_HighestPrepared.d1l quorum_HighestPrepared.d1g [] (RI.nil _) [.no, .l 3, .no, .l 3, .no] quorum_HighestPrepared.a18_41 quorum_HighestPrepared.a18_41o (by kernel_rfl) (by kernel_rfl) (fun u => [.pointer (some ⟨nx3, 2, none⟩), .int .i64 ((a0.getD (x9).toNat qz32).f2), .pointer (some ⟨nx3, 5, none⟩), .agg #[.int .i64 ((a0.getD (x9).toNat qz32).f5.f0), .string ((a0.getD (x9).toNat qz32).f5.f1), .slice A1_5_2_ (((a0.getD (x9).toNat qz32).f5.f2).length) c1_5_2_], .int .i64 ((a0.getD (x9).toNat qz32).f2)]) (fun u => [(9, .int .i64 ((a0.getD (x9).toNat qz32).f2)), (75, .agg #[.int .i64 ((a0.getD (x9).toNat qz32).f5.f0), .string ((a0.getD (x9).toNat qz32).f5.f1), .slice A1_5_2_ (((a0.getD (x9).toNat qz32).f5.f2).length) c1_5_2_]), (74, .pointer (some ⟨nx3, 5, none⟩)), (73, .int .i64 ((a0.getD (x9).toNat qz32).f2)), (72, .pointer (some ⟨nx3, 2, none⟩)), (1, .int .i64 a1), (5, .pointer (some ⟨nx0, 0, none⟩)), (6, .pointer (some ⟨nx0 + 1, 0, none⟩)), (8, .map (some g1)), (10, .pointer (some ⟨nx1, 0, none⟩)), (12, .pointer (some ⟨nx3, 0, none⟩)), (19, .slice Ap0 a0.length cp0), (20, .int .i64 (a0.length : Int)), (21, .int .i64 x9), (71, .bool x15)]) (quorum_HighestPrepared.d1v a0 Ap0 cp0 a1 a2 nx0 g1 nx1 x5 x6 x7 A2 kc2 x8 x9 nx3 A1_5_2_ c1_5_2_ x15) (quorum_HighestPrepared.d1e a0 Ap0 cp0 a1 a2 nx0 g1 nx1 x5 x6 x7 A2 kc2 x8 x9 nx3 A1_5_2_ c1_5_2_ x15) [] framesOk.nil ?_ [] framesOk.nil ?_ ?_
                    · refine LoudsG.nil
                    · refine Givens.nil
                    intro u I8 nx8 hi8 hF
                    clear hF
                    show RL _ _ _ 5 _ [(9, .int .i64 ((a0.getD (x9).toNat qz32).f2)), (75, .agg #[.int .i64 ((a0.getD (x9).toNat qz32).f5.f0), .string ((a0.getD (x9).toNat qz32).f5.f1), .slice A1_5_2_ (((a0.getD (x9).toNat qz32).f5.f2).length) c1_5_2_]), (74, .pointer (some ⟨nx3, 5, none⟩)), (73, .int .i64 ((a0.getD (x9).toNat qz32).f2)), (72, .pointer (some ⟨nx3, 2, none⟩)), (1, .int .i64 a1), (5, .pointer (some ⟨nx0, 0, none⟩)), (6, .pointer (some ⟨nx0 + 1, 0, none⟩)), (8, .map (some g1)), (10, .pointer (some ⟨nx1, 0, none⟩)), (12, .pointer (some ⟨nx3, 0, none⟩)), (19, .slice Ap0 a0.length cp0), (20, .int .i64 (a0.length : Int)), (21, .int .i64 x9), (71, .bool x15)] _ _ _ [⟨nx0, [.int .i64 a2.f0, .int .i64 a2.f1], 109⟩, ⟨nx0 + 1, [.int .i64 0, .string (⟨#[]⟩ : ByteArray), .slice none 0 0], 41⟩, ⟨nx1, [.int .i64 x5, .string x6, .slice A2 x7.length kc2], 41⟩, ⟨nx3, [.int .i64 ((a0.getD (x9).toNat qz32).f0), .int .i64 ((a0.getD (x9).toNat qz32).f1), .int .i64 ((a0.getD (x9).toNat qz32).f2), .int .i64 ((a0.getD (x9).toNat qz32).f3), .int .u32 ((a0.getD (x9).toNat qz32).f4), .int .i64 ((a0.getD (x9).toNat qz32).f5.f0), .string ((a0.getD (x9).toNat qz32).f5.f1), .slice A1_5_2_ (((a0.getD (x9).toNat qz32).f5.f2).length) c1_5_2_], 43⟩] []
                    clear u
                    refine RL.simP (K' := [(9, .int .i64 ((a0.getD (x9).toNat qz32).f2)), (1, .int .i64 a1), (5, .pointer (some ⟨nx0, 0, none⟩)), (6, .pointer (some ⟨nx0 + 1, 0, none⟩)), (8, .map (some g1)), (10, .pointer (some ⟨nx1, 0, none⟩)), (19, .slice Ap0 a0.length cp0), (20, .int .i64 (a0.length : Int)), (21, .int .i64 x9)]) (nx' := nx8) (L' := [⟨nx0, [.int .i64 a2.f0, .int .i64 a2.f1], 109⟩, ⟨nx0 + 1, [.int .i64 0, .string (⟨#[]⟩ : ByteArray), .slice none 0 0], 41⟩, ⟨nx1, [.int .i64 ((a0.getD (x9).toNat qz32).f5.f0), .string ((a0.getD (x9).toNat qz32).f5.f1), .slice A1_5_2_ (((a0.getD (x9).toNat qz32).f5.f2).length) c1_5_2_], 41⟩, ⟨nx3, [.int .i64 ((a0.getD (x9).toNat qz32).f0), .int .i64 ((a0.getD (x9).toNat qz32).f1), .int .i64 ((a0.getD (x9).toNat qz32).f2), .int .i64 ((a0.getD (x9).toNat qz32).f3), .int .u32 ((a0.getD (x9).toNat qz32).f4), .int .i64 ((a0.getD (x9).toNat qz32).f5.f0), .string ((a0.getD (x9).toNat qz32).f5.f1), .slice A1_5_2_ (((a0.getD (x9).toNat qz32).f5.f2).length) c1_5_2_], 43⟩]) [] (RFacts.nil _ _ _) 1 [.l 2] (by kernel_rfl) (by kernel_rfl) ?_
                    refine RL.nil (by kernel_rfl) ?_
                    obtain rfl := Option.some.inj H
                    refine QN.sub (K' := [(1, .int .i64 a1), (5, .pointer (some ⟨nx0, 0, none⟩)), (6, .pointer (some ⟨nx0 + 1, 0, none⟩)), (8, .map (some g1)), (9, .int .i64 ((a0.getD (x9).toNat qz32).f2)), (10, .pointer (some ⟨nx1, 0, none⟩)), (19, .slice Ap0 a0.length cp0), (20, .int .i64 (a0.length : Int)), (21, .int .i64 x9)]) (L' := [⟨nx0, [.int .i64 a2.f0, .int .i64 a2.f1], 109⟩, ⟨nx0 + 1, [.int .i64 0, .string (⟨#[]⟩ : ByteArray), .slice none 0 0], 41⟩, ⟨nx1, [.int .i64 ((a0.getD (x9).toNat qz32).f5.f0), .string ((a0.getD (x9).toNat qz32).f5.f1), .slice A1_5_2_ (((a0.getD (x9).toNat qz32).f5.f2).length) c1_5_2_], 41⟩, ⟨nx3, [.int .i64 ((a0.getD (x9).toNat qz32).f0), .int .i64 ((a0.getD (x9).toNat qz32).f1), .int .i64 ((a0.getD (x9).toNat qz32).f2), .int .i64 ((a0.getD (x9).toNat qz32).f3), .int .u32 ((a0.getD (x9).toNat qz32).f4), .int .i64 ((a0.getD (x9).toNat qz32).f5.f0), .string ((a0.getD (x9).toNat qz32).f5.f1), .slice A1_5_2_ (((a0.getD (x9).toNat qz32).f5.f2).length) c1_5_2_], 43⟩]) (by kernel_rfl) (.cons_cons _ (.cons_cons _ (.cons_cons _ (.cons_cons _ .slnil)))) (.refl _) ?_
                    exact hJ6 _ _ _ _ _ ⟨(a0.getD (x9).toNat qz32).f5.f0, (a0.getD (x9).toNat qz32).f5.f1, (a0.getD (x9).toNat qz32).f5.f2, (a0.getD (x9).toNat qz32).f2, A1_5_2_, c1_5_2_, rfl, rfl, rfl, hi8, hl1_5_2_, (Rd.ext (Imm.le_trans (Imm.le_trans hi5 hi6) hi8) hr1_5_2_), HK5⟩
                  · skip
                    have hc := (Bool.eq_false_iff.1 hb)
                    rw [if_neg hc] at H
                    clear hb
                    refine OK.skip (by kernel_rfl) ?_
                    obtain rfl := Option.some.inj H
                    refine QN.sub (K' := [(1, .int .i64 a1), (5, .pointer (some ⟨nx0, 0, none⟩)), (6, .pointer (some ⟨nx0 + 1, 0, none⟩)), (8, .map (some g1)), (9, .int .i64 x8), (10, .pointer (some ⟨nx1, 0, none⟩)), (19, .slice Ap0 a0.length cp0), (20, .int .i64 (a0.length : Int)), (21, .int .i64 x9)]) (L' := [⟨nx0, [.int .i64 a2.f0, .int .i64 a2.f1], 109⟩, ⟨nx0 + 1, [.int .i64 0, .string (⟨#[]⟩ : ByteArray), .slice none 0 0], 41⟩, ⟨nx1, [.int .i64 x5, .string x6, .slice A2 x7.length kc2], 41⟩, ⟨nx3, [.int .i64 ((a0.getD (x9).toNat qz32).f0), .int .i64 ((a0.getD (x9).toNat qz32).f1), .int .i64 ((a0.getD (x9).toNat qz32).f2), .int .i64 ((a0.getD (x9).toNat qz32).f3), .int .u32 ((a0.getD (x9).toNat qz32).f4), .int .i64 ((a0.getD (x9).toNat qz32).f5.f0), .string ((a0.getD (x9).toNat qz32).f5.f1), .slice A1_5_2_ (((a0.getD (x9).toNat qz32).f5.f2).length) c1_5_2_], 43⟩]) (by kernel_rfl) (.cons_cons _ (.cons_cons _ (.cons_cons _ (.cons_cons _ .slnil)))) (.refl _) ?_
                    exact hJ6 _ _ _ _ _ ⟨x5, x6, x7, x8, A2, kc2, rfl, rfl, rfl, (Imm.le_refl _), hl2, (Rd.ext (Imm.le_trans hi5 hi6) hr2), HK5⟩
              · intro Q_4 hJ5 hQ5
                obtain ⟨y4, H, HK4⟩ := Option.bind_eq_some_iff.mp H
                refine OK.region 8 O18_38 (by kernel_rfl) ?_
                refine RL.simP (K' := [(66, .bool (mget t1 (2, 0, (a0.getD (x9).toNat qz32).f2, (a0.getD (x9).toNat qz32).f3)).isSome), (13, .int .u32 ((mget t1 (2, 0, (a0.getD (x9).toNat qz32).f2, (a0.getD (x9).toNat qz32).f3)).getD 0)), (1, .int .i64 a1), (5, .pointer (some ⟨nx0, 0, none⟩)), (6, .pointer (some ⟨nx0 + 1, 0, none⟩)), (8, .map (some g1)), (9, .int .i64 x8), (10, .pointer (some ⟨nx1, 0, none⟩)), (12, .pointer (some ⟨nx3, 0, none⟩)), (19, .slice Ap0 a0.length cp0), (20, .int .i64 (a0.length : Int)), (21, .int .i64 x9)]) (nx' := nx5) (L' := [⟨nx0, [.int .i64 a2.f0, .int .i64 a2.f1], 109⟩, ⟨nx0 + 1, [.int .i64 0, .string (⟨#[]⟩ : ByteArray), .slice none 0 0], 41⟩, ⟨nx1, [.int .i64 x5, .string x6, .slice A2 x7.length kc2], 41⟩, ⟨nx3, [.int .i64 ((a0.getD (x9).toNat qz32).f0), .int .i64 ((a0.getD (x9).toNat qz32).f1), .int .i64 ((a0.getD (x9).toNat qz32).f2), .int .i64 ((a0.getD (x9).toNat qz32).f3), .int .u32 ((a0.getD (x9).toNat qz32).f4), .int .i64 ((a0.getD (x9).toNat qz32).f5.f0), .string ((a0.getD (x9).toNat qz32).f5.f1), .slice A1_5_2_ (((a0.getD (x9).toNat qz32).f5.f2).length) c1_5_2_], 43⟩]) [] (RFacts.nil _ _ _) 2 [.no, .no] (by kernel_rfl) (by kernel_rfl) ?_
                refine RL.cases ((mget t1 (2, 0, (a0.getD (x9).toNat qz32).f2, (a0.getD (x9).toNat qz32).f3)).isSome) (fun hb => ?_) (fun hb => ?_)
                · have hc := hb
                  refine RL.norm (K' := [(66, .bool true), (13, .int .u32 ((mget t1 (2, 0, (a0.getD (x9).toNat qz32).f2, (a0.getD (x9).toNat qz32).f3)).getD 0)), (1, .int .i64 a1), (5, .pointer (some ⟨nx0, 0, none⟩)), (6, .pointer (some ⟨nx0 + 1, 0, none⟩)), (8, .map (some g1)), (9, .int .i64 x8), (10, .pointer (some ⟨nx1, 0, none⟩)), (12, .pointer (some ⟨nx3, 0, none⟩)), (19, .slice Ap0 a0.length cp0), (20, .int .i64 (a0.length : Int)), (21, .int .i64 x9)]) (L' := [⟨nx0, [.int .i64 a2.f0, .int .i64 a2.f1], 109⟩, ⟨nx0 + 1, [.int .i64 0, .string (⟨#[]⟩ : ByteArray), .slice none 0 0], 41⟩, ⟨nx1, [.int .i64 x5, .string x6, .slice A2 x7.length kc2], 41⟩, ⟨nx3, [.int .i64 ((a0.getD (x9).toNat qz32).f0), .int .i64 ((a0.getD (x9).toNat qz32).f1), .int .i64 ((a0.getD (x9).toNat qz32).f2), .int .i64 ((a0.getD (x9).toNat qz32).f3), .int .u32 ((a0.getD (x9).toNat qz32).f4), .int .i64 ((a0.getD (x9).toNat qz32).f5.f0), .string ((a0.getD (x9).toNat qz32).f5.f1), .slice A1_5_2_ (((a0.getD (x9).toNat qz32).f5.f2).length) c1_5_2_], 43⟩]) (by rw [hb]; try rfl) rfl (by first | rfl | (rw [hb]; try rfl)) rfl ?_
                  rw [if_pos hc] at H; clear hb
                  refine RL.simP (K' := [(71, .bool (((mget t1 (2, 0, (a0.getD (x9).toNat qz32).f2, (a0.getD (x9).toNat qz32).f3)).getD 0) == ((a0.getD (x9).toNat qz32).f4))), (1, .int .i64 a1), (5, .pointer (some ⟨nx0, 0, none⟩)), (6, .pointer (some ⟨nx0 + 1, 0, none⟩)), (8, .map (some g1)), (9, .int .i64 x8), (10, .pointer (some ⟨nx1, 0, none⟩)), (12, .pointer (some ⟨nx3, 0, none⟩)), (19, .slice Ap0 a0.length cp0), (20, .int .i64 (a0.length : Int)), (21, .int .i64 x9)]) (nx' := nx5) (L' := [⟨nx0, [.int .i64 a2.f0, .int .i64 a2.f1], 109⟩, ⟨nx0 + 1, [.int .i64 0, .string (⟨#[]⟩ : ByteArray), .slice none 0 0], 41⟩, ⟨nx1, [.int .i64 x5, .string x6, .slice A2 x7.length kc2], 41⟩, ⟨nx3, [.int .i64 ((a0.getD (x9).toNat qz32).f0), .int .i64 ((a0.getD (x9).toNat qz32).f1), .int .i64 ((a0.getD (x9).toNat qz32).f2), .int .i64 ((a0.getD (x9).toNat qz32).f3), .int .u32 ((a0.getD (x9).toNat qz32).f4), .int .i64 ((a0.getD (x9).toNat qz32).f5.f0), .string ((a0.getD (x9).toNat qz32).f5.f1), .slice A1_5_2_ (((a0.getD (x9).toNat qz32).f5.f2).length) c1_5_2_], 43⟩]) [] (RFacts.nil _ _ _) 5 [.no, .no, .l 3, .no, .no] (by kernel_rfl) (by kernel_rfl) ?_
                  refine RL.nil (by kernel_rfl) ?_
                  obtain rfl := Option.some.inj H
                  refine QN.sub (K' := [(1, .int .i64 a1), (5, .pointer (some ⟨nx0, 0, none⟩)), (6, .pointer (some ⟨nx0 + 1, 0, none⟩)), (8, .map (some g1)), (9, .int .i64 x8), (10, .pointer (some ⟨nx1, 0, none⟩)), (12, .pointer (some ⟨nx3, 0, none⟩)), (19, .slice Ap0 a0.length cp0), (20, .int .i64 (a0.length : Int)), (21, .int .i64 x9), (71, .bool (((mget t1 (2, 0, (a0.getD (x9).toNat qz32).f2, (a0.getD (x9).toNat qz32).f3)).getD 0) == ((a0.getD (x9).toNat qz32).f4)))]) (L' := [⟨nx0, [.int .i64 a2.f0, .int .i64 a2.f1], 109⟩, ⟨nx0 + 1, [.int .i64 0, .string (⟨#[]⟩ : ByteArray), .slice none 0 0], 41⟩, ⟨nx1, [.int .i64 x5, .string x6, .slice A2 x7.length kc2], 41⟩, ⟨nx3, [.int .i64 ((a0.getD (x9).toNat qz32).f0), .int .i64 ((a0.getD (x9).toNat qz32).f1), .int .i64 ((a0.getD (x9).toNat qz32).f2), .int .i64 ((a0.getD (x9).toNat qz32).f3), .int .u32 ((a0.getD (x9).toNat qz32).f4), .int .i64 ((a0.getD (x9).toNat qz32).f5.f0), .string ((a0.getD (x9).toNat qz32).f5.f1), .slice A1_5_2_ (((a0.getD (x9).toNat qz32).f5.f2).length) c1_5_2_], 43⟩]) (by kernel_rfl) (.cons_cons _ (.cons_cons _ (.cons_cons _ (.cons_cons _ .slnil)))) (.refl _) ?_
                  exact hJ5 _ _ _ _ _ ⟨(((mget t1 (2, 0, (a0.getD (x9).toNat qz32).f2, (a0.getD (x9).toNat qz32).f3)).getD 0) == ((a0.getD (x9).toNat qz32).f4)), rfl, rfl, rfl, (Imm.le_refl _), HK4⟩
                · have hc := (Bool.eq_false_iff.1 hb)
                  refine RL.norm (K' := [(66, .bool false), (13, .int .u32 ((mget t1 (2, 0, (a0.getD (x9).toNat qz32).f2, (a0.getD (x9).toNat qz32).f3)).getD 0)), (1, .int .i64 a1), (5, .pointer (some ⟨nx0, 0, none⟩)), (6, .pointer (some ⟨nx0 + 1, 0, none⟩)), (8, .map (some g1)), (9, .int .i64 x8), (10, .pointer (some ⟨nx1, 0, none⟩)), (12, .pointer (some ⟨nx3, 0, none⟩)), (19, .slice Ap0 a0.length cp0), (20, .int .i64 (a0.length : Int)), (21, .int .i64 x9)]) (L' := [⟨nx0, [.int .i64 a2.f0, .int .i64 a2.f1], 109⟩, ⟨nx0 + 1, [.int .i64 0, .string (⟨#[]⟩ : ByteArray), .slice none 0 0], 41⟩, ⟨nx1, [.int .i64 x5, .string x6, .slice A2 x7.length kc2], 41⟩, ⟨nx3, [.int .i64 ((a0.getD (x9).toNat qz32).f0), .int .i64 ((a0.getD (x9).toNat qz32).f1), .int .i64 ((a0.getD (x9).toNat qz32).f2), .int .i64 ((a0.getD (x9).toNat qz32).f3), .int .u32 ((a0.getD (x9).toNat qz32).f4), .int .i64 ((a0.getD (x9).toNat qz32).f5.f0), .string ((a0.getD (x9).toNat qz32).f5.f1), .slice A1_5_2_ (((a0.getD (x9).toNat qz32).f5.f2).length) c1_5_2_], 43⟩]) (by rw [hb]; try rfl) rfl (by first | rfl | (rw [hb]; try rfl)) rfl ?_
                  rw [if_neg hc] at H; clear hb
                  refine RL.simP (K' := [(71, .bool false), (1, .int .i64 a1), (5, .pointer (some ⟨nx0, 0, none⟩)), (6, .pointer (some ⟨nx0 + 1, 0, none⟩)), (8, .map (some g1)), (9, .int .i64 x8), (10, .pointer (some ⟨nx1, 0, none⟩)), (12, .pointer (some ⟨nx3, 0, none⟩)), (19, .slice Ap0 a0.length cp0), (20, .int .i64 (a0.length : Int)), (21, .int .i64 x9)]) (nx' := nx5) (L' := [⟨nx0, [.int .i64 a2.f0, .int .i64 a2.f1], 109⟩, ⟨nx0 + 1, [.int .i64 0, .string (⟨#[]⟩ : ByteArray), .slice none 0 0], 41⟩, ⟨nx1, [.int .i64 x5, .string x6, .slice A2 x7.length kc2], 41⟩, ⟨nx3, [.int .i64 ((a0.getD (x9).toNat qz32).f0), .int .i64 ((a0.getD (x9).toNat qz32).f1), .int .i64 ((a0.getD (x9).toNat qz32).f2), .int .i64 ((a0.getD (x9).toNat qz32).f3), .int .u32 ((a0.getD (x9).toNat qz32).f4), .int .i64 ((a0.getD (x9).toNat qz32).f5.f0), .string ((a0.getD (x9).toNat qz32).f5.f1), .slice A1_5_2_ (((a0.getD (x9).toNat qz32).f5.f2).length) c1_5_2_], 43⟩]) [] (RFacts.nil _ _ _) 5 [.no, .no, .no, .no, .no] (by kernel_rfl) (by kernel_rfl) ?_
                  refine RL.nil (by kernel_rfl) ?_
                  obtain rfl := Option.some.inj H
                  refine QN.sub (K' := [(1, .int .i64 a1), (5, .pointer (some ⟨nx0, 0, none⟩)), (6, .pointer (some ⟨nx0 + 1, 0, none⟩)), (8, .map (some g1)), (9, .int .i64 x8), (10, .pointer (some ⟨nx1, 0, none⟩)), (12, .pointer (some ⟨nx3, 0, none⟩)), (19, .slice Ap0 a0.length cp0), (20, .int .i64 (a0.length : Int)), (21, .int .i64 x9), (71, .bool false)]) (L' := [⟨nx0, [.int .i64 a2.f0, .int .i64 a2.f1], 109⟩, ⟨nx0 + 1, [.int .i64 0, .string (⟨#[]⟩ : ByteArray), .slice none 0 0], 41⟩, ⟨nx1, [.int .i64 x5, .string x6, .slice A2 x7.length kc2], 41⟩, ⟨nx3, [.int .i64 ((a0.getD (x9).toNat qz32).f0), .int .i64 ((a0.getD (x9).toNat qz32).f1), .int .i64 ((a0.getD (x9).toNat qz32).f2), .int .i64 ((a0.getD (x9).toNat qz32).f3), .int .u32 ((a0.getD (x9).toNat qz32).f4), .int .i64 ((a0.getD (x9).toNat qz32).f5.f0), .string ((a0.getD (x9).toNat qz32).f5.f1), .slice A1_5_2_ (((a0.getD (x9).toNat qz32).f5.f2).length) c1_5_2_], 43⟩]) (by kernel_rfl) (.cons_cons _ (.cons_cons _ (.cons_cons _ (.cons_cons _ .slnil)))) (.refl _) ?_
                  exact hJ5 _ _ _ _ _ ⟨false, rfl, rfl, rfl, (Imm.le_refl _), HK4⟩
          · intro Q_5 hJ4 hQ4
            obtain ⟨y3, H, HK3⟩ := Option.bind_eq_some_iff.mp H
            refine OK.region 6 O18_29 (by kernel_rfl) ?_
            refine RL.simP (K' := [(28, .bool (((a0.getD (x9).toNat qz32).f0) != 1)), (12, .pointer (some ⟨nx3, 0, none⟩)), (1, .int .i64 a1), (5, .pointer (some ⟨nx0, 0, none⟩)), (6, .pointer (some ⟨nx0 + 1, 0, none⟩)), (8, .map (some g1)), (9, .int .i64 x8), (10, .pointer (some ⟨nx1, 0, none⟩)), (19, .slice Ap0 a0.length cp0), (20, .int .i64 (a0.length : Int)), (21, .int .i64 x9)]) (nx' := nx3 + 1) (L' := [⟨nx0, [.int .i64 a2.f0, .int .i64 a2.f1], 109⟩, ⟨nx0 + 1, [.int .i64 0, .string (⟨#[]⟩ : ByteArray), .slice none 0 0], 41⟩, ⟨nx1, [.int .i64 x5, .string x6, .slice A2 x7.length kc2], 41⟩, ⟨nx3, [.int .i64 ((a0.getD (x9).toNat qz32).f0), .int .i64 ((a0.getD (x9).toNat qz32).f1), .int .i64 ((a0.getD (x9).toNat qz32).f2), .int .i64 ((a0.getD (x9).toNat qz32).f3), .int .u32 ((a0.getD (x9).toNat qz32).f4), .int .i64 ((a0.getD (x9).toNat qz32).f5.f0), .string ((a0.getD (x9).toNat qz32).f5.f1), .slice A1_5_2_ (((a0.getD (x9).toNat qz32).f5.f2).length) c1_5_2_], 43⟩]) [] (RFacts.nil _ _ _) 4 [.no, .l 3, .no, .no] (by kernel_rfl) (by kernel_rfl) ?_
            refine RL.cases (((a0.getD (x9).toNat qz32).f0) != 1) (fun hb => ?_) (fun hb => ?_)
            · have hc := (bne_iff_ne.1 hb)
              refine RL.norm (K' := [(28, .bool true), (12, .pointer (some ⟨nx3, 0, none⟩)), (1, .int .i64 a1), (5, .pointer (some ⟨nx0, 0, none⟩)), (6, .pointer (some ⟨nx0 + 1, 0, none⟩)), (8, .map (some g1)), (9, .int .i64 x8), (10, .pointer (some ⟨nx1, 0, none⟩)), (19, .slice Ap0 a0.length cp0), (20, .int .i64 (a0.length : Int)), (21, .int .i64 x9)]) (L' := [⟨nx0, [.int .i64 a2.f0, .int .i64 a2.f1], 109⟩, ⟨nx0 + 1, [.int .i64 0, .string (⟨#[]⟩ : ByteArray), .slice none 0 0], 41⟩, ⟨nx1, [.int .i64 x5, .string x6, .slice A2 x7.length kc2], 41⟩, ⟨nx3, [.int .i64 ((a0.getD (x9).toNat qz32).f0), .int .i64 ((a0.getD (x9).toNat qz32).f1), .int .i64 ((a0.getD (x9).toNat qz32).f2), .int .i64 ((a0.getD (x9).toNat qz32).f3), .int .u32 ((a0.getD (x9).toNat qz32).f4), .int .i64 ((a0.getD (x9).toNat qz32).f5.f0), .string ((a0.getD (x9).toNat qz32).f5.f1), .slice A1_5_2_ (((a0.getD (x9).toNat qz32).f5.f2).length) c1_5_2_], 43⟩]) (by rw [hb]; try rfl) rfl (by first | rfl | (rw [hb]; try rfl)) rfl ?_
              rw [if_pos hc] at H; clear hb
              refine RL.simP (K' := [(53, .bool true), (12, .pointer (some ⟨nx3, 0, none⟩)), (1, .int .i64 a1), (5, .pointer (some ⟨nx0, 0, none⟩)), (6, .pointer (some ⟨nx0 + 1, 0, none⟩)), (8, .map (some g1)), (9, .int .i64 x8), (10, .pointer (some ⟨nx1, 0, none⟩)), (19, .slice Ap0 a0.length cp0), (20, .int .i64 (a0.length : Int)), (21, .int .i64 x9)]) (nx' := nx3 + 1) (L' := [⟨nx0, [.int .i64 a2.f0, .int .i64 a2.f1], 109⟩, ⟨nx0 + 1, [.int .i64 0, .string (⟨#[]⟩ : ByteArray), .slice none 0 0], 41⟩, ⟨nx1, [.int .i64 x5, .string x6, .slice A2 x7.length kc2], 41⟩, ⟨nx3, [.int .i64 ((a0.getD (x9).toNat qz32).f0), .int .i64 ((a0.getD (x9).toNat qz32).f1), .int .i64 ((a0.getD (x9).toNat qz32).f2), .int .i64 ((a0.getD (x9).toNat qz32).f3), .int .u32 ((a0.getD (x9).toNat qz32).f4), .int .i64 ((a0.getD (x9).toNat qz32).f5.f0), .string ((a0.getD (x9).toNat qz32).f5.f1), .slice A1_5_2_ (((a0.getD (x9).toNat qz32).f5.f2).length) c1_5_2_], 43⟩]) [] (RFacts.nil _ _ _) 25 [.no, .no, .no, .no, .no, .no, .no, .no, .no, .no, .no, .no, .no, .no, .no, .no, .no, .no, .no, .no, .no, .no, .no, .no, .no] (by kernel_rfl) (by kernel_rfl) ?_
              refine RL.nil (by kernel_rfl) ?_
              obtain rfl := Option.some.inj H
              refine QN.sub (K' := [(1, .int .i64 a1), (5, .pointer (some ⟨nx0, 0, none⟩)), (6, .pointer (some ⟨nx0 + 1, 0, none⟩)), (8, .map (some g1)), (9, .int .i64 x8), (10, .pointer (some ⟨nx1, 0, none⟩)), (12, .pointer (some ⟨nx3, 0, none⟩)), (19, .slice Ap0 a0.length cp0), (20, .int .i64 (a0.length : Int)), (21, .int .i64 x9), (53, .bool true)]) (L' := [⟨nx0, [.int .i64 a2.f0, .int .i64 a2.f1], 109⟩, ⟨nx0 + 1, [.int .i64 0, .string (⟨#[]⟩ : ByteArray), .slice none 0 0], 41⟩, ⟨nx1, [.int .i64 x5, .string x6, .slice A2 x7.length kc2], 41⟩, ⟨nx3, [.int .i64 ((a0.getD (x9).toNat qz32).f0), .int .i64 ((a0.getD (x9).toNat qz32).f1), .int .i64 ((a0.getD (x9).toNat qz32).f2), .int .i64 ((a0.getD (x9).toNat qz32).f3), .int .u32 ((a0.getD (x9).toNat qz32).f4), .int .i64 ((a0.getD (x9).toNat qz32).f5.f0), .string ((a0.getD (x9).toNat qz32).f5.f1), .slice A1_5_2_ (((a0.getD (x9).toNat qz32).f5.f2).length) c1_5_2_], 43⟩]) (by kernel_rfl) (.cons_cons _ (.cons_cons _ (.cons_cons _ (.cons_cons _ .slnil)))) (.refl _) ?_
              exact hJ4 _ _ _ _ _ ⟨true, rfl, rfl, rfl, (Imm.le_refl _), HK3⟩
            · have hc := (not_not_intro (bne_eq_false_iff_eq.1 hb))
              refine RL.norm (K' := [(28, .bool false), (12, .pointer (some ⟨nx3, 0, none⟩)), (1, .int .i64 a1), (5, .pointer (some ⟨nx0, 0, none⟩)), (6, .pointer (some ⟨nx0 + 1, 0, none⟩)), (8, .map (some g1)), (9, .int .i64 x8), (10, .pointer (some ⟨nx1, 0, none⟩)), (19, .slice Ap0 a0.length cp0), (20, .int .i64 (a0.length : Int)), (21, .int .i64 x9)]) (L' := [⟨nx0, [.int .i64 a2.f0, .int .i64 a2.f1], 109⟩, ⟨nx0 + 1, [.int .i64 0, .string (⟨#[]⟩ : ByteArray), .slice none 0 0], 41⟩, ⟨nx1, [.int .i64 x5, .string x6, .slice A2 x7.length kc2], 41⟩, ⟨nx3, [.int .i64 ((a0.getD (x9).toNat qz32).f0), .int .i64 ((a0.getD (x9).toNat qz32).f1), .int .i64 ((a0.getD (x9).toNat qz32).f2), .int .i64 ((a0.getD (x9).toNat qz32).f3), .int .u32 ((a0.getD (x9).toNat qz32).f4), .int .i64 ((a0.getD (x9).toNat qz32).f5.f0), .string ((a0.getD (x9).toNat qz32).f5.f1), .slice A1_5_2_ (((a0.getD (x9).toNat qz32).f5.f2).length) c1_5_2_], 43⟩]) (by rw [hb]; try rfl) rfl (by first | rfl | (rw [hb]; try rfl)) rfl ?_
              rw [if_neg hc] at H; clear hb
              refine RL.simP (K' := [(35, .bool (((a0.getD (x9).toNat qz32).f3) != a2.f1)), (12, .pointer (some ⟨nx3, 0, none⟩)), (1, .int .i64 a1), (5, .pointer (some ⟨nx0, 0, none⟩)), (6, .pointer (some ⟨nx0 + 1, 0, none⟩)), (8, .map (some g1)), (9, .int .i64 x8), (10, .pointer (some ⟨nx1, 0, none⟩)), (19, .slice Ap0 a0.length cp0), (20, .int .i64 (a0.length : Int)), (21, .int .i64 x9)]) (nx' := nx3 + 1) (L' := [⟨nx0, [.int .i64 a2.f0, .int .i64 a2.f1], 109⟩, ⟨nx0 + 1, [.int .i64 0, .string (⟨#[]⟩ : ByteArray), .slice none 0 0], 41⟩, ⟨nx1, [.int .i64 x5, .string x6, .slice A2 x7.length kc2], 41⟩, ⟨nx3, [.int .i64 ((a0.getD (x9).toNat qz32).f0), .int .i64 ((a0.getD (x9).toNat qz32).f1), .int .i64 ((a0.getD (x9).toNat qz32).f2), .int .i64 ((a0.getD (x9).toNat qz32).f3), .int .u32 ((a0.getD (x9).toNat qz32).f4), .int .i64 ((a0.getD (x9).toNat qz32).f5.f0), .string ((a0.getD (x9).toNat qz32).f5.f1), .slice A1_5_2_ (((a0.getD (x9).toNat qz32).f5.f2).length) c1_5_2_], 43⟩]) [] (RFacts.nil _ _ _) 7 [.no, .l 3, .no, .l 0, .no, .no, .no] (by kernel_rfl) (by kernel_rfl) ?_
              refine RL.cases (((a0.getD (x9).toNat qz32).f3) != a2.f1) (fun hb => ?_) (fun hb => ?_)
              · have hc := (bne_iff_ne.1 hb)
                refine RL.norm (K' := [(35, .bool true), (12, .pointer (some ⟨nx3, 0, none⟩)), (1, .int .i64 a1), (5, .pointer (some ⟨nx0, 0, none⟩)), (6, .pointer (some ⟨nx0 + 1, 0, none⟩)), (8, .map (some g1)), (9, .int .i64 x8), (10, .pointer (some ⟨nx1, 0, none⟩)), (19, .slice Ap0 a0.length cp0), (20, .int .i64 (a0.length : Int)), (21, .int .i64 x9)]) (L' := [⟨nx0, [.int .i64 a2.f0, .int .i64 a2.f1], 109⟩, ⟨nx0 + 1, [.int .i64 0, .string (⟨#[]⟩ : ByteArray), .slice none 0 0], 41⟩, ⟨nx1, [.int .i64 x5, .string x6, .slice A2 x7.length kc2], 41⟩, ⟨nx3, [.int .i64 ((a0.getD (x9).toNat qz32).f0), .int .i64 ((a0.getD (x9).toNat qz32).f1), .int .i64 ((a0.getD (x9).toNat qz32).f2), .int .i64 ((a0.getD (x9).toNat qz32).f3), .int .u32 ((a0.getD (x9).toNat qz32).f4), .int .i64 ((a0.getD (x9).toNat qz32).f5.f0), .string ((a0.getD (x9).toNat qz32).f5.f1), .slice A1_5_2_ (((a0.getD (x9).toNat qz32).f5.f2).length) c1_5_2_], 43⟩]) (by rw [hb]; try rfl) rfl (by first | rfl | (rw [hb]; try rfl)) rfl ?_
                rw [if_pos hc] at H; clear hb
                refine RL.simP (K' := [(53, .bool true), (12, .pointer (some ⟨nx3, 0, none⟩)), (1, .int .i64 a1), (5, .pointer (some ⟨nx0, 0, none⟩)), (6, .pointer (some ⟨nx0 + 1, 0, none⟩)), (8, .map (some g1)), (9, .int .i64 x8), (10, .pointer (some ⟨nx1, 0, none⟩)), (19, .slice Ap0 a0.length cp0), (20, .int .i64 (a0.length : Int)), (21, .int .i64 x9)]) (nx' := nx3 + 1) (L' := [⟨nx0, [.int .i64 a2.f0, .int .i64 a2.f1], 109⟩, ⟨nx0 + 1, [.int .i64 0, .string (⟨#[]⟩ : ByteArray), .slice none 0 0], 41⟩, ⟨nx1, [.int .i64 x5, .string x6, .slice A2 x7.length kc2], 41⟩, ⟨nx3, [.int .i64 ((a0.getD (x9).toNat qz32).f0), .int .i64 ((a0.getD (x9).toNat qz32).f1), .int .i64 ((a0.getD (x9).toNat qz32).f2), .int .i64 ((a0.getD (x9).toNat qz32).f3), .int .u32 ((a0.getD (x9).toNat qz32).f4), .int .i64 ((a0.getD (x9).toNat qz32).f5.f0), .string ((a0.getD (x9).toNat qz32).f5.f1), .slice A1_5_2_ (((a0.getD (x9).toNat qz32).f5.f2).length) c1_5_2_], 43⟩]) [] (RFacts.nil _ _ _) 18 [.no, .no, .no, .no, .no, .no, .no, .no, .no, .no, .no, .no, .no, .no, .no, .no, .no, .no] (by kernel_rfl) (by kernel_rfl) ?_
                refine RL.nil (by kernel_rfl) ?_
                obtain rfl := Option.some.inj H
                refine QN.sub (K' := [(1, .int .i64 a1), (5, .pointer (some ⟨nx0, 0, none⟩)), (6, .pointer (some ⟨nx0 + 1, 0, none⟩)), (8, .map (some g1)), (9, .int .i64 x8), (10, .pointer (some ⟨nx1, 0, none⟩)), (12, .pointer (some ⟨nx3, 0, none⟩)), (19, .slice Ap0 a0.length cp0), (20, .int .i64 (a0.length : Int)), (21, .int .i64 x9), (53, .bool true)]) (L' := [⟨nx0, [.int .i64 a2.f0, .int .i64 a2.f1], 109⟩, ⟨nx0 + 1, [.int .i64 0, .string (⟨#[]⟩ : ByteArray), .slice none 0 0], 41⟩, ⟨nx1, [.int .i64 x5, .string x6, .slice A2 x7.length kc2], 41⟩, ⟨nx3, [.int .i64 ((a0.getD (x9).toNat qz32).f0), .int .i64 ((a0.getD (x9).toNat qz32).f1), .int .i64 ((a0.getD (x9).toNat qz32).f2), .int .i64 ((a0.getD (x9).toNat qz32).f3), .int .u32 ((a0.getD (x9).toNat qz32).f4), .int .i64 ((a0.getD (x9).toNat qz32).f5.f0), .string ((a0.getD (x9).toNat qz32).f5.f1), .slice A1_5_2_ (((a0.getD (x9).toNat qz32).f5.f2).length) c1_5_2_], 43⟩]) (by kernel_rfl) (.cons_cons _ (.cons_cons _ (.cons_cons _ (.cons_cons _ .slnil)))) (.refl _) ?_
                exact hJ4 _ _ _ _ _ ⟨true, rfl, rfl, rfl, (Imm.le_refl _), HK3⟩
              · have hc := (not_not_intro (bne_eq_false_iff_eq.1 hb))
                refine RL.norm (K' := [(35, .bool false), (12, .pointer (some ⟨nx3, 0, none⟩)), (1, .int .i64 a1), (5, .pointer (some ⟨nx0, 0, none⟩)), (6, .pointer (some ⟨nx0 + 1, 0, none⟩)), (8, .map (some g1)), (9, .int .i64 x8), (10, .pointer (some ⟨nx1, 0, none⟩)), (19, .slice Ap0 a0.length cp0), (20, .int .i64 (a0.length : Int)), (21, .int .i64 x9)]) (L' := [⟨nx0, [.int .i64 a2.f0, .int .i64 a2.f1], 109⟩, ⟨nx0 + 1, [.int .i64 0, .string (⟨#[]⟩ : ByteArray), .slice none 0 0], 41⟩, ⟨nx1, [.int .i64 x5, .string x6, .slice A2 x7.length kc2], 41⟩, ⟨nx3, [.int .i64 ((a0.getD (x9).toNat qz32).f0), .int .i64 ((a0.getD (x9).toNat qz32).f1), .int .i64 ((a0.getD (x9).toNat qz32).f2), .int .i64 ((a0.getD (x9).toNat qz32).f3), .int .u32 ((a0.getD (x9).toNat qz32).f4), .int .i64 ((a0.getD (x9).toNat qz32).f5.f0), .string ((a0.getD (x9).toNat qz32).f5.f1), .slice A1_5_2_ (((a0.getD (x9).toNat qz32).f5.f2).length) c1_5_2_], 43⟩]) (by rw [hb]; try rfl) rfl (by first | rfl | (rw [hb]; try rfl)) rfl ?_
                rw [if_neg hc] at H; clear hb
                refine RL.simP (K' := [(42, .bool (decide (((a0.getD (x9).toNat qz32).f2) ≥ a2.f0))), (12, .pointer (some ⟨nx3, 0, none⟩)), (1, .int .i64 a1), (5, .pointer (some ⟨nx0, 0, none⟩)), (6, .pointer (some ⟨nx0 + 1, 0, none⟩)), (8, .map (some g1)), (9, .int .i64 x8), (10, .pointer (some ⟨nx1, 0, none⟩)), (19, .slice Ap0 a0.length cp0), (20, .int .i64 (a0.length : Int)), (21, .int .i64 x9)]) (nx' := nx3 + 1) (L' := [⟨nx0, [.int .i64 a2.f0, .int .i64 a2.f1], 109⟩, ⟨nx0 + 1, [.int .i64 0, .string (⟨#[]⟩ : ByteArray), .slice none 0 0], 41⟩, ⟨nx1, [.int .i64 x5, .string x6, .slice A2 x7.length kc2], 41⟩, ⟨nx3, [.int .i64 ((a0.getD (x9).toNat qz32).f0), .int .i64 ((a0.getD (x9).toNat qz32).f1), .int .i64 ((a0.getD (x9).toNat qz32).f2), .int .i64 ((a0.getD (x9).toNat qz32).f3), .int .u32 ((a0.getD (x9).toNat qz32).f4), .int .i64 ((a0.getD (x9).toNat qz32).f5.f0), .string ((a0.getD (x9).toNat qz32).f5.f1), .slice A1_5_2_ (((a0.getD (x9).toNat qz32).f5.f2).length) c1_5_2_], 43⟩]) [] (RFacts.nil _ _ _) 7 [.no, .l 3, .no, .l 0, .no, .no, .no] (by kernel_rfl) (by kernel_rfl) ?_
                refine RL.cases (decide (((a0.getD (x9).toNat qz32).f2) ≥ a2.f0)) (fun hb => ?_) (fun hb => ?_)
                · have hc := (of_decide_eq_true hb)
                  refine RL.norm (K' := [(42, .bool true), (12, .pointer (some ⟨nx3, 0, none⟩)), (1, .int .i64 a1), (5, .pointer (some ⟨nx0, 0, none⟩)), (6, .pointer (some ⟨nx0 + 1, 0, none⟩)), (8, .map (some g1)), (9, .int .i64 x8), (10, .pointer (some ⟨nx1, 0, none⟩)), (19, .slice Ap0 a0.length cp0), (20, .int .i64 (a0.length : Int)), (21, .int .i64 x9)]) (L' := [⟨nx0, [.int .i64 a2.f0, .int .i64 a2.f1], 109⟩, ⟨nx0 + 1, [.int .i64 0, .string (⟨#[]⟩ : ByteArray), .slice none 0 0], 41⟩, ⟨nx1, [.int .i64 x5, .string x6, .slice A2 x7.length kc2], 41⟩, ⟨nx3, [.int .i64 ((a0.getD (x9).toNat qz32).f0), .int .i64 ((a0.getD (x9).toNat qz32).f1), .int .i64 ((a0.getD (x9).toNat qz32).f2), .int .i64 ((a0.getD (x9).toNat qz32).f3), .int .u32 ((a0.getD (x9).toNat qz32).f4), .int .i64 ((a0.getD (x9).toNat qz32).f5.f0), .string ((a0.getD (x9).toNat qz32).f5.f1), .slice A1_5_2_ (((a0.getD (x9).toNat qz32).f5.f2).length) c1_5_2_], 43⟩]) (by rw [hb]; try rfl) rfl (by first | rfl | (rw [hb]; try rfl)) rfl ?_
                  rw [if_pos hc] at H; clear hb
                  refine RL.simP (K' := [(53, .bool true), (12, .pointer (some ⟨nx3, 0, none⟩)), (1, .int .i64 a1), (5, .pointer (some ⟨nx0, 0, none⟩)), (6, .pointer (some ⟨nx0 + 1, 0, none⟩)), (8, .map (some g1)), (9, .int .i64 x8), (10, .pointer (some ⟨nx1, 0, none⟩)), (19, .slice Ap0 a0.length cp0), (20, .int .i64 (a0.length : Int)), (21, .int .i64 x9)]) (nx' := nx3 + 1) (L' := [⟨nx0, [.int .i64 a2.f0, .int .i64 a2.f1], 109⟩, ⟨nx0 + 1, [.int .i64 0, .string (⟨#[]⟩ : ByteArray), .slice none 0 0], 41⟩, ⟨nx1, [.int .i64 x5, .string x6, .slice A2 x7.length kc2], 41⟩, ⟨nx3, [.int .i64 ((a0.getD (x9).toNat qz32).f0), .int .i64 ((a0.getD (x9).toNat qz32).f1), .int .i64 ((a0.getD (x9).toNat qz32).f2), .int .i64 ((a0.getD (x9).toNat qz32).f3), .int .u32 ((a0.getD (x9).toNat qz32).f4), .int .i64 ((a0.getD (x9).toNat qz32).f5.f0), .string ((a0.getD (x9).toNat qz32).f5.f1), .slice A1_5_2_ (((a0.getD (x9).toNat qz32).f5.f2).length) c1_5_2_], 43⟩]) [] (RFacts.nil _ _ _) 11 [.no, .no, .no, .no, .no, .no, .no, .no, .no, .no, .no] (by kernel_rfl) (by kernel_rfl) ?_
                  refine RL.nil (by kernel_rfl) ?_
                  obtain rfl := Option.some.inj H
                  refine QN.sub (K' := [(1, .int .i64 a1), (5, .pointer (some ⟨nx0, 0, none⟩)), (6, .pointer (some ⟨nx0 + 1, 0, none⟩)), (8, .map (some g1)), (9, .int .i64 x8), (10, .pointer (some ⟨nx1, 0, none⟩)), (12, .pointer (some ⟨nx3, 0, none⟩)), (19, .slice Ap0 a0.length cp0), (20, .int .i64 (a0.length : Int)), (21, .int .i64 x9), (53, .bool true)]) (L' := [⟨nx0, [.int .i64 a2.f0, .int .i64 a2.f1], 109⟩, ⟨nx0 + 1, [.int .i64 0, .string (⟨#[]⟩ : ByteArray), .slice none 0 0], 41⟩, ⟨nx1, [.int .i64 x5, .string x6, .slice A2 x7.length kc2], 41⟩, ⟨nx3, [.int .i64 ((a0.getD (x9).toNat qz32).f0), .int .i64 ((a0.getD (x9).toNat qz32).f1), .int .i64 ((a0.getD (x9).toNat qz32).f2), .int .i64 ((a0.getD (x9).toNat qz32).f3), .int .u32 ((a0.getD (x9).toNat qz32).f4), .int .i64 ((a0.getD (x9).toNat qz32).f5.f0), .string ((a0.getD (x9).toNat qz32).f5.f1), .slice A1_5_2_ (((a0.getD (x9).toNat qz32).f5.f2).length) c1_5_2_], 43⟩]) (by kernel_rfl) (.cons_cons _ (.cons_cons _ (.cons_cons _ (.cons_cons _ .slnil)))) (.refl _) ?_
                  exact hJ4 _ _ _ _ _ ⟨true, rfl, rfl, rfl, (Imm.le_refl _), HK3⟩
                · have hc := (of_decide_eq_false hb)
                  refine RL.norm (K' := [(42, .bool false), (12, .pointer (some ⟨nx3, 0, none⟩)), (1, .int .i64 a1), (5, .pointer (some ⟨nx0, 0, none⟩)), (6, .pointer (some ⟨nx0 + 1, 0, none⟩)), (8, .map (some g1)), (9, .int .i64 x8), (10, .pointer (some ⟨nx1, 0, none⟩)), (19, .slice Ap0 a0.length cp0), (20, .int .i64 (a0.length : Int)), (21, .int .i64 x9)]) (L' := [⟨nx0, [.int .i64 a2.f0, .int .i64 a2.f1], 109⟩, ⟨nx0 + 1, [.int .i64 0, .string (⟨#[]⟩ : ByteArray), .slice none 0 0], 41⟩, ⟨nx1, [.int .i64 x5, .string x6, .slice A2 x7.length kc2], 41⟩, ⟨nx3, [.int .i64 ((a0.getD (x9).toNat qz32).f0), .int .i64 ((a0.getD (x9).toNat qz32).f1), .int .i64 ((a0.getD (x9).toNat qz32).f2), .int .i64 ((a0.getD (x9).toNat qz32).f3), .int .u32 ((a0.getD (x9).toNat qz32).f4), .int .i64 ((a0.getD (x9).toNat qz32).f5.f0), .string ((a0.getD (x9).toNat qz32).f5.f1), .slice A1_5_2_ (((a0.getD (x9).toNat qz32).f5.f2).length) c1_5_2_], 43⟩]) (by rw [hb]; try rfl) rfl (by first | rfl | (rw [hb]; try rfl)) rfl ?_
                  rw [if_neg hc] at H; clear hb
                  refine RL.simP (K' := [(48, .bool (decide (((a0.getD (x9).toNat qz32).f2) ≤ x8))), (12, .pointer (some ⟨nx3, 0, none⟩)), (1, .int .i64 a1), (5, .pointer (some ⟨nx0, 0, none⟩)), (6, .pointer (some ⟨nx0 + 1, 0, none⟩)), (8, .map (some g1)), (9, .int .i64 x8), (10, .pointer (some ⟨nx1, 0, none⟩)), (19, .slice Ap0 a0.length cp0), (20, .int .i64 (a0.length : Int)), (21, .int .i64 x9)]) (nx' := nx3 + 1) (L' := [⟨nx0, [.int .i64 a2.f0, .int .i64 a2.f1], 109⟩, ⟨nx0 + 1, [.int .i64 0, .string (⟨#[]⟩ : ByteArray), .slice none 0 0], 41⟩, ⟨nx1, [.int .i64 x5, .string x6, .slice A2 x7.length kc2], 41⟩, ⟨nx3, [.int .i64 ((a0.getD (x9).toNat qz32).f0), .int .i64 ((a0.getD (x9).toNat qz32).f1), .int .i64 ((a0.getD (x9).toNat qz32).f2), .int .i64 ((a0.getD (x9).toNat qz32).f3), .int .u32 ((a0.getD (x9).toNat qz32).f4), .int .i64 ((a0.getD (x9).toNat qz32).f5.f0), .string ((a0.getD (x9).toNat qz32).f5.f1), .slice A1_5_2_ (((a0.getD (x9).toNat qz32).f5.f2).length) c1_5_2_], 43⟩]) [] (RFacts.nil _ _ _) 6 [.no, .l 3, .no, .no, .no, .no] (by kernel_rfl) (by kernel_rfl) ?_
                  refine RL.cases (decide (((a0.getD (x9).toNat qz32).f2) ≤ x8)) (fun hb => ?_) (fun hb => ?_)
                  · have hc := (of_decide_eq_true hb)
                    refine RL.norm (K' := [(48, .bool true), (12, .pointer (some ⟨nx3, 0, none⟩)), (1, .int .i64 a1), (5, .pointer (some ⟨nx0, 0, none⟩)), (6, .pointer (some ⟨nx0 + 1, 0, none⟩)), (8, .map (some g1)), (9, .int .i64 x8), (10, .pointer (some ⟨nx1, 0, none⟩)), (19, .slice Ap0 a0.length cp0), (20, .int .i64 (a0.length : Int)), (21, .int .i64 x9)]) (L' := [⟨nx0, [.int .i64 a2.f0, .int .i64 a2.f1], 109⟩, ⟨nx0 + 1, [.int .i64 0, .string (⟨#[]⟩ : ByteArray), .slice none 0 0], 41⟩, ⟨nx1, [.int .i64 x5, .string x6, .slice A2 x7.length kc2], 41⟩, ⟨nx3, [.int .i64 ((a0.getD (x9).toNat qz32).f0), .int .i64 ((a0.getD (x9).toNat qz32).f1), .int .i64 ((a0.getD (x9).toNat qz32).f2), .int .i64 ((a0.getD (x9).toNat qz32).f3), .int .u32 ((a0.getD (x9).toNat qz32).f4), .int .i64 ((a0.getD (x9).toNat qz32).f5.f0), .string ((a0.getD (x9).toNat qz32).f5.f1), .slice A1_5_2_ (((a0.getD (x9).toNat qz32).f5.f2).length) c1_5_2_], 43⟩]) (by rw [hb]; try rfl) rfl (by first | rfl | (rw [hb]; try rfl)) rfl ?_
                    rw [if_pos hc] at H; clear hb
                    refine RL.simP (K' := [(53, .bool true), (12, .pointer (some ⟨nx3, 0, none⟩)), (1, .int .i64 a1), (5, .pointer (some ⟨nx0, 0, none⟩)), (6, .pointer (some ⟨nx0 + 1, 0, none⟩)), (8, .map (some g1)), (9, .int .i64 x8), (10, .pointer (some ⟨nx1, 0, none⟩)), (19, .slice Ap0 a0.length cp0), (20, .int .i64 (a0.length : Int)), (21, .int .i64 x9)]) (nx' := nx3 + 1) (L' := [⟨nx0, [.int .i64 a2.f0, .int .i64 a2.f1], 109⟩, ⟨nx0 + 1, [.int .i64 0, .string (⟨#[]⟩ : ByteArray), .slice none 0 0], 41⟩, ⟨nx1, [.int .i64 x5, .string x6, .slice A2 x7.length kc2], 41⟩, ⟨nx3, [.int .i64 ((a0.getD (x9).toNat qz32).f0), .int .i64 ((a0.getD (x9).toNat qz32).f1), .int .i64 ((a0.getD (x9).toNat qz32).f2), .int .i64 ((a0.getD (x9).toNat qz32).f3), .int .u32 ((a0.getD (x9).toNat qz32).f4), .int .i64 ((a0.getD (x9).toNat qz32).f5.f0), .string ((a0.getD (x9).toNat qz32).f5.f1), .slice A1_5_2_ (((a0.getD (x9).toNat qz32).f5.f2).length) c1_5_2_], 43⟩]) [] (RFacts.nil _ _ _) 5 [.no, .no, .no, .no, .no] (by kernel_rfl) (by kernel_rfl) ?_
                    refine RL.nil (by kernel_rfl) ?_
                    obtain rfl := Option.some.inj H
                    refine QN.sub (K' := [(1, .int .i64 a1), (5, .pointer (some ⟨nx0, 0, none⟩)), (6, .pointer (some ⟨nx0 + 1, 0, none⟩)), (8, .map (some g1)), (9, .int .i64 x8), (10, .pointer (some ⟨nx1, 0, none⟩)), (12, .pointer (some ⟨nx3, 0, none⟩)), (19, .slice Ap0 a0.length cp0), (20, .int .i64 (a0.length : Int)), (21, .int .i64 x9), (53, .bool true)]) (L' := [⟨nx0, [.int .i64 a2.f0, .int .i64 a2.f1], 109⟩, ⟨nx0 + 1, [.int .i64 0, .string (⟨#[]⟩ : ByteArray), .slice none 0 0], 41⟩, ⟨nx1, [.int .i64 x5, .string x6, .slice A2 x7.length kc2], 41⟩, ⟨nx3, [.int .i64 ((a0.getD (x9).toNat qz32).f0), .int .i64 ((a0.getD (x9).toNat qz32).f1), .int .i64 ((a0.getD (x9).toNat qz32).f2), .int .i64 ((a0.getD (x9).toNat qz32).f3), .int .u32 ((a0.getD (x9).toNat qz32).f4), .int .i64 ((a0.getD (x9).toNat qz32).f5.f0), .string ((a0.getD (x9).toNat qz32).f5.f1), .slice A1_5_2_ (((a0.getD (x9).toNat qz32).f5.f2).length) c1_5_2_], 43⟩]) (by kernel_rfl) (.cons_cons _ (.cons_cons _ (.cons_cons _ (.cons_cons _ .slnil)))) (.refl _) ?_
                    exact hJ4 _ _ _ _ _ ⟨true, rfl, rfl, rfl, (Imm.le_refl _), HK3⟩
                  · have hc := (of_decide_eq_false hb)
                    refine RL.norm (K' := [(48, .bool false), (12, .pointer (some ⟨nx3, 0, none⟩)), (1, .int .i64 a1), (5, .pointer (some ⟨nx0, 0, none⟩)), (6, .pointer (some ⟨nx0 + 1, 0, none⟩)), (8, .map (some g1)), (9, .int .i64 x8), (10, .pointer (some ⟨nx1, 0, none⟩)), (19, .slice Ap0 a0.length cp0), (20, .int .i64 (a0.length : Int)), (21, .int .i64 x9)]) (L' := [⟨nx0, [.int .i64 a2.f0, .int .i64 a2.f1], 109⟩, ⟨nx0 + 1, [.int .i64 0, .string (⟨#[]⟩ : ByteArray), .slice none 0 0], 41⟩, ⟨nx1, [.int .i64 x5, .string x6, .slice A2 x7.length kc2], 41⟩, ⟨nx3, [.int .i64 ((a0.getD (x9).toNat qz32).f0), .int .i64 ((a0.getD (x9).toNat qz32).f1), .int .i64 ((a0.getD (x9).toNat qz32).f2), .int .i64 ((a0.getD (x9).toNat qz32).f3), .int .u32 ((a0.getD (x9).toNat qz32).f4), .int .i64 ((a0.getD (x9).toNat qz32).f5.f0), .string ((a0.getD (x9).toNat qz32).f5.f1), .slice A1_5_2_ (((a0.getD (x9).toNat qz32).f5.f2).length) c1_5_2_], 43⟩]) (by rw [hb]; try rfl) rfl (by first | rfl | (rw [hb]; try rfl)) rfl ?_
                    rw [if_neg hc] at H; clear hb
                    refine RL.simP (K' := [(50, .int .i64 a1), (49, .agg #[.int .i64 ((a0.getD (x9).toNat qz32).f0), .int .i64 ((a0.getD (x9).toNat qz32).f1), .int .i64 ((a0.getD (x9).toNat qz32).f2), .int .i64 ((a0.getD (x9).toNat qz32).f3), .int .u32 ((a0.getD (x9).toNat qz32).f4), .int .i64 ((a0.getD (x9).toNat qz32).f5.f0), .string ((a0.getD (x9).toNat qz32).f5.f1), .slice A1_5_2_ (((a0.getD (x9).toNat qz32).f5.f2).length) c1_5_2_]), (48, .bool false), (12, .pointer (some ⟨nx3, 0, none⟩)), (1, .int .i64 a1), (5, .pointer (some ⟨nx0, 0, none⟩)), (6, .pointer (some ⟨nx0 + 1, 0, none⟩)), (8, .map (some g1)), (9, .int .i64 x8), (10, .pointer (some ⟨nx1, 0, none⟩)), (19, .slice Ap0 a0.length cp0), (20, .int .i64 (a0.length : Int)), (21, .int .i64 x9)]) (nx' := nx3 + 1) (L' := [⟨nx0, [.int .i64 a2.f0, .int .i64 a2.f1], 109⟩, ⟨nx0 + 1, [.int .i64 0, .string (⟨#[]⟩ : ByteArray), .slice none 0 0], 41⟩, ⟨nx1, [.int .i64 x5, .string x6, .slice A2 x7.length kc2], 41⟩, ⟨nx3, [.int .i64 ((a0.getD (x9).toNat qz32).f0), .int .i64 ((a0.getD (x9).toNat qz32).f1), .int .i64 ((a0.getD (x9).toNat qz32).f2), .int .i64 ((a0.getD (x9).toNat qz32).f3), .int .u32 ((a0.getD (x9).toNat qz32).f4), .int .i64 ((a0.getD (x9).toNat qz32).f5.f0), .string ((a0.getD (x9).toNat qz32).f5.f1), .slice A1_5_2_ (((a0.getD (x9).toNat qz32).f5.f2).length) c1_5_2_], 43⟩]) [] (RFacts.nil _ _ _) 2 [.l 3, .no] (by kernel_rfl) (by kernel_rfl) ?_
                    obtain ⟨t2, hA2, H⟩ := Option.bind_eq_some_iff.mp H
                    refine RL.callP 98 [.agg #[.int .i64 ((a0.getD (x9).toNat qz32).f0), .int .i64 ((a0.getD (x9).toNat qz32).f1), .int .i64 ((a0.getD (x9).toNat qz32).f2), .int .i64 ((a0.getD (x9).toNat qz32).f3), .int .u32 ((a0.getD (x9).toNat qz32).f4), .int .i64 ((a0.getD (x9).toNat qz32).f5.f0), .string ((a0.getD (x9).toNat qz32).f5.f1), .slice A1_5_2_ (((a0.getD (x9).toNat qz32).f5.f2).length) c1_5_2_], .int .i64 a1] (some 51) (fun w => quorum_Valid.Post I3 w t2) (by kernel_rfl) (by kernel_rfl) (fun w hs => quorum_Valid.calls kq1 I3 (a0.getD (x9).toNat qz32) A1_5_2_ c1_5_2_ a1 w hs.im hl1_5_2_ hr1_5_2_ t2 hA2) ?_
                    rintro w v w' hs ⟨I9, rfl, hg⟩
                    have hi9 := hg.le
                    refine RL.resume (K' := [(51, .bool t2), (50, .int .i64 a1), (49, .agg #[.int .i64 ((a0.getD (x9).toNat qz32).f0), .int .i64 ((a0.getD (x9).toNat qz32).f1), .int .i64 ((a0.getD (x9).toNat qz32).f2), .int .i64 ((a0.getD (x9).toNat qz32).f3), .int .u32 ((a0.getD (x9).toNat qz32).f4), .int .i64 ((a0.getD (x9).toNat qz32).f5.f0), .string ((a0.getD (x9).toNat qz32).f5.f1), .slice A1_5_2_ (((a0.getD (x9).toNat qz32).f5.f2).length) c1_5_2_]), (48, .bool false), (12, .pointer (some ⟨nx3, 0, none⟩)), (1, .int .i64 a1), (5, .pointer (some ⟨nx0, 0, none⟩)), (6, .pointer (some ⟨nx0 + 1, 0, none⟩)), (8, .map (some g1)), (9, .int .i64 x8), (10, .pointer (some ⟨nx1, 0, none⟩)), (19, .slice Ap0 a0.length cp0), (20, .int .i64 (a0.length : Int)), (21, .int .i64 x9)]) (X' := []) (by kernel_rfl) (hs.call hg) ?_
                    clear hs hg
                    generalize w'.heap.size = nx9
                    clear w w'
                    refine RL.simP (K' := [(53, .bool (!t2)), (12, .pointer (some ⟨nx3, 0, none⟩)), (1, .int .i64 a1), (5, .pointer (some ⟨nx0, 0, none⟩)), (6, .pointer (some ⟨nx0 + 1, 0, none⟩)), (8, .map (some g1)), (9, .int .i64 x8), (10, .pointer (some ⟨nx1, 0, none⟩)), (19, .slice Ap0 a0.length cp0), (20, .int .i64 (a0.length : Int)), (21, .int .i64 x9)]) (nx' := nx9) (L' := [⟨nx0, [.int .i64 a2.f0, .int .i64 a2.f1], 109⟩, ⟨nx0 + 1, [.int .i64 0, .string (⟨#[]⟩ : ByteArray), .slice none 0 0], 41⟩, ⟨nx1, [.int .i64 x5, .string x6, .slice A2 x7.length kc2], 41⟩, ⟨nx3, [.int .i64 ((a0.getD (x9).toNat qz32).f0), .int .i64 ((a0.getD (x9).toNat qz32).f1), .int .i64 ((a0.getD (x9).toNat qz32).f2), .int .i64 ((a0.getD (x9).toNat qz32).f3), .int .u32 ((a0.getD (x9).toNat qz32).f4), .int .i64 ((a0.getD (x9).toNat qz32).f5.f0), .string ((a0.getD (x9).toNat qz32).f5.f1), .slice A1_5_2_ (((a0.getD (x9).toNat qz32).f5.f2).length) c1_5_2_], 43⟩]) [] (RFacts.nil _ _ _) 2 [.no, .no] (by kernel_rfl) (by kernel_rfl) ?_
                    refine RL.nil (by kernel_rfl) ?_
                    obtain rfl := Option.some.inj H
                    refine QN.sub (K' := [(1, .int .i64 a1), (5, .pointer (some ⟨nx0, 0, none⟩)), (6, .pointer (some ⟨nx0 + 1, 0, none⟩)), (8, .map (some g1)), (9, .int .i64 x8), (10, .pointer (some ⟨nx1, 0, none⟩)), (12, .pointer (some ⟨nx3, 0, none⟩)), (19, .slice Ap0 a0.length cp0), (20, .int .i64 (a0.length : Int)), (21, .int .i64 x9), (53, .bool (!t2))]) (L' := [⟨nx0, [.int .i64 a2.f0, .int .i64 a2.f1], 109⟩, ⟨nx0 + 1, [.int .i64 0, .string (⟨#[]⟩ : ByteArray), .slice none 0 0], 41⟩, ⟨nx1, [.int .i64 x5, .string x6, .slice A2 x7.length kc2], 41⟩, ⟨nx3, [.int .i64 ((a0.getD (x9).toNat qz32).f0), .int .i64 ((a0.getD (x9).toNat qz32).f1), .int .i64 ((a0.getD (x9).toNat qz32).f2), .int .i64 ((a0.getD (x9).toNat qz32).f3), .int .u32 ((a0.getD (x9).toNat qz32).f4), .int .i64 ((a0.getD (x9).toNat qz32).f5.f0), .string ((a0.getD (x9).toNat qz32).f5.f1), .slice A1_5_2_ (((a0.getD (x9).toNat qz32).f5.f2).length) c1_5_2_], 43⟩]) (by kernel_rfl) (.cons_cons _ (.cons_cons _ (.cons_cons _ (.cons_cons _ .slnil)))) (.refl _) ?_
                    exact hJ4 _ _ _ _ _ ⟨(!t2), rfl, rfl, rfl, hi9, HK3⟩
      · skip
        have hc := (of_decide_eq_false hb)
        rw [if_neg hc] at H
        clear hb
        refine OK.exit 0 (by kernel_rfl) ?_
        refine QN.thenE ?_
        refine QN.outE hQ2 ?_
        refine QN.blkE ?_
        obtain rfl := Option.some.inj H
        refine QN.sub (K' := [(6, .pointer (some ⟨nx0 + 1, 0, none⟩)), (9, .int .i64 x8), (10, .pointer (some ⟨nx1, 0, none⟩))]) (L' := [⟨nx0, [.int .i64 a2.f0, .int .i64 a2.f1], 109⟩, ⟨nx0 + 1, [.int .i64 0, .string (⟨#[]⟩ : ByteArray), .slice none 0 0], 41⟩, ⟨nx1, [.int .i64 x5, .string x6, .slice A2 x7.length kc2], 41⟩]) (by kernel_rfl) (.cons_cons _ (.cons_cons _ (.cons_cons _ .slnil))) (.refl _) ?_
        exact hJ1 _ _ _ _ _ ⟨x5, x6, x7, x8, A2, kc2, rfl, rfl, rfl, hi3, hl2, hr2, HK1⟩

end Go.Proofs.YtfecniimkgkmfaaGreat
namespace Go.Proofs.YtfecniimkgkmfaaGreat
open Go Go.RowKit Go.Proofs.YtfecniimkgkmfaaGreat.RW
open Go.Proofs.YtfecniimkgkmfaaGreat.AM hiding lk
set_option linter.unusedVariables false
def Q32.of (x : S43) : Q32 := ⟨x.1, x.2.1, x.2.2.1, x.2.2.2.1, x.2.2.2.2.1, ⟨x.2.2.2.2.2.1, x.2.2.2.2.2.2.1, x.2.2.2.2.2.2.2⟩⟩
theorem Rd.of {I : Imm} {A : Option Addr} {l : List S43} (h : Rd c43.ty I A l) : Rd qt32 I A (l.map Q32.of) := by
  refine ⟨by rw [List.length_map]; exact h.1, fun hn => ?_⟩
  obtain ⟨g, o, e, hc⟩ := h.2 (fun e => hn (by rw [e]; rfl))
  refine ⟨g, o, e, fun j x hj => ?_⟩
  rw [List.getElem?_map] at hj
  cases hx : l[j]? with
  | none => rw [hx] at hj; cases hj
  | some y =>
    rw [hx] at hj
    obtain rfl := Option.some.inj hj
    exact hc j y hx
noncomputable def quorum_HighestPrepared (n : Nat) (l : List S43) (a : Int) (at_ : S109) : Option (S41 × Bool) := (quorum_HighestPrepared.f n (l.map Q32.of) a ⟨at_.1, at_.2⟩).map fun r => (r.1.p, r.2)
noncomputable def quorum_HighestPrepared.d (n : Nat) : FragD := ⟨⟨[(0, ph (.row c43)), (1, pi), (2, pst c109)], []⟩, [⟨1, ⟨[(0, .tup [.st c41, .c (.h .bool)])], []⟩, S41 × Bool, fun x => (x.1.1.1, x.1.1.2.1), fun r => (((r.1, r.2, ()), ()), ()), fun _ => rfl⟩], fun x => quorum_HighestPrepared n x.1.1 x.1.2.1 x.1.2.2.1⟩
noncomputable def quorum_Committed (n : Nat) (l : List S43) (a : Int) (at_ : S109) : Option (Int × Bool) := quorum_Committed.f n (l.map Q32.of) a ⟨at_.1, at_.2⟩
noncomputable def quorum_Committed.d (n : Nat) : FragD := ⟨⟨[(0, ph (.row c43)), (1, pi), (2, pst c109)], []⟩, [⟨1, ⟨[(0, .tup [.c (.h (.int .u32)), .c (.h .bool)])], []⟩, Int × Bool, fun x => (x.1.1.1, x.1.1.2.1), fun r => (((r.1, r.2, ()), ()), ()), fun _ => rfl⟩], fun x => quorum_Committed n x.1.1 x.1.2.1 x.1.2.2.1⟩
noncomputable def quorum_Prepared (n : Nat) (l : List S43) (a : Int) (at_ : S109) : Option (Int × Bool) := quorum_Prepared.f n (l.map Q32.of) a ⟨at_.1, at_.2⟩
noncomputable def quorum_Prepared.d (n : Nat) : FragD := ⟨⟨[(0, ph (.row c43)), (1, pi), (2, pst c109)], []⟩, [⟨1, ⟨[(0, .tup [.c (.h (.int .u32)), .c (.h .bool)])], []⟩, Int × Bool, fun x => (x.1.1.1, x.1.1.2.1), fun r => (((r.1, r.2, ()), ()), ()), fun _ => rfl⟩], fun x => quorum_Prepared n x.1.1 x.1.2.1 x.1.2.2.1⟩
/-- The three arguments. -/
theorem args3 {π : Pi} {I : Imm} {x : SlI [(0, ph (.row c43)), (1, pi), (2, pst c109)]} {vs : List Value} (hls : vs.length = 3) (hvs : ∀ t av, AM.lk (instSl id [(0, ph (.row c43)), (1, pi), (2, pst c109)] x) t = some av → ∃ v, vs[t]? = some v ∧ relV π I av v) :
    ∃ A c, vs = [.slice A x.1.length c, .int .i64 x.2.1, .agg #[.int .i64 x.2.2.1.1, .int .i64 x.2.2.1.2]] ∧ x.1.length ≤ c ∧ Rd c43.ty I A x.1 := by
  match vs, hls with
  | [a, b, d], _ =>
    obtain ⟨v, h0, A, c, rfl, hle, _, hrd⟩ := hvs 0 _ rfl
    obtain ⟨v1, h1, rfl, _⟩ := hvs 1 _ rfl
    obtain ⟨v2, h2, ys, rfl, hy⟩ := hvs 2 _ rfl
    obtain rfl := Option.some.inj h0
    obtain rfl := Option.some.inj h1
    obtain rfl := Option.some.inj h2
    match ys, hy with
    | [y0, y1], hy =>
      obtain ⟨⟨rfl, _⟩, ⟨rfl, _⟩, _⟩ := hy
      exact ⟨A, c, rfl, hle, hrd⟩
theorem quorum_Committed.ok (n : Nat) : FunOK Tryz.prog 140 (quorum_Committed.d n) := by
  intro x y q z hg ho I π w vs hlen hls hvs hm
  obtain ⟨A, c, rfl, hle, hrd⟩ := args3 (x := x.1) hls hvs
  cases ho
  have := quorum_Committed.calls n I (x.1.1.map Q32.of) A c x.1.2.1 ⟨x.1.2.2.1.1, x.1.2.2.1.2⟩ w hm.im (by rw [List.length_map]; exact hle) (Rd.of hrd) y hg
  rw [List.length_map] at this
  refine this.mono ?_
  rintro e w' ⟨v, rfl, J, rfl, hgot⟩
  exact ⟨_, rfl, π, J, Pi.le_refl _, hgot.le, hm.got hgot, fun av hav => by cases hav; exact ⟨_, rfl, ⟨rfl, rfl⟩, ⟨rfl, rfl⟩, trivial⟩⟩
theorem quorum_Prepared.ok (n : Nat) : FunOK Tryz.prog 146 (quorum_Prepared.d n) := by
  intro x y q z hg ho I π w vs hlen hls hvs hm
  obtain ⟨A, c, rfl, hle, hrd⟩ := args3 (x := x.1) hls hvs
  cases ho
  have := quorum_Prepared.calls n I (x.1.1.map Q32.of) A c x.1.2.1 ⟨x.1.2.2.1.1, x.1.2.2.1.2⟩ w hm.im (by rw [List.length_map]; exact hle) (Rd.of hrd) y hg
  rw [List.length_map] at this
  refine this.mono ?_
  rintro e w' ⟨v, rfl, J, rfl, hgot⟩
  exact ⟨_, rfl, π, J, Pi.le_refl _, hgot.le, hm.got hgot, fun av hav => by cases hav; exact ⟨_, rfl, ⟨rfl, rfl⟩, ⟨rfl, rfl⟩, trivial⟩⟩
theorem quorum_HighestPrepared.ok (n : Nat) : FunOK Tryz.prog 113 (quorum_HighestPrepared.d n) := by
  intro x y q z hg ho I π w vs hlen hls hvs hm
  obtain ⟨A, c, rfl, hle, hrd⟩ := args3 (x := x.1) hls hvs
  cases ho
  obtain ⟨r, hr, rfl⟩ := Option.map_eq_some_iff.1 (show (quorum_HighestPrepared.f n (x.1.1.map Q32.of) x.1.2.1 ⟨x.1.2.2.1.1, x.1.2.2.1.2⟩).map _ = some y from hg)
  have := quorum_HighestPrepared.calls n I (x.1.1.map Q32.of) A c x.1.2.1 ⟨x.1.2.2.1.1, x.1.2.2.1.2⟩ w hm.im (by rw [List.length_map]; exact hle) (Rd.of hrd) r hr
  rw [List.length_map] at this
  refine this.mono ?_
  rintro e w' ⟨v, rfl, J, A2, c2, rfl, hgot, hl2, hr2⟩
  exact ⟨_, rfl, π, J, Pi.le_refl _, hgot.le, hm.got hgot, fun av hav => by cases hav; exact ⟨_, rfl, ⟨_, rfl, ⟨rfl, rfl⟩, ⟨rfl, rfl⟩, ⟨A2, c2, rfl, hl2, (fun e => by cases e), hr2⟩, trivial⟩, ⟨rfl, rfl⟩, trivial⟩⟩
end Go.Proofs.YtfecniimkgkmfaaGreat
