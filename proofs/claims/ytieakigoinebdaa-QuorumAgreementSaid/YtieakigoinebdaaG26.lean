/- What a function of the program computes, and the walk that shows it; made by a program of the session's out of the translation; no conditions beyond those that the theorems name. -/
import Derived.Test.YtieakigoinebdaaS
import Derived.Test.YtieakigoinebdaaG38
namespace Go.Proofs.Ytieakigoinebdaa
open Go Go.Proofs.Ytieakigoinebdaa.RW
set_option linter.unusedVariables false
set_option maxRecDepth 100000
set_option maxHeartbeats 8000000

/-! ### armillaryref29_Same: function 26, armillary/armillaryref29.Same -/
noncomputable def K26_0 : Code := cBody Try.f26
noncomputable def K26_1 : Code := cL K26_0
noncomputable def O26_1 : List Oper := cOps K26_1
noncomputable def K26_3 : Code := cR K26_0
noncomputable def K26_4 : Code := cL K26_3
noncomputable def O26_4 : List Oper := cOps K26_4
noncomputable def K26_6 : Code := cR K26_3
def armillaryref29_Same.f (a0 : S30) (a1 : S30) : Option (Bool) := ((armillaryref27_Same.f a0 a1).bind fun t1 => (some t1))
def armillaryref29_Same.Post (I : Imm) (w : World) (r : Bool) (v : Value) (w' : World) : Prop :=
  ∃ (J : Imm), v = .bool r ∧ Got w w' I J []
theorem armillaryref29_Same.calls (I0 : Imm) (a0 : S30) (Ap0_2 : Option Addr) (cp0_2 : Nat) (a1 : S30) (Ap1_2 : Option Addr) (cp1_2 : Nat) (w : World) (hI : I0.at_ w) (hlp0_2 : a0.f2.length ≤ cp0_2) (hrp0_2 : Rd (Ty.int .u8) I0 Ap0_2 a0.f2) (hlp1_2 : a1.f2.length ≤ cp1_2) (hrp1_2 : Rd (Ty.int .u8) I0 Ap1_2 a1.f2) (r : Bool) (h : armillaryref29_Same.f a0 a1 = some r) :
    Calls Try.prog 26 [.agg #[.int .i64 a0.f0, .string a0.f1, .slice Ap0_2 a0.f2.length cp0_2], .agg #[.int .i64 a1.f0, .string a1.f1, .slice Ap1_2 a1.f2.length cp1_2]].toArray w fun e w' => ∃ v, e = .returned v ∧ armillaryref29_Same.Post I0 w r v w' := by
  have H : ((armillaryref27_Same.f a0 a1).bind fun t1 => (some t1)) = some r := h
  clear h
  refine calls_body Try.func26 (by kernel_rfl) 8 (by kernel_rfl) (by kernel_rfl) ⟨w, fun _ => False, I0⟩ I0 [] [(0, .agg #[.int .i64 a0.f0, .string a0.f1, .slice Ap0_2 a0.f2.length cp0_2]), (1, .agg #[.int .i64 a1.f0, .string a1.f1, .slice Ap1_2 a1.f2.length cp1_2])] (by kernel_rfl) (Sat.start w _ I0 hI) ?_
  generalize w.heap.size = nx0
  show OK _ K26_0 _ _ _ _ _ _ _ _
  refine OK.seq K26_1 K26_3 (by kernel_rfl) ?_
  refine OK.region 0 O26_1 (by kernel_rfl) ?_
  refine RL.simP (K' := [(3, .pointer (some ⟨nx0 + 1, 0, none⟩)), (2, .pointer (some ⟨nx0, 0, none⟩))]) (nx' := nx0 + 2) (L' := [⟨nx0, [.int .i64 a0.f0, .string a0.f1, .slice Ap0_2 a0.f2.length cp0_2], 30⟩, ⟨nx0 + 1, [.int .i64 a1.f0, .string a1.f1, .slice Ap1_2 a1.f2.length cp1_2], 30⟩]) [] (RFacts.nil _ _ _) 3 [.no, .no, .no] (by kernel_rfl) (by kernel_rfl) ?_
  refine RL.nil (by kernel_rfl) ?_
  refine QN.then_ ?_
  refine OK.seq K26_4 K26_6 (by kernel_rfl) ?_
  refine OK.region 1 O26_4 (by kernel_rfl) ?_
  refine RL.simP (K' := [(6, .agg #[.int .i64 a1.f0, .string a1.f1, .slice Ap1_2 a1.f2.length cp1_2]), (5, .agg #[.int .i64 a0.f0, .string a0.f1, .slice Ap0_2 a0.f2.length cp0_2])]) (nx' := nx0 + 2) (L' := [⟨nx0, [.int .i64 a0.f0, .string a0.f1, .slice Ap0_2 a0.f2.length cp0_2], 30⟩, ⟨nx0 + 1, [.int .i64 a1.f0, .string a1.f1, .slice Ap1_2 a1.f2.length cp1_2], 30⟩]) [] (RFacts.nil _ _ _) 2 [.l 0, .l 1] (by kernel_rfl) (by kernel_rfl) ?_
  obtain ⟨t1, hA1, H⟩ := Option.bind_eq_some_iff.mp H
  refine RL.callP 38 [.agg #[.int .i64 a0.f0, .string a0.f1, .slice Ap0_2 a0.f2.length cp0_2], .agg #[.int .i64 a1.f0, .string a1.f1, .slice Ap1_2 a1.f2.length cp1_2]] (some 7) (fun w => armillaryref27_Same.Post I0 w t1) (by kernel_rfl) (by kernel_rfl) (fun w hs => armillaryref27_Same.calls I0 a0 Ap0_2 cp0_2 a1 Ap1_2 cp1_2 w hs.im hlp0_2 hrp0_2 hlp1_2 hrp1_2 t1 hA1) ?_
  rintro w v w' hs ⟨I1, rfl, hg⟩
  have hi1 := hg.le
  refine RL.resume (K' := [(7, .bool t1), (6, .agg #[.int .i64 a1.f0, .string a1.f1, .slice Ap1_2 a1.f2.length cp1_2]), (5, .agg #[.int .i64 a0.f0, .string a0.f1, .slice Ap0_2 a0.f2.length cp0_2])]) (X' := []) (by kernel_rfl) (hs.call hg) ?_
  clear hs hg
  generalize w'.heap.size = nx1
  clear w w'
  refine RL.simP (K' := [(4, .bool t1)]) (nx' := nx1) (L' := [⟨nx0, [.int .i64 a0.f0, .string a0.f1, .slice Ap0_2 a0.f2.length cp0_2], 30⟩, ⟨nx0 + 1, [.int .i64 a1.f0, .string a1.f1, .slice Ap1_2 a1.f2.length cp1_2], 30⟩]) [] (RFacts.nil _ _ _) 1 [.no] (by kernel_rfl) (by kernel_rfl) ?_
  refine RL.nil (by kernel_rfl) ?_
  refine QN.then_ ?_
  refine OK.ret (by kernel_rfl) ?_
  obtain rfl := Option.some.inj H
  refine QN.body rfl [] (RFacts.nil _ _ _) (.no) (.bool t1) (by kernel_rfl) (by kernel_rfl) (by kernel_rfl) ?_ _ (.inr rfl)
  exact fun w' hs' => ⟨_, rfl, I1, rfl, hs'.got _ .slnil⟩

end Go.Proofs.Ytieakigoinebdaa
