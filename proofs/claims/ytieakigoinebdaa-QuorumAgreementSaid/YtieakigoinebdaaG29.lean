/- What a function of the program computes, and the walk that shows it; made by a program of the session's out of the translation; no conditions beyond those that the theorems name. -/
import Derived.Test.YtieakigoinebdaaS
namespace Go.Proofs.Ytieakigoinebdaa
open Go Go.Proofs.Ytieakigoinebdaa.RW
set_option linter.unusedVariables false
set_option maxRecDepth 100000
set_option maxHeartbeats 8000000

/-! ### armillarylaw29_vote: function 29, armillary/armillarylaw29.vote -/
noncomputable def K29_0 : Code := cBody Try.f29
noncomputable def K29_1 : Code := cL K29_0
noncomputable def O29_1 : List Oper := cOps K29_1
noncomputable def K29_3 : Code := cR K29_0
noncomputable def K29_4 : Code := cL K29_3
noncomputable def O29_4 : List Oper := cOps K29_4
noncomputable def K29_6 : Code := cR K29_3
def armillarylaw29_vote.f (a0 : Int) (a1 : Int) (a2 : Int) (a3 : Int) : Option (S32) := (some (⟨a0, a1, a2, 0, a3, (⟨0, (⟨#[]⟩ : ByteArray), []⟩ : S30)⟩ : S32))
def armillarylaw29_vote.Post (I : Imm) (w : World) (r : S32) (v : Value) (w' : World) : Prop :=
  ∃ (J : Imm) (A0_5_2 : Option Addr) (c0_5_2 : Nat) (cs0_5_2 : List Value), v = .agg #[.int .i64 r.f0, .int .i64 r.f1, .int .i64 r.f2, .int .i64 r.f3, .int .u32 r.f4, .int .i64 r.f5.f0, .string r.f5.f1, .slice A0_5_2 r.f5.f2.length c0_5_2] ∧ Got w w' I J [orow 5 1 A0_5_2 r.f5.f2.length c0_5_2 cs0_5_2] ∧ Reps (Ty.int .u8) J r.f5.f2 cs0_5_2
theorem armillarylaw29_vote.calls (I0 : Imm) (a0 : Int) (a1 : Int) (a2 : Int) (a3 : Int) (w : World) (hI : I0.at_ w)  (r : S32) (h : armillarylaw29_vote.f a0 a1 a2 a3 = some r) :
    Calls Try.prog 29 [.int .i64 a0, .int .i64 a1, .int .i64 a2, .int .u32 a3].toArray w fun e w' => ∃ v, e = .returned v ∧ armillarylaw29_vote.Post I0 w r v w' := by
  have H : (some (⟨a0, a1, a2, 0, a3, (⟨0, (⟨#[]⟩ : ByteArray), []⟩ : S30)⟩ : S32)) = some r := h
  clear h
  refine calls_body Try.func29 (by kernel_rfl) 14 (by kernel_rfl) (by kernel_rfl) ⟨w, fun _ => False, I0⟩ I0 [] [(0, .int .i64 a0), (1, .int .i64 a1), (2, .int .i64 a2), (3, .int .u32 a3)] (by kernel_rfl) (Sat.start w _ I0 hI) ?_
  generalize w.heap.size = nx0
  show OK _ K29_0 _ _ _ _ _ _ _ _
  refine OK.seq K29_1 K29_3 (by kernel_rfl) ?_
  refine OK.region 0 O29_1 (by kernel_rfl) ?_
  refine RL.simP (K' := [(8, .pointer (some ⟨nx0, 0, none⟩)), (0, .int .i64 a0), (1, .int .i64 a1), (2, .int .i64 a2), (3, .int .u32 a3)]) (nx' := nx0 + 1) (L' := [⟨nx0, [.int .i64 0, .int .i64 0, .int .i64 0, .int .i64 0, .int .u32 0, .int .i64 0, .string (⟨#[]⟩ : ByteArray), .slice none 0 0], 32⟩]) [] (RFacts.nil _ _ _) 1 [.no] (by kernel_rfl) (by kernel_rfl) ?_
  refine RL.nil (by kernel_rfl) ?_
  refine QN.then_ ?_
  refine OK.seq K29_4 K29_6 (by kernel_rfl) ?_
  refine OK.region 1 O29_4 (by kernel_rfl) ?_
  refine RL.simP (K' := [(8, .pointer (some ⟨nx0, 0, none⟩))]) (nx' := nx0 + 1) (L' := [⟨nx0, [.int .i64 a0, .int .i64 a1, .int .i64 a2, .int .i64 0, .int .u32 a3, .int .i64 0, .string (⟨#[]⟩ : ByteArray), .slice none 0 0], 32⟩]) [] (RFacts.nil _ _ _) 6 [.no, .no, .no, .no, .no, .l 0] (by kernel_rfl) (by kernel_rfl) ?_
  refine RL.nil (by kernel_rfl) ?_
  refine QN.then_ ?_
  refine OK.ret (by kernel_rfl) ?_
  obtain rfl := Option.some.inj H
  refine QN.body rfl [] (RFacts.nil _ _ _) (.l 0) (.agg #[.int .i64 a0, .int .i64 a1, .int .i64 a2, .int .i64 0, .int .u32 a3, .int .i64 0, .string (⟨#[]⟩ : ByteArray), .slice none 0 0]) (by kernel_rfl) (by kernel_rfl) (by kernel_rfl) ?_ _ (.inr rfl)
  exact fun w' hs' => ⟨_, rfl, I0, none, 0, [], rfl, gotNil1 (hs'.got [] (List.nil_sublist _)), rfl⟩

end Go.Proofs.Ytieakigoinebdaa
