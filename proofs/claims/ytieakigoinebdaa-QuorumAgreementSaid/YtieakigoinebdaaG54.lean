/- What a function of the program computes, and the walk that shows it; made by a program of the session's out of the translation; no conditions beyond those that the theorems name. -/
import Derived.Test.YtieakigoinebdaaS
namespace Go.Proofs.Ytieakigoinebdaa
open Go Go.Proofs.Ytieakigoinebdaa.RW
set_option linter.unusedVariables false
set_option maxRecDepth 100000
set_option maxHeartbeats 8000000

/-! ### slices_Clip_byte_byte: function 54, slices.Clip[[]byte,byte] -/
noncomputable def K54_0 : Code := cBody Try.f54
noncomputable def K54_1 : Code := cL K54_0
noncomputable def O54_1 : List Oper := cOps K54_1
noncomputable def K54_3 : Code := cR K54_0
noncomputable def K54_4 : Code := cL K54_3
noncomputable def O54_4 : List Oper := cOps K54_4
noncomputable def K54_6 : Code := cR K54_3
def slices_Clip_byte_byte.f (a0 : List Int) : Option (List Int) := (some a0)
def slices_Clip_byte_byte.Post (I : Imm) (w : World) (r : List Int) (v : Value) (w' : World) : Prop :=
  ∃ (J : Imm) (A0 : Option Addr), v = .slice A0 r.length r.length ∧ Got w w' I J [] ∧ Rd (Ty.int .u8) J A0 r
theorem slices_Clip_byte_byte.calls (I0 : Imm) (a0 : List Int) (Ap0 : Option Addr) (cp0 : Nat) (w : World) (hI : I0.at_ w) (hlp0 : a0.length ≤ cp0) (hrp0 : Rd (Ty.int .u8) I0 Ap0 a0) (r : List Int) (h : slices_Clip_byte_byte.f a0 = some r) :
    Calls Try.prog 54 [.slice Ap0 a0.length cp0].toArray w fun e w' => ∃ v, e = .returned v ∧ slices_Clip_byte_byte.Post I0 w r v w' := by
  have H : (some a0) = some r := h
  clear h
  refine calls_body Try.func54 (by kernel_rfl) 9 (by kernel_rfl) (by kernel_rfl) ⟨w, fun _ => False, I0⟩ I0 [] [(0, .slice Ap0 a0.length cp0)] (by kernel_rfl) (Sat.start w _ I0 hI) ?_
  generalize w.heap.size = nx0
  show OK _ K54_0 _ _ _ _ _ _ _ _
  refine OK.seq K54_1 K54_3 (by kernel_rfl) ?_
  refine OK.region 0 O54_1 (by kernel_rfl) ?_
  refine RL.simP (K' := [(0, .slice Ap0 a0.length cp0)]) (nx' := nx0) (L' := []) [] (RFacts.nil _ _ _) 1 [.no] (by kernel_rfl) (by kernel_rfl) ?_
  refine RL.nil (by kernel_rfl) ?_
  refine QN.then_ ?_
  refine OK.seq K54_4 K54_6 (by kernel_rfl) ?_
  refine OK.region 1 O54_4 (by kernel_rfl) ?_
  refine RL.simP (K' := [(7, .int .i64 (a0.length : Int)), (5, .int .i64 (a0.length : Int)), (3, .slice Ap0 a0.length cp0)]) (nx' := nx0) (L' := []) [] (RFacts.nil _ _ _) 5 [.no, .no, .no, .no, .no] (by kernel_rfl) (by kernel_rfl) ?_
  refine RL.clip (T := 28) (e := 5) (l := a0) (S := Ap0) (cap := cp0) 1 .i64 .i64 (some 8) (by kernel_rfl) (by kernel_rfl) (by kernel_rfl) (by kernel_rfl) hlp0 (K' := [(8, .slice (slA Ap0 0 a0.length 1) a0.length a0.length), (7, .int .i64 (a0.length : Int)), (5, .int .i64 (a0.length : Int)), (3, .slice Ap0 a0.length cp0)]) (by kernel_rfl) ?_
  refine RL.simP (K' := [(2, .slice (slA Ap0 0 a0.length 1) a0.length a0.length)]) (nx' := nx0) (L' := []) [] (RFacts.nil _ _ _) 1 [.no] (by kernel_rfl) (by kernel_rfl) ?_
  refine RL.nil (by kernel_rfl) ?_
  refine QN.then_ ?_
  refine OK.ret (by kernel_rfl) ?_
  obtain rfl := Option.some.inj H
  refine QN.body rfl [] (RFacts.nil _ _ _) (.no) (.slice (slA Ap0 0 a0.length 1) a0.length a0.length) (by kernel_rfl) (by kernel_rfl) (by kernel_rfl) ?_ _ (.inr rfl)
  exact fun w' hs' => ⟨_, rfl, I0, (slA Ap0 0 a0.length 1), rfl, hs'.got _ .slnil, (rd_clip hrp0)⟩

end Go.Proofs.Ytieakigoinebdaa
