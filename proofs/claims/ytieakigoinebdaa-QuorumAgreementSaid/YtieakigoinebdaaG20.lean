/- What a function of the program computes, and the walk that shows it; made by a program of the session's out of the translation; no conditions beyond those that the theorems name. -/
import Derived.Test.YtieakigoinebdaaS
import Derived.Test.YtieakigoinebdaaG37
namespace Go.Proofs.Ytieakigoinebdaa
open Go Go.Proofs.Ytieakigoinebdaa.RW
set_option linter.unusedVariables false
set_option maxRecDepth 100000
set_option maxHeartbeats 8000000

/-! ### quorum_MaxFaulty: function 20, armillary/quorum.MaxFaulty -/
noncomputable def K20_0 : Code := cBody Try.f20
noncomputable def K20_1 : Code := cL K20_0
noncomputable def O20_1 : List Oper := cOps K20_1
noncomputable def K20_3 : Code := cR K20_0
noncomputable def K20_4 : Code := cL K20_3
noncomputable def K20_5 : Code := cL K20_4
noncomputable def O20_5 : List Oper := cOps K20_5
noncomputable def K20_7 : Code := cR K20_4
noncomputable def K20_8 : Code := cL K20_7
noncomputable def K20_9 : Code := cL K20_8
noncomputable def O20_9 : List Oper := cOps K20_9
noncomputable def K20_11 : Code := cR K20_8
noncomputable def K20_12 : Code := cR K20_7
noncomputable def K20_13 : Code := cR K20_3
noncomputable def K20_14 : Code := cL K20_13
noncomputable def O20_14 : List Oper := cOps K20_14
noncomputable def K20_16 : Code := cR K20_13
def quorum_MaxFaulty.f (a0 : Int) : Option (Int) := ((quorum_group_possible.f a0).bind fun t1 => (if t1 = true then (some (W .i64 ((W .i64 (a0 - 1)).tdiv 3))) else (some 0)))
def quorum_MaxFaulty.Post (I : Imm) (w : World) (r : Int) (v : Value) (w' : World) : Prop :=
  ∃ (J : Imm), v = .int .i64 r ∧ Got w w' I J []
theorem quorum_MaxFaulty.calls (I0 : Imm) (a0 : Int) (w : World) (hI : I0.at_ w)  (r : Int) (h : quorum_MaxFaulty.f a0 = some r) :
    Calls Try.prog 20 [.int .i64 a0].toArray w fun e w' => ∃ v, e = .returned v ∧ quorum_MaxFaulty.Post I0 w r v w' := by
  have H : ((quorum_group_possible.f a0).bind fun t1 => (if t1 = true then (some (W .i64 ((W .i64 (a0 - 1)).tdiv 3))) else (some 0))) = some r := h
  clear h
  refine calls_body Try.func20 (by kernel_rfl) 9 (by kernel_rfl) (by kernel_rfl) ⟨w, fun _ => False, I0⟩ I0 [] [(0, .int .i64 a0)] (by kernel_rfl) (Sat.start w _ I0 hI) ?_
  generalize w.heap.size = nx0
  show OK _ K20_0 _ _ _ _ _ _ _ _
  refine OK.seq K20_1 K20_3 (by kernel_rfl) ?_
  refine OK.region 0 O20_1 (by kernel_rfl) ?_
  refine RL.simP (K' := [(0, .int .i64 a0)]) (nx' := nx0) (L' := []) [] (RFacts.nil _ _ _) 1 [.no] (by kernel_rfl) (by kernel_rfl) ?_
  refine RL.nil (by kernel_rfl) ?_
  refine QN.then_ ?_
  refine OK.seq K20_4 K20_13 (by kernel_rfl) ?_
  refine OK.seq K20_5 K20_7 (by kernel_rfl) ?_
  refine OK.region 1 O20_5 (by kernel_rfl) ?_
  refine RL.simP (K' := [(3, .int .i64 a0), (0, .int .i64 a0)]) (nx' := nx0) (L' := []) [] (RFacts.nil _ _ _) 1 [.no] (by kernel_rfl) (by kernel_rfl) ?_
  obtain ⟨t1, hA1, H⟩ := Option.bind_eq_some_iff.mp H
  refine RL.callP 37 [.int .i64 a0] (some 4) (fun w => quorum_group_possible.Post I0 w t1) (by kernel_rfl) (by kernel_rfl) (fun w hs => quorum_group_possible.calls I0 a0 w hs.im  t1 hA1) ?_
  rintro w v w' hs ⟨I1, rfl, hg⟩
  have hi1 := hg.le
  refine RL.resume (K' := [(4, .bool t1), (3, .int .i64 a0), (0, .int .i64 a0)]) (X' := []) (by kernel_rfl) (hs.call hg) ?_
  clear hs hg
  generalize w'.heap.size = nx1
  clear w w'
  refine RL.simP (K' := [(5, .bool (!t1)), (0, .int .i64 a0)]) (nx' := nx1) (L' := []) [] (RFacts.nil _ _ _) 1 [.no] (by kernel_rfl) (by kernel_rfl) ?_
  refine RL.nil (by kernel_rfl) ?_
  refine QN.then_ ?_
  refine OK.cond (.tmp 5) K20_8 K20_12 (!t1) (by kernel_rfl) (by kernel_rfl) (by kernel_rfl) (fun hb => ?_) (fun hb => ?_)
  · have hb : t1 = false := by simpa using hb
    have hc := (Bool.eq_false_iff.1 hb)
    rw [if_neg hc] at H
    clear hb
    refine OK.seq K20_9 K20_11 (by kernel_rfl) ?_
    refine OK.region 2 O20_9 (by kernel_rfl) ?_
    refine RL.simP (K' := [(2, .int .i64 0)]) (nx' := nx1) (L' := []) [] (RFacts.nil _ _ _) 1 [.no] (by kernel_rfl) (by kernel_rfl) ?_
    refine RL.nil (by kernel_rfl) ?_
    refine QN.then_ ?_
    refine OK.ret (by kernel_rfl) ?_
    refine QN.thenR ?_
    obtain rfl := Option.some.inj H
    refine QN.body rfl [] (RFacts.nil _ _ _) (.no) (.int .i64 0) (by kernel_rfl) (by kernel_rfl) (by kernel_rfl) ?_ _ (.inr rfl)
    exact fun w' hs' => ⟨_, rfl, I1, rfl, hs'.got _ .slnil⟩
  · have hb : t1 = true := by simpa using hb
    have hc := hb
    rw [if_pos hc] at H
    clear hb
    refine OK.skip (by kernel_rfl) ?_
    refine QN.then_ ?_
    refine OK.seq K20_14 K20_16 (by kernel_rfl) ?_
    refine OK.region 3 O20_14 (by kernel_rfl) ?_
    refine RL.simP (K' := [(2, .int .i64 (W .i64 ((W .i64 (a0 - 1)).tdiv 3)))]) (nx' := nx1) (L' := []) [] (RFacts.nil _ _ _) 4 [.no, .no, .no, .no] (by kernel_rfl) (by kernel_rfl) ?_
    refine RL.nil (by kernel_rfl) ?_
    refine QN.then_ ?_
    refine OK.ret (by kernel_rfl) ?_
    obtain rfl := Option.some.inj H
    refine QN.body rfl [] (RFacts.nil _ _ _) (.no) (.int .i64 (W .i64 ((W .i64 (a0 - 1)).tdiv 3))) (by kernel_rfl) (by kernel_rfl) (by kernel_rfl) ?_ _ (.inr rfl)
    exact fun w' hs' => ⟨_, rfl, I1, rfl, hs'.got _ .slnil⟩

end Go.Proofs.Ytieakigoinebdaa
