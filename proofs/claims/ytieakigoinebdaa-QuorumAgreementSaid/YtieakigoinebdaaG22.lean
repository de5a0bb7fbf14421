/- What a function of the program computes, and the walk that shows it; made by a program of the session's out of the translation; no conditions beyond those that the theorems name. -/
import Derived.Test.YtieakigoinebdaaS
import Derived.Test.YtieakigoinebdaaG20
import Derived.Test.YtieakigoinebdaaG37
namespace Go.Proofs.Ytieakigoinebdaa
open Go Go.Proofs.Ytieakigoinebdaa.RW
set_option linter.unusedVariables false
set_option maxRecDepth 100000
set_option maxHeartbeats 8000000

/-! ### quorum_Size: function 22, armillary/quorum.Size -/
noncomputable def K22_0 : Code := cBody Try.f22
noncomputable def K22_1 : Code := cL K22_0
noncomputable def O22_1 : List Oper := cOps K22_1
noncomputable def K22_3 : Code := cR K22_0
noncomputable def K22_4 : Code := cL K22_3
noncomputable def K22_5 : Code := cL K22_4
noncomputable def O22_5 : List Oper := cOps K22_5
noncomputable def K22_7 : Code := cR K22_4
noncomputable def K22_8 : Code := cL K22_7
noncomputable def K22_9 : Code := cL K22_8
noncomputable def O22_9 : List Oper := cOps K22_9
noncomputable def K22_11 : Code := cR K22_8
noncomputable def K22_12 : Code := cR K22_7
noncomputable def K22_13 : Code := cR K22_3
noncomputable def K22_14 : Code := cL K22_13
noncomputable def O22_14 : List Oper := cOps K22_14
noncomputable def K22_16 : Code := cR K22_13
def quorum_Size.f (a0 : Int) : Option (Int) := ((quorum_group_possible.f a0).bind fun t1 => (if t1 = true then ((quorum_MaxFaulty.f a0).bind fun t2 => (some (W .i64 (a0 - t2)))) else (some 0)))
def quorum_Size.Post (I : Imm) (w : World) (r : Int) (v : Value) (w' : World) : Prop :=
  ∃ (J : Imm), v = .int .i64 r ∧ Got w w' I J []
theorem quorum_Size.calls (I0 : Imm) (a0 : Int) (w : World) (hI : I0.at_ w)  (r : Int) (h : quorum_Size.f a0 = some r) :
    Calls Try.prog 22 [.int .i64 a0].toArray w fun e w' => ∃ v, e = .returned v ∧ quorum_Size.Post I0 w r v w' := by
  have H : ((quorum_group_possible.f a0).bind fun t1 => (if t1 = true then ((quorum_MaxFaulty.f a0).bind fun t2 => (some (W .i64 (a0 - t2)))) else (some 0))) = some r := h
  clear h
  refine calls_body Try.func22 (by kernel_rfl) 10 (by kernel_rfl) (by kernel_rfl) ⟨w, fun _ => False, I0⟩ I0 [] [(0, .int .i64 a0)] (by kernel_rfl) (Sat.start w _ I0 hI) ?_
  generalize w.heap.size = nx0
  show OK _ K22_0 _ _ _ _ _ _ _ _
  refine OK.seq K22_1 K22_3 (by kernel_rfl) ?_
  refine OK.region 0 O22_1 (by kernel_rfl) ?_
  refine RL.simP (K' := [(0, .int .i64 a0)]) (nx' := nx0) (L' := []) [] (RFacts.nil _ _ _) 1 [.no] (by kernel_rfl) (by kernel_rfl) ?_
  refine RL.nil (by kernel_rfl) ?_
  refine QN.then_ ?_
  refine OK.seq K22_4 K22_13 (by kernel_rfl) ?_
  refine OK.seq K22_5 K22_7 (by kernel_rfl) ?_
  refine OK.region 1 O22_5 (by kernel_rfl) ?_
  refine RL.simP (K' := [(3, .int .i64 a0), (0, .int .i64 a0)]) (nx' := nx0) (L' := []) [] (RFacts.nil _ _ _) 1 [.no] (by kernel_rfl) (by kernel_rfl) ?_
  obtain ⟨t1, hA1, H⟩ := Option.bind_eq_some_iff.mp H
  refine RL.callP 37 [.int .i64 a0] (some 4) (fun w => quorum_group_possible.Post I0 w t1) (by kernel_rfl) (by kernel_rfl) (fun w hs => quorum_group_possible.calls I0 a0 w hs.im  t1 hA1) ?_
  rintro w v w' hs ⟨I1, rfl, hg⟩
  have hi1 := hg.le
  refine RL.resume (K' := [(4, .bool t1), (3, .int .i64 a0), (0, .int .i64 a0)]) (X' := []) (by kernel_rfl) (hs.call hg) ?_
  clear hs hg
  generalize w'.heap.size = nx1
  clear w w'
  refine RL.simP (K' := [(5, .bool (!t1)), (0, .int .i64 a0)]) (nx' := nx1) (L' := []) [] (RFacts.nil _ _ _) 1 [.no] (by kernel_rfl) (by kernel_rfl) ?_
  refine RL.nil (by kernel_rfl) ?_
  refine QN.then_ ?_
  refine OK.cond (.tmp 5) K22_8 K22_12 (!t1) (by kernel_rfl) (by kernel_rfl) (by kernel_rfl) (fun hb => ?_) (fun hb => ?_)
  · have hb : t1 = false := by simpa using hb
    have hc := (Bool.eq_false_iff.1 hb)
    rw [if_neg hc] at H
    clear hb
    refine OK.seq K22_9 K22_11 (by kernel_rfl) ?_
    refine OK.region 2 O22_9 (by kernel_rfl) ?_
    refine RL.simP (K' := [(2, .int .i64 0)]) (nx' := nx1) (L' := []) [] (RFacts.nil _ _ _) 1 [.no] (by kernel_rfl) (by kernel_rfl) ?_
    refine RL.nil (by kernel_rfl) ?_
    refine QN.then_ ?_
    refine OK.ret (by kernel_rfl) ?_
    refine QN.thenR ?_
    obtain rfl := Option.some.inj H
    refine QN.body rfl [] (RFacts.nil _ _ _) (.no) (.int .i64 0) (by kernel_rfl) (by kernel_rfl) (by kernel_rfl) ?_ _ (.inr rfl)
    exact fun w' hs' => ⟨_, rfl, I1, rfl, hs'.got _ .slnil⟩
  · have hb : t1 = true := by simpa using hb
    have hc := hb
    rw [if_pos hc] at H
    clear hb
    refine OK.skip (by kernel_rfl) ?_
    refine QN.then_ ?_
    refine OK.seq K22_14 K22_16 (by kernel_rfl) ?_
    refine OK.region 3 O22_14 (by kernel_rfl) ?_
    refine RL.simP (K' := [(7, .int .i64 a0), (6, .int .i64 a0)]) (nx' := nx1) (L' := []) [] (RFacts.nil _ _ _) 2 [.no, .no] (by kernel_rfl) (by kernel_rfl) ?_
    obtain ⟨t2, hA2, H⟩ := Option.bind_eq_some_iff.mp H
    refine RL.callP 20 [.int .i64 a0] (some 8) (fun w => quorum_MaxFaulty.Post I1 w t2) (by kernel_rfl) (by kernel_rfl) (fun w hs => quorum_MaxFaulty.calls I1 a0 w hs.im  t2 hA2) ?_
    rintro w v w' hs ⟨I2, rfl, hg⟩
    have hi2 := hg.le
    refine RL.resume (K' := [(8, .int .i64 t2), (7, .int .i64 a0), (6, .int .i64 a0)]) (X' := []) (by kernel_rfl) (hs.call hg) ?_
    clear hs hg
    generalize w'.heap.size = nx2
    clear w w'
    refine RL.simP (K' := [(2, .int .i64 (W .i64 (a0 - t2)))]) (nx' := nx2) (L' := []) [] (RFacts.nil _ _ _) 2 [.no, .no] (by kernel_rfl) (by kernel_rfl) ?_
    refine RL.nil (by kernel_rfl) ?_
    refine QN.then_ ?_
    refine OK.ret (by kernel_rfl) ?_
    obtain rfl := Option.some.inj H
    refine QN.body rfl [] (RFacts.nil _ _ _) (.no) (.int .i64 (W .i64 (a0 - t2))) (by kernel_rfl) (by kernel_rfl) (by kernel_rfl) ?_ _ (.inr rfl)
    exact fun w' hs' => ⟨_, rfl, I2, rfl, hs'.got _ .slnil⟩

end Go.Proofs.Ytieakigoinebdaa
