/- What a function of the program computes, and the walk that shows it; made by a program of the session's out of the translation; no conditions beyond those that the theorems name. -/
import Derived.Test.YtieakigoinebdaaS
import Derived.Test.YtieakigoinebdaaG33
namespace Go.Proofs.Ytieakigoinebdaa
open Go Go.Proofs.Ytieakigoinebdaa.RW
set_option linter.unusedVariables false
set_option maxRecDepth 100000
set_option maxHeartbeats 8000000

/-! ### armillaryref29_Leader: function 25, armillary/armillaryref29.Leader -/
noncomputable def K25_0 : Code := cBody Try.f25
noncomputable def K25_1 : Code := cL K25_0
noncomputable def O25_1 : List Oper := cOps K25_1
noncomputable def K25_3 : Code := cR K25_0
noncomputable def K25_4 : Code := cL K25_3
noncomputable def K25_5 : Code := cL K25_4
noncomputable def O25_5 : List Oper := cOps K25_5
noncomputable def K25_7 : Code := cR K25_4
noncomputable def K25_8 : Code := cL K25_7
noncomputable def K25_9 : Code := cL K25_8
noncomputable def O25_9 : List Oper := cOps K25_9
noncomputable def K25_11 : Code := cR K25_8
noncomputable def K25_12 : Code := cR K25_7
noncomputable def K25_13 : Code := cR K25_3
noncomputable def K25_14 : Code := cL K25_13
noncomputable def O25_14 : List Oper := cOps K25_14
noncomputable def K25_16 : Code := cR K25_13
def armillaryref29_Leader.k1 (a0 : Int) (a1 : Int) (x1 : Bool) : Option (Int) := (if x1 = true then (some (-1)) else (if a0 = 0 then none else (some (a1.tmod a0))))
def armillaryref29_Leader.f (a0 : Int) (a1 : Int) : Option (Int) := (((armillaryref29_replicas.f a0).bind fun t1 => (if t1 = true then (some (decide (a1 < 0))) else (some true))).bind (armillaryref29_Leader.k1 a0 a1))
def armillaryref29_Leader.Post (I : Imm) (w : World) (r : Int) (v : Value) (w' : World) : Prop :=
  ∃ (J : Imm), v = .int .i64 r ∧ Got w w' I J []
theorem armillaryref29_Leader.calls (I0 : Imm) (a0 : Int) (a1 : Int) (w : World) (hI : I0.at_ w)  (r : Int) (h : armillaryref29_Leader.f a0 a1 = some r) :
    Calls Try.prog 25 [.int .i64 a0, .int .i64 a1].toArray w fun e w' => ∃ v, e = .returned v ∧ armillaryref29_Leader.Post I0 w r v w' := by
  have H : (((armillaryref29_replicas.f a0).bind fun t1 => (if t1 = true then (some (decide (a1 < 0))) else (some true))).bind (armillaryref29_Leader.k1 a0 a1)) = some r := h
  clear h
  refine calls_body Try.func25 (by kernel_rfl) 15 (by kernel_rfl) (by kernel_rfl) ⟨w, fun _ => False, I0⟩ I0 [] [(0, .int .i64 a0), (1, .int .i64 a1)] (by kernel_rfl) (Sat.start w _ I0 hI) ?_
  generalize w.heap.size = nx0
  show OK _ K25_0 _ _ _ _ _ _ _ _
  refine OK.seq K25_1 K25_3 (by kernel_rfl) ?_
  refine OK.region 0 O25_1 (by kernel_rfl) ?_
  refine RL.simP (K' := [(0, .int .i64 a0), (1, .int .i64 a1)]) (nx' := nx0) (L' := []) [] (RFacts.nil _ _ _) 1 [.no] (by kernel_rfl) (by kernel_rfl) ?_
  refine RL.nil (by kernel_rfl) ?_
  refine QN.then_ ?_
  refine OK.seq K25_4 K25_13 (by kernel_rfl) ?_
  refine OK.seq K25_5 K25_7 (by kernel_rfl) ?_
  refine OK.join (fun K' I' _ L' X' => ∃ (x1 : Bool), K' = [(0, .int .i64 a0), (1, .int .i64 a1), (11, .bool x1)] ∧ L' = [] ∧ X' = [] ∧ Imm.le I0 I' ∧ armillaryref29_Leader.k1 a0 a1 x1 = some r) ?_ ?_
  · rintro _ I1 nx1 _ _ ⟨x1, rfl, rfl, rfl, hi1, H⟩
    replace H : (if x1 = true then (some (-1)) else (if a0 = 0 then none else (some (a1.tmod a0)))) = some r := H
    refine QN.then_ ?_
    refine OK.cond (.tmp 11) K25_8 K25_12 x1 (by kernel_rfl) (by kernel_rfl) (by kernel_rfl) (fun hb => ?_) (fun hb => ?_)
    · skip
      have hc := hb
      rw [if_pos hc] at H
      clear hb
      refine OK.seq K25_9 K25_11 (by kernel_rfl) ?_
      refine OK.region 2 O25_9 (by kernel_rfl) ?_
      refine RL.simP (K' := [(4, .int .i64 (-1))]) (nx' := nx1) (L' := []) [] (RFacts.nil _ _ _) 1 [.no] (by kernel_rfl) (by kernel_rfl) ?_
      refine RL.nil (by kernel_rfl) ?_
      refine QN.then_ ?_
      refine OK.ret (by kernel_rfl) ?_
      refine QN.thenR ?_
      obtain rfl := Option.some.inj H
      refine QN.body rfl [] (RFacts.nil _ _ _) (.no) (.int .i64 (-1)) (by kernel_rfl) (by kernel_rfl) (by kernel_rfl) ?_ _ (.inr rfl)
      exact fun w' hs' => ⟨_, rfl, I1, rfl, hs'.got _ .slnil⟩
    · skip
      have hc := (Bool.eq_false_iff.1 hb)
      rw [if_neg hc] at H
      clear hb
      refine OK.skip (by kernel_rfl) ?_
      refine QN.then_ ?_
      refine OK.seq K25_14 K25_16 (by kernel_rfl) ?_
      refine OK.region 3 O25_14 (by kernel_rfl) ?_
      refine RL.simP (K' := [(13, .int .i64 a0), (12, .int .i64 a1)]) (nx' := nx1) (L' := []) [] (RFacts.nil _ _ _) 2 [.no, .no] (by kernel_rfl) (by kernel_rfl) ?_
      by_cases hc : a0 = 0
      · rw [if_pos hc] at H; cases H
      rw [if_neg hc] at H
      refine RL.rem .i64 a1 a0 (some 14) (by kernel_rfl) (by kernel_rfl) hc (K' := [(14, .int .i64 (a1.tmod a0)), (13, .int .i64 a0), (12, .int .i64 a1)]) (by kernel_rfl) ?_
      refine RL.simP (K' := [(4, .int .i64 (a1.tmod a0))]) (nx' := nx1) (L' := []) [] (RFacts.nil _ _ _) 1 [.no] (by kernel_rfl) (by kernel_rfl) ?_
      refine RL.nil (by kernel_rfl) ?_
      refine QN.then_ ?_
      refine OK.ret (by kernel_rfl) ?_
      obtain rfl := Option.some.inj H
      refine QN.body rfl [] (RFacts.nil _ _ _) (.no) (.int .i64 (a1.tmod a0)) (by kernel_rfl) (by kernel_rfl) (by kernel_rfl) ?_ _ (.inr rfl)
      exact fun w' hs' => ⟨_, rfl, I1, rfl, hs'.got _ .slnil⟩
  · intro Q_1 hJ1 hQ1
    obtain ⟨y1, H, HK1⟩ := Option.bind_eq_some_iff.mp H
    refine OK.region 1 O25_5 (by kernel_rfl) ?_
    refine RL.simP (K' := [(5, .int .i64 a0), (0, .int .i64 a0), (1, .int .i64 a1)]) (nx' := nx0) (L' := []) [] (RFacts.nil _ _ _) 1 [.no] (by kernel_rfl) (by kernel_rfl) ?_
    obtain ⟨t1, hA1, H⟩ := Option.bind_eq_some_iff.mp H
    refine RL.callP 33 [.int .i64 a0] (some 6) (fun w => armillaryref29_replicas.Post I0 w t1) (by kernel_rfl) (by kernel_rfl) (fun w hs => armillaryref29_replicas.calls I0 a0 w hs.im  t1 hA1) ?_
    rintro w v w' hs ⟨I2, rfl, hg⟩
    have hi2 := hg.le
    refine RL.resume (K' := [(6, .bool t1), (5, .int .i64 a0), (0, .int .i64 a0), (1, .int .i64 a1)]) (X' := []) (by kernel_rfl) (hs.call hg) ?_
    clear hs hg
    generalize w'.heap.size = nx2
    clear w w'
    refine RL.simP (K' := [(8, .bool (!t1)), (0, .int .i64 a0), (1, .int .i64 a1)]) (nx' := nx2) (L' := []) [] (RFacts.nil _ _ _) 2 [.no, .no] (by kernel_rfl) (by kernel_rfl) ?_
    refine RL.cases t1 (fun hb => ?_) (fun hb => ?_)
    · have hc := hb
      refine RL.norm (K' := [(8, .bool false), (0, .int .i64 a0), (1, .int .i64 a1)]) (L' := []) (by rw [hb]; try rfl) rfl (by first | rfl | (rw [hb]; try rfl)) rfl ?_
      rw [if_pos hc] at H; clear hb
      refine RL.simP (K' := [(11, .bool (decide (a1 < 0))), (0, .int .i64 a0), (1, .int .i64 a1)]) (nx' := nx2) (L' := []) [] (RFacts.nil _ _ _) 3 [.no, .no, .no] (by kernel_rfl) (by kernel_rfl) ?_
      refine RL.nil (by kernel_rfl) ?_
      obtain rfl := Option.some.inj H
      refine QN.sub (K' := [(0, .int .i64 a0), (1, .int .i64 a1), (11, .bool (decide (a1 < 0)))]) (L' := []) (by kernel_rfl) .slnil (.refl _) ?_
      exact hJ1 _ _ _ _ _ ⟨(decide (a1 < 0)), rfl, rfl, rfl, hi2, HK1⟩
    · have hc := (Bool.eq_false_iff.1 hb)
      refine RL.norm (K' := [(8, .bool true), (0, .int .i64 a0), (1, .int .i64 a1)]) (L' := []) (by rw [hb]; try rfl) rfl (by first | rfl | (rw [hb]; try rfl)) rfl ?_
      rw [if_neg hc] at H; clear hb
      refine RL.simP (K' := [(11, .bool true), (0, .int .i64 a0), (1, .int .i64 a1)]) (nx' := nx2) (L' := []) [] (RFacts.nil _ _ _) 3 [.no, .no, .no] (by kernel_rfl) (by kernel_rfl) ?_
      refine RL.nil (by kernel_rfl) ?_
      obtain rfl := Option.some.inj H
      refine QN.sub (K' := [(0, .int .i64 a0), (1, .int .i64 a1), (11, .bool true)]) (L' := []) (by kernel_rfl) .slnil (.refl _) ?_
      exact hJ1 _ _ _ _ _ ⟨true, rfl, rfl, rfl, hi2, HK1⟩

end Go.Proofs.Ytieakigoinebdaa
