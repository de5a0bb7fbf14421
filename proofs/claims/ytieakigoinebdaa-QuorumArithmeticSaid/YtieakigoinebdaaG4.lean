/- What a function of the program computes, and the walk that shows it; made by a program of the session's out of the translation; no conditions beyond those that the theorems name. -/
import Derived.Test.YtieakigoinebdaaS
import Derived.Test.YtieakigoinebdaaG10
import Derived.Test.YtieakigoinebdaaG20
import Derived.Test.YtieakigoinebdaaG22
import Derived.Test.YtieakigoinebdaaG24
namespace Go.Proofs.Ytieakigoinebdaa
open Go Go.Proofs.Ytieakigoinebdaa.RW
set_option linter.unusedVariables false
set_option maxRecDepth 100000
set_option maxHeartbeats 8000000

/-! ### armillarylaw29_QuorumArithmetic: function 4, armillary/armillarylaw29.QuorumArithmetic -/
noncomputable def K4_0 : Code := cBody Try.f4
noncomputable def K4_1 : Code := cL K4_0
noncomputable def O4_1 : List Oper := cOps K4_1
noncomputable def K4_3 : Code := cR K4_0
noncomputable def K4_4 : Code := cL K4_3
noncomputable def O4_4 : List Oper := cOps K4_4
noncomputable def K4_6 : Code := cR K4_3
noncomputable def K4_7 : Code := cL K4_6
noncomputable def O4_7 : List Oper := cOps K4_7
noncomputable def K4_9 : Code := cR K4_6
noncomputable def K4_10 : Code := cL K4_9
noncomputable def O4_10 : List Oper := cOps K4_10
noncomputable def K4_12 : Code := cR K4_9
noncomputable def K4_13 : Code := cL K4_12
noncomputable def O4_13 : List Oper := cOps K4_13
noncomputable def K4_15 : Code := cR K4_12
noncomputable def K4_16 : Code := cL K4_15
noncomputable def K4_17 : Code := cL K4_16
noncomputable def O4_17 : List Oper := cOps K4_17
noncomputable def K4_19 : Code := cR K4_16
noncomputable def K4_20 : Code := cL K4_19
noncomputable def K4_21 : Code := cL K4_20
noncomputable def K4_22 : Code := cL K4_21
noncomputable def K4_23 : Code := cL K4_22
noncomputable def O4_23 : List Oper := cOps K4_23
noncomputable def K4_25 : Code := cR K4_22
noncomputable def K4_26 : Code := cL K4_25
noncomputable def K4_27 : Code := cR K4_25
noncomputable def K4_28 : Code := cR K4_21
noncomputable def K4_29 : Code := cL K4_28
noncomputable def K4_30 : Code := cL K4_29
noncomputable def K4_31 : Code := cL K4_30
noncomputable def O4_31 : List Oper := cOps K4_31
noncomputable def K4_33 : Code := cR K4_30
noncomputable def K4_34 : Code := cL K4_33
noncomputable def K4_35 : Code := cL K4_34
noncomputable def O4_35 : List Oper := cOps K4_35
noncomputable def K4_37 : Code := cR K4_34
noncomputable def K4_38 : Code := cL K4_37
noncomputable def K4_39 : Code := cL K4_38
noncomputable def O4_39 : List Oper := cOps K4_39
noncomputable def K4_41 : Code := cR K4_38
noncomputable def K4_42 : Code := cR K4_37
noncomputable def K4_43 : Code := cR K4_33
noncomputable def O4_43 : List Oper := cOps K4_43
noncomputable def K4_45 : Code := cR K4_28
noncomputable def O4_45 : List Oper := cOps K4_45
noncomputable def K4_47 : Code := cR K4_15
noncomputable def K4_48 : Code := cL K4_47
noncomputable def K4_49 : Code := cL K4_48
noncomputable def O4_49 : List Oper := cOps K4_49
noncomputable def K4_51 : Code := cR K4_48
noncomputable def K4_52 : Code := cL K4_51
noncomputable def K4_53 : Code := cL K4_52
noncomputable def K4_54 : Code := cL K4_53
noncomputable def K4_55 : Code := cL K4_54
noncomputable def O4_55 : List Oper := cOps K4_55
noncomputable def K4_57 : Code := cR K4_54
noncomputable def K4_58 : Code := cL K4_57
noncomputable def K4_59 : Code := cR K4_57
noncomputable def K4_60 : Code := cR K4_53
noncomputable def K4_61 : Code := cL K4_60
noncomputable def K4_62 : Code := cL K4_61
noncomputable def K4_63 : Code := cL K4_62
noncomputable def O4_63 : List Oper := cOps K4_63
noncomputable def K4_65 : Code := cR K4_62
noncomputable def K4_66 : Code := cL K4_65
noncomputable def K4_67 : Code := cL K4_66
noncomputable def O4_67 : List Oper := cOps K4_67
noncomputable def K4_69 : Code := cR K4_66
noncomputable def K4_70 : Code := cR K4_65
noncomputable def K4_71 : Code := cR K4_60
noncomputable def O4_71 : List Oper := cOps K4_71
noncomputable def K4_73 : Code := cR K4_47
noncomputable def K4_74 : Code := cL K4_73
noncomputable def O4_74 : List Oper := cOps K4_74
noncomputable def K4_76 : Code := cR K4_73
def armillarylaw29_QuorumArithmetic.k1  (x2 : Bool) : Option (Bool) := (some x2)
def armillarylaw29_QuorumArithmetic.k2 (a0 : Int) (t1 : Bool) (t2 : Int) (t3 : Int) : (Unit) ⊕ (Bool) → Option (Bool)
  | .inl () => ((if t2 ≥ 0 then (if (W .i64 (3 * t2)) < (W .i64 (1 + (W .i64 (a0.tmod 13)))) then (if (W .i64 ((W .i64 (3 * t2)) + 3)) ≥ (W .i64 (1 + (W .i64 (a0.tmod 13)))) then (if t3 > t2 then (if t3 ≤ (W .i64 (1 + (W .i64 (a0.tmod 13)))) then (if (W .i64 ((W .i64 (2 * t3)) - (W .i64 (1 + (W .i64 (a0.tmod 13)))))) > t2 then (some t1) else (some false)) else (some false)) else (some false)) else (some false)) else (some false)) else (some false)).bind (armillarylaw29_QuorumArithmetic.k1))
  | .inr r_ => some r_
def armillarylaw29_QuorumArithmetic.l1 (a0 : Int) (x1 : List Int) : Nat → Int → Option ((Unit) ⊕ (Bool))
  | 0, _ => none
  | k + 1, x3 => (if x3 < (W .i64 (1 + (W .i64 (a0.tmod 13)))) then (if 0 ≤ x3 then (if x3 < (x1.length : Int) then (if (x1.getD (x3).toNat 0) ≠ 1 then (some (Sum.inr false)) else (armillarylaw29_QuorumArithmetic.l1 a0 x1 k (W .i64 (x3 + 1)))) else none) else none) else (some (Sum.inl ())))
def armillarylaw29_QuorumArithmetic.k3 (k : Nat) (a0 : Int) (t1 : Bool) (t2 : Int) (t3 : Int) : (List Int) ⊕ (Bool) → Option (Bool)
  | .inl x1 => ((armillarylaw29_QuorumArithmetic.l1 a0 x1 k 0).bind (armillarylaw29_QuorumArithmetic.k2 a0 t1 t2 t3))
  | .inr r_ => some r_
def armillarylaw29_QuorumArithmetic.l2 (a0 : Int) (a1 : Int) : Nat → (List Int) → Int → Option ((List Int) ⊕ (Bool))
  | 0, _, _ => none
  | k + 1, x4, x5 => (if x5 < (W .i64 (1 + (W .i64 (a0.tmod 13)))) then ((quorum_Leader.f (W .i64 (1 + (W .i64 (a0.tmod 13)))) (W .i64 ((W .i64 (a1)) + x5))).bind fun t4 => ((if t4 < 0 then (some true) else (some (decide (t4 ≥ (W .i64 (1 + (W .i64 (a0.tmod 13)))))))).bind (fun x6 => (if x6 = true then (some (Sum.inr false)) else (if 0 ≤ t4 then (if t4 < (x4.length : Int) then (if 0 ≤ t4 then (if t4 < (x4.length : Int) then (armillarylaw29_QuorumArithmetic.l2 a0 a1 k (x4.set (t4).toNat (W .i64 ((x4.getD (t4).toNat 0) + 1))) (W .i64 (x5 + 1))) else none) else none) else none) else none))))) else (some (Sum.inl x4)))
def armillarylaw29_QuorumArithmetic.f (k : Nat) (a0 : Int) (a1 : Int) : Option (Bool) := ((armillarylaw29_sanity.f k ).bind fun t1 => ((quorum_MaxFaulty.f (W .i64 (1 + (W .i64 (a0.tmod 13))))).bind fun t2 => ((quorum_Size.f (W .i64 (1 + (W .i64 (a0.tmod 13))))).bind fun t3 => (if 0 ≤ (W .i64 (1 + (W .i64 (a0.tmod 13)))) then (if (W .i64 (1 + (W .i64 (a0.tmod 13)))) ≤ 35184372088832 then ((armillarylaw29_QuorumArithmetic.l2 a0 a1 k (List.replicate (W .i64 (1 + (W .i64 (a0.tmod 13)))).toNat (0 : Int)) 0).bind (armillarylaw29_QuorumArithmetic.k3 k a0 t1 t2 t3)) else none) else none))))
def armillarylaw29_QuorumArithmetic.Post (I : Imm) (w : World) (r : Bool) (v : Value) (w' : World) : Prop :=
  ∃ (J : Imm), v = .bool r ∧ Got w w' I J []
theorem armillarylaw29_QuorumArithmetic.calls (k : Nat) (I0 : Imm) (a0 : Int) (a1 : Int) (w : World) (hI : I0.at_ w)  (r : Bool) (h : armillarylaw29_QuorumArithmetic.f k a0 a1 = some r) :
    Calls Try.prog 4 [.int .u8 a0, .int .u16 a1].toArray w fun e w' => ∃ v, e = .returned v ∧ armillarylaw29_QuorumArithmetic.Post I0 w r v w' := by
  have H : ((armillarylaw29_sanity.f k ).bind fun t1 => ((quorum_MaxFaulty.f (W .i64 (1 + (W .i64 (a0.tmod 13))))).bind fun t2 => ((quorum_Size.f (W .i64 (1 + (W .i64 (a0.tmod 13))))).bind fun t3 => (if 0 ≤ (W .i64 (1 + (W .i64 (a0.tmod 13)))) then (if (W .i64 (1 + (W .i64 (a0.tmod 13)))) ≤ 35184372088832 then ((armillarylaw29_QuorumArithmetic.l2 a0 a1 k (List.replicate (W .i64 (1 + (W .i64 (a0.tmod 13)))).toNat (0 : Int)) 0).bind (armillarylaw29_QuorumArithmetic.k3 k a0 t1 t2 t3)) else none) else none)))) = some r := h
  clear h
  refine calls_body Try.func4 (by kernel_rfl) 94 (by kernel_rfl) (by kernel_rfl) ⟨w, fun _ => False, I0⟩ I0 [] [(0, .int .u8 a0), (1, .int .u16 a1)] (by kernel_rfl) (Sat.start w _ I0 hI) ?_
  generalize w.heap.size = nx0
  show OK _ K4_0 _ _ _ _ _ _ _ _
  refine OK.seq K4_1 K4_3 (by kernel_rfl) ?_
  refine OK.region 0 O4_1 (by kernel_rfl) ?_
  refine RL.simP (K' := [(0, .int .u8 a0), (1, .int .u16 a1)]) (nx' := nx0) (L' := []) [] (RFacts.nil _ _ _) 1 [.no] (by kernel_rfl) (by kernel_rfl) ?_
  refine RL.nil (by kernel_rfl) ?_
  refine QN.then_ ?_
  refine OK.seq K4_4 K4_6 (by kernel_rfl) ?_
  refine OK.region 1 O4_4 (by kernel_rfl) ?_
  obtain ⟨t1, hA1, H⟩ := Option.bind_eq_some_iff.mp H
  refine RL.callP 10 [] (some 13) (fun w => armillarylaw29_sanity.Post I0 w t1) (by kernel_rfl) (by kernel_rfl) (fun w hs => armillarylaw29_sanity.calls k I0  w hs.im  t1 hA1) ?_
  rintro w v w' hs ⟨I1, rfl, hg⟩
  have hi1 := hg.le
  refine RL.resume (K' := [(13, .bool t1), (0, .int .u8 a0), (1, .int .u16 a1)]) (X' := []) (by kernel_rfl) (hs.call hg) ?_
  clear hs hg
  generalize w'.heap.size = nx1
  clear w w'
  refine RL.simP (K' := [(5, .bool t1), (0, .int .u8 a0), (1, .int .u16 a1)]) (nx' := nx1) (L' := []) [] (RFacts.nil _ _ _) 1 [.no] (by kernel_rfl) (by kernel_rfl) ?_
  refine RL.nil (by kernel_rfl) ?_
  refine QN.then_ ?_
  refine OK.seq K4_7 K4_9 (by kernel_rfl) ?_
  refine OK.region 2 O4_7 (by kernel_rfl) ?_
  refine RL.simP (K' := [(6, .int .i64 (W .i64 (1 + (W .i64 (a0.tmod 13))))), (5, .bool t1), (1, .int .u16 a1)]) (nx' := nx1) (L' := []) [] (RFacts.nil _ _ _) 5 [.no, .no, .no, .no, .no] (by kernel_rfl) (by kernel_rfl) ?_
  refine RL.nil (by kernel_rfl) ?_
  refine QN.then_ ?_
  refine OK.seq K4_10 K4_12 (by kernel_rfl) ?_
  refine OK.region 3 O4_10 (by kernel_rfl) ?_
  refine RL.simP (K' := [(18, .int .i64 (W .i64 (1 + (W .i64 (a0.tmod 13))))), (6, .int .i64 (W .i64 (1 + (W .i64 (a0.tmod 13))))), (5, .bool t1), (1, .int .u16 a1)]) (nx' := nx1) (L' := []) [] (RFacts.nil _ _ _) 1 [.no] (by kernel_rfl) (by kernel_rfl) ?_
  obtain ⟨t2, hA2, H⟩ := Option.bind_eq_some_iff.mp H
  refine RL.callP 20 [.int .i64 (W .i64 (1 + (W .i64 (a0.tmod 13))))] (some 19) (fun w => quorum_MaxFaulty.Post I1 w t2) (by kernel_rfl) (by kernel_rfl) (fun w hs => quorum_MaxFaulty.calls I1 (W .i64 (1 + (W .i64 (a0.tmod 13)))) w hs.im  t2 hA2) ?_
  rintro w v w' hs ⟨I2, rfl, hg⟩
  have hi2 := hg.le
  refine RL.resume (K' := [(19, .int .i64 t2), (18, .int .i64 (W .i64 (1 + (W .i64 (a0.tmod 13))))), (6, .int .i64 (W .i64 (1 + (W .i64 (a0.tmod 13))))), (5, .bool t1), (1, .int .u16 a1)]) (X' := []) (by kernel_rfl) (hs.call hg) ?_
  clear hs hg
  generalize w'.heap.size = nx2
  clear w w'
  refine RL.simP (K' := [(20, .int .i64 (W .i64 (1 + (W .i64 (a0.tmod 13))))), (19, .int .i64 t2), (6, .int .i64 (W .i64 (1 + (W .i64 (a0.tmod 13))))), (5, .bool t1), (1, .int .u16 a1)]) (nx' := nx2) (L' := []) [] (RFacts.nil _ _ _) 1 [.no] (by kernel_rfl) (by kernel_rfl) ?_
  obtain ⟨t3, hA3, H⟩ := Option.bind_eq_some_iff.mp H
  refine RL.callP 22 [.int .i64 (W .i64 (1 + (W .i64 (a0.tmod 13))))] (some 21) (fun w => quorum_Size.Post I2 w t3) (by kernel_rfl) (by kernel_rfl) (fun w hs => quorum_Size.calls I2 (W .i64 (1 + (W .i64 (a0.tmod 13)))) w hs.im  t3 hA3) ?_
  rintro w v w' hs ⟨I3, rfl, hg⟩
  have hi3 := hg.le
  refine RL.resume (K' := [(21, .int .i64 t3), (20, .int .i64 (W .i64 (1 + (W .i64 (a0.tmod 13))))), (19, .int .i64 t2), (6, .int .i64 (W .i64 (1 + (W .i64 (a0.tmod 13))))), (5, .bool t1), (1, .int .u16 a1)]) (X' := []) (by kernel_rfl) (hs.call hg) ?_
  clear hs hg
  generalize w'.heap.size = nx3
  clear w w'
  refine RL.simP (K' := [(8, .int .i64 t3), (7, .int .i64 t2), (6, .int .i64 (W .i64 (1 + (W .i64 (a0.tmod 13))))), (5, .bool t1), (1, .int .u16 a1)]) (nx' := nx3) (L' := []) [] (RFacts.nil _ _ _) 2 [.no, .no] (by kernel_rfl) (by kernel_rfl) ?_
  refine RL.nil (by kernel_rfl) ?_
  refine QN.then_ ?_
  refine OK.seq K4_13 K4_15 (by kernel_rfl) ?_
  refine OK.region 4 O4_13 (by kernel_rfl) ?_
  refine RL.simP (K' := [(22, .int .i64 (W .i64 (1 + (W .i64 (a0.tmod 13))))), (8, .int .i64 t3), (7, .int .i64 t2), (6, .int .i64 (W .i64 (1 + (W .i64 (a0.tmod 13))))), (5, .bool t1), (1, .int .u16 a1)]) (nx' := nx3) (L' := []) [] (RFacts.nil _ _ _) 1 [.no] (by kernel_rfl) (by kernel_rfl) ?_
  by_cases hm1 : 0 ≤ (W .i64 (1 + (W .i64 (a0.tmod 13))))
  case neg => rw [if_neg hm1] at H; cases H
  rw [if_pos hm1] at H
  by_cases hm2 : (W .i64 (1 + (W .i64 (a0.tmod 13)))) ≤ 35184372088832
  case neg => rw [if_neg hm2] at H; cases H
  rw [if_pos hm2] at H
  refine RL.makeL (T := 48) (e := 3) (W .i64 (1 + (W .i64 (a0.tmod 13)))) .i64 .i64 (some 23) (.int .i64 0) (0) (Ty.int .i64) 8 (by kernel_rfl) (by kernel_rfl) (by kernel_rfl) (by kernel_rfl) (by kernel_rfl) rfl hm1 (by omega) (by omega) (fun nx4 hp1 => ?_)
  refine RL.norm (K' := [(23, .slice (some ⟨nx3, 0, none⟩) ((List.replicate (W .i64 (1 + (W .i64 (a0.tmod 13)))).toNat (0 : Int)).length) ((List.replicate (W .i64 (1 + (W .i64 (a0.tmod 13)))).toNat (0 : Int)).length)), (22, .int .i64 (W .i64 (1 + (W .i64 (a0.tmod 13))))), (8, .int .i64 t3), (7, .int .i64 t2), (6, .int .i64 (W .i64 (1 + (W .i64 (a0.tmod 13))))), (5, .bool t1), (1, .int .u16 a1)]) (X' := [orow 3 1 (some ⟨nx3, 0, none⟩) ((List.replicate (W .i64 (1 + (W .i64 (a0.tmod 13)))).toNat (0 : Int)).length) ((List.replicate (W .i64 (1 + (W .i64 (a0.tmod 13)))).toNat (0 : Int)).length) (List.replicate (W .i64 (1 + (W .i64 (a0.tmod 13)))).toNat (.int .i64 0))]) (by kernel_rfl) rfl rfl (by kernel_rfl) ?_
  refine RL.simP (K' := [(9, .slice (some ⟨nx3, 0, none⟩) ((List.replicate (W .i64 (1 + (W .i64 (a0.tmod 13)))).toNat (0 : Int)).length) ((List.replicate (W .i64 (1 + (W .i64 (a0.tmod 13)))).toNat (0 : Int)).length)), (8, .int .i64 t3), (7, .int .i64 t2), (6, .int .i64 (W .i64 (1 + (W .i64 (a0.tmod 13))))), (5, .bool t1), (1, .int .u16 a1)]) (nx' := nx4) (L' := []) [] (RFacts.nil _ _ _) 1 [.no] (by kernel_rfl) (by kernel_rfl) ?_
  refine RL.nil (by kernel_rfl) ?_
  refine QN.then_ ?_
  refine OK.seq K4_16 K4_47 (by kernel_rfl) ?_
  refine OK.seq K4_17 K4_19 (by kernel_rfl) ?_
  refine OK.region 5 O4_17 (by kernel_rfl) ?_
  refine RL.simP (K' := [(10, .int .i64 0), (9, .slice (some ⟨nx3, 0, none⟩) ((List.replicate (W .i64 (1 + (W .i64 (a0.tmod 13)))).toNat (0 : Int)).length) ((List.replicate (W .i64 (1 + (W .i64 (a0.tmod 13)))).toNat (0 : Int)).length)), (8, .int .i64 t3), (7, .int .i64 t2), (6, .int .i64 (W .i64 (1 + (W .i64 (a0.tmod 13))))), (5, .bool t1), (1, .int .u16 a1)]) (nx' := nx4) (L' := []) [] (RFacts.nil _ _ _) 1 [.no] (by kernel_rfl) (by kernel_rfl) ?_
  refine RL.nil (by kernel_rfl) ?_
  refine QN.then_ ?_
  refine OK.join (fun K' I' _ L' X' => ∃ (x1 : List Int) (A1 : Option Addr) (c1 : Nat) (cs1 : List Value), K' = [(5, .bool t1), (6, .int .i64 (W .i64 (1 + (W .i64 (a0.tmod 13))))), (7, .int .i64 t2), (8, .int .i64 t3), (9, .slice A1 x1.length c1)] ∧ L' = [] ∧ X' = [orow 3 1 A1 x1.length c1 cs1] ∧ Imm.le I3 I' ∧ Reps (Ty.int .i64) I' x1 cs1 ∧ armillarylaw29_QuorumArithmetic.k3 k a0 t1 t2 t3 (Sum.inl x1) = some r) ?_ ?_
  · rintro _ I4 nx5 _ _ ⟨x1, A1, c1, cs1, rfl, rfl, rfl, hi4, hp2, H⟩
    replace H : ((armillarylaw29_QuorumArithmetic.l1 a0 x1 k 0).bind (armillarylaw29_QuorumArithmetic.k2 a0 t1 t2 t3)) = some r := H
    refine QN.then_ ?_
    refine OK.seq K4_48 K4_73 (by kernel_rfl) ?_
    refine OK.seq K4_49 K4_51 (by kernel_rfl) ?_
    refine OK.region 12 O4_49 (by kernel_rfl) ?_
    refine RL.simP (K' := [(12, .int .i64 0), (5, .bool t1), (6, .int .i64 (W .i64 (1 + (W .i64 (a0.tmod 13))))), (7, .int .i64 t2), (8, .int .i64 t3), (9, .slice A1 x1.length c1)]) (nx' := nx5) (L' := []) [] (RFacts.nil _ _ _) 1 [.no] (by kernel_rfl) (by kernel_rfl) ?_
    refine RL.nil (by kernel_rfl) ?_
    refine QN.then_ ?_
    refine OK.join (fun K' I' _ L' X' => K' = [(5, .bool t1), (6, .int .i64 (W .i64 (1 + (W .i64 (a0.tmod 13))))), (7, .int .i64 t2), (8, .int .i64 t3)] ∧ L' = [] ∧ X' = [] ∧ Imm.le I4 I' ∧ armillarylaw29_QuorumArithmetic.k2 a0 t1 t2 t3 (Sum.inl ()) = some r) ?_ ?_
    · rintro _ I5 nx6 _ _ ⟨rfl, rfl, rfl, hi5, H⟩
      replace H : ((if t2 ≥ 0 then (if (W .i64 (3 * t2)) < (W .i64 (1 + (W .i64 (a0.tmod 13)))) then (if (W .i64 ((W .i64 (3 * t2)) + 3)) ≥ (W .i64 (1 + (W .i64 (a0.tmod 13)))) then (if t3 > t2 then (if t3 ≤ (W .i64 (1 + (W .i64 (a0.tmod 13)))) then (if (W .i64 ((W .i64 (2 * t3)) - (W .i64 (1 + (W .i64 (a0.tmod 13)))))) > t2 then (some t1) else (some false)) else (some false)) else (some false)) else (some false)) else (some false)) else (some false)).bind (armillarylaw29_QuorumArithmetic.k1)) = some r := H
      refine QN.then_ ?_
      refine OK.seq K4_74 K4_76 (by kernel_rfl) ?_
      refine OK.join (fun K' I' _ L' X' => ∃ (x2 : Bool), K' = [(4, .bool x2)] ∧ L' = [] ∧ X' = [] ∧ Imm.le I5 I' ∧ armillarylaw29_QuorumArithmetic.k1 x2 = some r) ?_ ?_
      · rintro _ I6 nx7 _ _ ⟨x2, rfl, rfl, rfl, hi6, H⟩
        replace H : (some x2) = some r := H
        refine QN.then_ ?_
        refine OK.ret (by kernel_rfl) ?_
        obtain rfl := Option.some.inj H
        refine QN.body rfl [] (RFacts.nil _ _ _) (.no) (.bool x2) (by kernel_rfl) (by kernel_rfl) (by kernel_rfl) ?_ _ (.inr rfl)
        exact fun w' hs' => ⟨_, rfl, I6, rfl, hs'.got _ .slnil⟩
      · intro Q_1 hJ3 hQ3
        obtain ⟨y3, H, HK3⟩ := Option.bind_eq_some_iff.mp H
        refine OK.region 17 O4_74 (by kernel_rfl) ?_
        refine RL.simP (K' := [(60, .bool (decide (t2 ≥ 0))), (5, .bool t1), (6, .int .i64 (W .i64 (1 + (W .i64 (a0.tmod 13))))), (7, .int .i64 t2), (8, .int .i64 t3)]) (nx' := nx6) (L' := []) [] (RFacts.nil _ _ _) 3 [.no, .no, .no] (by kernel_rfl) (by kernel_rfl) ?_
        refine RL.cases (decide (t2 ≥ 0)) (fun hb => ?_) (fun hb => ?_)
        · have hc := (of_decide_eq_true hb)
          refine RL.norm (K' := [(60, .bool true), (5, .bool t1), (6, .int .i64 (W .i64 (1 + (W .i64 (a0.tmod 13))))), (7, .int .i64 t2), (8, .int .i64 t3)]) (L' := []) (by rw [hb]; try rfl) rfl (by first | rfl | (rw [hb]; try rfl)) rfl ?_
          rw [if_pos hc] at H; clear hb
          refine RL.simP (K' := [(66, .bool (decide ((W .i64 (3 * t2)) < (W .i64 (1 + (W .i64 (a0.tmod 13))))))), (5, .bool t1), (6, .int .i64 (W .i64 (1 + (W .i64 (a0.tmod 13))))), (7, .int .i64 t2), (8, .int .i64 t3)]) (nx' := nx6) (L' := []) [] (RFacts.nil _ _ _) 6 [.no, .no, .no, .no, .no, .no] (by kernel_rfl) (by kernel_rfl) ?_
          refine RL.cases (decide ((W .i64 (3 * t2)) < (W .i64 (1 + (W .i64 (a0.tmod 13)))))) (fun hb => ?_) (fun hb => ?_)
          · have hc := (of_decide_eq_true hb)
            refine RL.norm (K' := [(66, .bool true), (5, .bool t1), (6, .int .i64 (W .i64 (1 + (W .i64 (a0.tmod 13))))), (7, .int .i64 t2), (8, .int .i64 t3)]) (L' := []) (by rw [hb]; try rfl) rfl (by first | rfl | (rw [hb]; try rfl)) rfl ?_
            rw [if_pos hc] at H; clear hb
            refine RL.simP (K' := [(73, .bool (decide ((W .i64 ((W .i64 (3 * t2)) + 3)) ≥ (W .i64 (1 + (W .i64 (a0.tmod 13))))))), (5, .bool t1), (6, .int .i64 (W .i64 (1 + (W .i64 (a0.tmod 13))))), (7, .int .i64 t2), (8, .int .i64 t3)]) (nx' := nx6) (L' := []) [] (RFacts.nil _ _ _) 7 [.no, .no, .no, .no, .no, .no, .no] (by kernel_rfl) (by kernel_rfl) ?_
            refine RL.cases (decide ((W .i64 ((W .i64 (3 * t2)) + 3)) ≥ (W .i64 (1 + (W .i64 (a0.tmod 13)))))) (fun hb => ?_) (fun hb => ?_)
            · have hc := (of_decide_eq_true hb)
              refine RL.norm (K' := [(73, .bool true), (5, .bool t1), (6, .int .i64 (W .i64 (1 + (W .i64 (a0.tmod 13))))), (7, .int .i64 t2), (8, .int .i64 t3)]) (L' := []) (by rw [hb]; try rfl) rfl (by first | rfl | (rw [hb]; try rfl)) rfl ?_
              rw [if_pos hc] at H; clear hb
              refine RL.simP (K' := [(78, .bool (decide (t3 > t2))), (5, .bool t1), (6, .int .i64 (W .i64 (1 + (W .i64 (a0.tmod 13))))), (7, .int .i64 t2), (8, .int .i64 t3)]) (nx' := nx6) (L' := []) [] (RFacts.nil _ _ _) 5 [.no, .no, .no, .no, .no] (by kernel_rfl) (by kernel_rfl) ?_
              refine RL.cases (decide (t3 > t2)) (fun hb => ?_) (fun hb => ?_)
              · have hc := (of_decide_eq_true hb)
                refine RL.norm (K' := [(78, .bool true), (5, .bool t1), (6, .int .i64 (W .i64 (1 + (W .i64 (a0.tmod 13))))), (7, .int .i64 t2), (8, .int .i64 t3)]) (L' := []) (by rw [hb]; try rfl) rfl (by first | rfl | (rw [hb]; try rfl)) rfl ?_
                rw [if_pos hc] at H; clear hb
                refine RL.simP (K' := [(83, .bool (decide (t3 ≤ (W .i64 (1 + (W .i64 (a0.tmod 13))))))), (5, .bool t1), (6, .int .i64 (W .i64 (1 + (W .i64 (a0.tmod 13))))), (7, .int .i64 t2), (8, .int .i64 t3)]) (nx' := nx6) (L' := []) [] (RFacts.nil _ _ _) 5 [.no, .no, .no, .no, .no] (by kernel_rfl) (by kernel_rfl) ?_
                refine RL.cases (decide (t3 ≤ (W .i64 (1 + (W .i64 (a0.tmod 13)))))) (fun hb => ?_) (fun hb => ?_)
                · have hc := (of_decide_eq_true hb)
                  refine RL.norm (K' := [(83, .bool true), (5, .bool t1), (6, .int .i64 (W .i64 (1 + (W .i64 (a0.tmod 13))))), (7, .int .i64 t2), (8, .int .i64 t3)]) (L' := []) (by rw [hb]; try rfl) rfl (by first | rfl | (rw [hb]; try rfl)) rfl ?_
                  rw [if_pos hc] at H; clear hb
                  refine RL.simP (K' := [(91, .bool (decide ((W .i64 ((W .i64 (2 * t3)) - (W .i64 (1 + (W .i64 (a0.tmod 13)))))) > t2))), (5, .bool t1)]) (nx' := nx6) (L' := []) [] (RFacts.nil _ _ _) 8 [.no, .no, .no, .no, .no, .no, .no, .no] (by kernel_rfl) (by kernel_rfl) ?_
                  refine RL.cases (decide ((W .i64 ((W .i64 (2 * t3)) - (W .i64 (1 + (W .i64 (a0.tmod 13)))))) > t2)) (fun hb => ?_) (fun hb => ?_)
                  · have hc := (of_decide_eq_true hb)
                    refine RL.norm (K' := [(91, .bool true), (5, .bool t1)]) (L' := []) (by rw [hb]; try rfl) rfl (by first | rfl | (rw [hb]; try rfl)) rfl ?_
                    rw [if_pos hc] at H; clear hb
                    refine RL.simP (K' := [(4, .bool t1)]) (nx' := nx6) (L' := []) [] (RFacts.nil _ _ _) 3 [.no, .no, .no] (by kernel_rfl) (by kernel_rfl) ?_
                    refine RL.nil (by kernel_rfl) ?_
                    obtain rfl := Option.some.inj H
                    refine QN.sub (K' := [(4, .bool t1)]) (L' := []) (by kernel_rfl) .slnil (.refl _) ?_
                    exact hJ3 _ _ _ _ _ ⟨t1, rfl, rfl, rfl, (Imm.le_refl _), HK3⟩
                  · have hc := (of_decide_eq_false hb)
                    refine RL.norm (K' := [(91, .bool false), (5, .bool t1)]) (L' := []) (by rw [hb]; try rfl) rfl (by first | rfl | (rw [hb]; try rfl)) rfl ?_
                    rw [if_neg hc] at H; clear hb
                    refine RL.simP (K' := [(4, .bool false)]) (nx' := nx6) (L' := []) [] (RFacts.nil _ _ _) 3 [.no, .no, .no] (by kernel_rfl) (by kernel_rfl) ?_
                    refine RL.nil (by kernel_rfl) ?_
                    obtain rfl := Option.some.inj H
                    refine QN.sub (K' := [(4, .bool false)]) (L' := []) (by kernel_rfl) .slnil (.refl _) ?_
                    exact hJ3 _ _ _ _ _ ⟨false, rfl, rfl, rfl, (Imm.le_refl _), HK3⟩
                · have hc := (of_decide_eq_false hb)
                  refine RL.norm (K' := [(83, .bool false), (5, .bool t1), (6, .int .i64 (W .i64 (1 + (W .i64 (a0.tmod 13))))), (7, .int .i64 t2), (8, .int .i64 t3)]) (L' := []) (by rw [hb]; try rfl) rfl (by first | rfl | (rw [hb]; try rfl)) rfl ?_
                  rw [if_neg hc] at H; clear hb
                  refine RL.simP (K' := [(4, .bool false)]) (nx' := nx6) (L' := []) [] (RFacts.nil _ _ _) 11 [.no, .no, .no, .no, .no, .no, .no, .no, .no, .no, .no] (by kernel_rfl) (by kernel_rfl) ?_
                  refine RL.nil (by kernel_rfl) ?_
                  obtain rfl := Option.some.inj H
                  refine QN.sub (K' := [(4, .bool false)]) (L' := []) (by kernel_rfl) .slnil (.refl _) ?_
                  exact hJ3 _ _ _ _ _ ⟨false, rfl, rfl, rfl, (Imm.le_refl _), HK3⟩
              · have hc := (of_decide_eq_false hb)
                refine RL.norm (K' := [(78, .bool false), (5, .bool t1), (6, .int .i64 (W .i64 (1 + (W .i64 (a0.tmod 13))))), (7, .int .i64 t2), (8, .int .i64 t3)]) (L' := []) (by rw [hb]; try rfl) rfl (by first | rfl | (rw [hb]; try rfl)) rfl ?_
                rw [if_neg hc] at H; clear hb
                refine RL.simP (K' := [(4, .bool false)]) (nx' := nx6) (L' := []) [] (RFacts.nil _ _ _) 16 [.no, .no, .no, .no, .no, .no, .no, .no, .no, .no, .no, .no, .no, .no, .no, .no] (by kernel_rfl) (by kernel_rfl) ?_
                refine RL.nil (by kernel_rfl) ?_
                obtain rfl := Option.some.inj H
                refine QN.sub (K' := [(4, .bool false)]) (L' := []) (by kernel_rfl) .slnil (.refl _) ?_
                exact hJ3 _ _ _ _ _ ⟨false, rfl, rfl, rfl, (Imm.le_refl _), HK3⟩
            · have hc := (of_decide_eq_false hb)
              refine RL.norm (K' := [(73, .bool false), (5, .bool t1), (6, .int .i64 (W .i64 (1 + (W .i64 (a0.tmod 13))))), (7, .int .i64 t2), (8, .int .i64 t3)]) (L' := []) (by rw [hb]; try rfl) rfl (by first | rfl | (rw [hb]; try rfl)) rfl ?_
              rw [if_neg hc] at H; clear hb
              refine RL.simP (K' := [(4, .bool false)]) (nx' := nx6) (L' := []) [] (RFacts.nil _ _ _) 21 [.no, .no, .no, .no, .no, .no, .no, .no, .no, .no, .no, .no, .no, .no, .no, .no, .no, .no, .no, .no, .no] (by kernel_rfl) (by kernel_rfl) ?_
              refine RL.nil (by kernel_rfl) ?_
              obtain rfl := Option.some.inj H
              refine QN.sub (K' := [(4, .bool false)]) (L' := []) (by kernel_rfl) .slnil (.refl _) ?_
              exact hJ3 _ _ _ _ _ ⟨false, rfl, rfl, rfl, (Imm.le_refl _), HK3⟩
          · have hc := (of_decide_eq_false hb)
            refine RL.norm (K' := [(66, .bool false), (5, .bool t1), (6, .int .i64 (W .i64 (1 + (W .i64 (a0.tmod 13))))), (7, .int .i64 t2), (8, .int .i64 t3)]) (L' := []) (by rw [hb]; try rfl) rfl (by first | rfl | (rw [hb]; try rfl)) rfl ?_
            rw [if_neg hc] at H; clear hb
            refine RL.simP (K' := [(4, .bool false)]) (nx' := nx6) (L' := []) [] (RFacts.nil _ _ _) 28 [.no, .no, .no, .no, .no, .no, .no, .no, .no, .no, .no, .no, .no, .no, .no, .no, .no, .no, .no, .no, .no, .no, .no, .no, .no, .no, .no, .no] (by kernel_rfl) (by kernel_rfl) ?_
            refine RL.nil (by kernel_rfl) ?_
            obtain rfl := Option.some.inj H
            refine QN.sub (K' := [(4, .bool false)]) (L' := []) (by kernel_rfl) .slnil (.refl _) ?_
            exact hJ3 _ _ _ _ _ ⟨false, rfl, rfl, rfl, (Imm.le_refl _), HK3⟩
        · have hc := (of_decide_eq_false hb)
          refine RL.norm (K' := [(60, .bool false), (5, .bool t1), (6, .int .i64 (W .i64 (1 + (W .i64 (a0.tmod 13))))), (7, .int .i64 t2), (8, .int .i64 t3)]) (L' := []) (by rw [hb]; try rfl) rfl (by first | rfl | (rw [hb]; try rfl)) rfl ?_
          rw [if_neg hc] at H; clear hb
          refine RL.simP (K' := [(4, .bool false)]) (nx' := nx6) (L' := []) [] (RFacts.nil _ _ _) 34 [.no, .no, .no, .no, .no, .no, .no, .no, .no, .no, .no, .no, .no, .no, .no, .no, .no, .no, .no, .no, .no, .no, .no, .no, .no, .no, .no, .no, .no, .no, .no, .no, .no, .no] (by kernel_rfl) (by kernel_rfl) ?_
          refine RL.nil (by kernel_rfl) ?_
          obtain rfl := Option.some.inj H
          refine QN.sub (K' := [(4, .bool false)]) (L' := []) (by kernel_rfl) .slnil (.refl _) ?_
          exact hJ3 _ _ _ _ _ ⟨false, rfl, rfl, rfl, (Imm.le_refl _), HK3⟩
    · intro Q_2 hJ2 hQ2
      obtain ⟨y2, H, HK2⟩ := Option.bind_eq_some_iff.mp H
      refine OK.block 2 K4_52 (by kernel_rfl) ?_
      refine OK.sub (K' := [(5, .bool t1), (6, .int .i64 (W .i64 (1 + (W .i64 (a0.tmod 13))))), (7, .int .i64 t2), (8, .int .i64 t3), (9, .slice A1 x1.length c1), (12, .int .i64 0)]) (L' := []) (by kernel_rfl) .slnil (.refl _) ?_
      refine OK.loopInv K4_53 (by kernel_rfl) (fun n_ K' I' _ L' X' => ∃ (x3 : Int), K' = [(5, .bool t1), (6, .int .i64 (W .i64 (1 + (W .i64 (a0.tmod 13))))), (7, .int .i64 t2), (8, .int .i64 t3), (9, .slice A1 x1.length c1), (12, .int .i64 x3)] ∧ L' = [] ∧ X' = [orow 3 1 A1 x1.length c1 cs1] ∧ Imm.le I4 I' ∧ armillarylaw29_QuorumArithmetic.l1 a0 x1 n_ x3 = some y2) k ⟨0, rfl, rfl, rfl, (Imm.le_refl _), H⟩ ?_ ?_
      · rintro _ _ _ _ _ ⟨x3, rfl, rfl, rfl, _, H⟩
        cases H
      · rintro kq1 _ I7 nx8 _ _ ⟨x3, rfl, rfl, rfl, hi7, H⟩ Q_l1 hJ4 hQ4
        replace H : (if x3 < (W .i64 (1 + (W .i64 (a0.tmod 13)))) then (if 0 ≤ x3 then (if x3 < (x1.length : Int) then (if (x1.getD (x3).toNat 0) ≠ 1 then (some (Sum.inr false)) else (armillarylaw29_QuorumArithmetic.l1 a0 x1 kq1 (W .i64 (x3 + 1)))) else none) else none) else (some (Sum.inl ()))) = some y2 := H
        refine OK.seq K4_54 K4_60 (by kernel_rfl) ?_
        refine OK.seq K4_55 K4_57 (by kernel_rfl) ?_
        refine OK.region 13 O4_55 (by kernel_rfl) ?_
        refine RL.simP (K' := [(50, .bool (decide (x3 < (W .i64 (1 + (W .i64 (a0.tmod 13))))))), (5, .bool t1), (6, .int .i64 (W .i64 (1 + (W .i64 (a0.tmod 13))))), (7, .int .i64 t2), (8, .int .i64 t3), (9, .slice A1 x1.length c1), (12, .int .i64 x3)]) (nx' := nx8) (L' := []) [] (RFacts.nil _ _ _) 3 [.no, .no, .no] (by kernel_rfl) (by kernel_rfl) ?_
        refine RL.nil (by kernel_rfl) ?_
        refine QN.then_ ?_
        refine OK.cond (.tmp 50) K4_58 K4_59 (decide (x3 < (W .i64 (1 + (W .i64 (a0.tmod 13)))))) (by kernel_rfl) (by kernel_rfl) (by kernel_rfl) (fun hb => ?_) (fun hb => ?_)
        · skip
          have hc := (of_decide_eq_true hb)
          rw [if_pos hc] at H
          clear hb
          refine OK.skip (by kernel_rfl) ?_
          refine QN.then_ ?_
          refine OK.seq K4_61 K4_71 (by kernel_rfl) ?_
          refine OK.block 3 K4_62 (by kernel_rfl) ?_
          refine OK.seq K4_63 K4_65 (by kernel_rfl) ?_
          refine OK.region 15 O4_63 (by kernel_rfl) ?_
          refine RL.simP (K' := [(54, .int .i64 x3), (53, .slice A1 x1.length c1), (5, .bool t1), (6, .int .i64 (W .i64 (1 + (W .i64 (a0.tmod 13))))), (7, .int .i64 t2), (8, .int .i64 t3), (9, .slice A1 x1.length c1), (12, .int .i64 x3)]) (nx' := nx8) (L' := []) [] (RFacts.nil _ _ _) 2 [.no, .no] (by kernel_rfl) (by kernel_rfl) ?_
          by_cases hib0 : 0 ≤ x3
          case neg => rw [if_neg hib0] at H; cases H
          rw [if_pos hib0] at H
          by_cases hib1 : x3 < (x1.length : Int)
          case neg => rw [if_neg hib1] at H; cases H
          rw [if_pos hib1] at H
          have hx01_ := hib0; have hx11_ := hib1
          refine RL.ownAddr (e := 3) (sz := 1) (S := A1) (n := x1.length) (cap := c1) (cs := cs1) 0 (by kernel_rfl) (by omega) (fun g1_ hA1_ => ?_)
          have hc1_ := Ty.int_own (Reps.ext hi7 hp2) x3 hib0 hib1
          refine RL.idx 1 .i64 x3 hA1_ x1.length c1 (some 55) (by kernel_rfl) (by kernel_rfl) (T := 48) (e := 3) (by kernel_rfl) (by kernel_rfl) hib0 hib1 (K' := [(55, .pointer (some ⟨g1_, 0 + (x3).toNat * 1, none⟩)), (54, .int .i64 x3), (53, .slice A1 x1.length c1), (5, .bool t1), (6, .int .i64 (W .i64 (1 + (W .i64 (a0.tmod 13))))), (7, .int .i64 t2), (8, .int .i64 t3), (9, .slice A1 x1.length c1), (12, .int .i64 x3)]) (by kernel_rfl) ?_
          refine RL.simP (K' := [(57, .bool ((x1.getD (x3).toNat 0) != 1)), (5, .bool t1), (6, .int .i64 (W .i64 (1 + (W .i64 (a0.tmod 13))))), (7, .int .i64 t2), (8, .int .i64 t3), (9, .slice A1 x1.length c1), (12, .int .i64 x3)]) (nx' := nx8) (L' := []) [(⟨g1_, 0 + (x3).toNat * 1, none⟩, .int .i64 (x1.getD (x3).toNat 0))] (RFacts.ownQ (e := 3) (sz := 1) (S := A1) (n := x1.length) (cap := c1) (cs := cs1) 0 (by kernel_rfl) hA1_ (0 + (x3).toNat * 1) ((x3).toNat * 1 + 0) (by omega) (hc1_ 0 _ rfl) (RFacts.nil _ _ _)) 2 [.r 0, .no] (by kernel_rfl) (by kernel_rfl) ?_
          refine RL.nil (by kernel_rfl) ?_
          refine QN.then_ ?_
          refine OK.cond (.tmp 57) K4_66 K4_70 ((x1.getD (x3).toNat 0) != 1) (by kernel_rfl) (by kernel_rfl) (by kernel_rfl) (fun hb => ?_) (fun hb => ?_)
          · skip
            have hc := (bne_iff_ne.1 hb)
            rw [if_pos hc] at H
            clear hb
            refine OK.seq K4_67 K4_69 (by kernel_rfl) ?_
            refine OK.region 16 O4_67 (by kernel_rfl) ?_
            refine RL.simP (K' := [(4, .bool false)]) (nx' := nx8) (L' := []) [] (RFacts.nil _ _ _) 1 [.no] (by kernel_rfl) (by kernel_rfl) ?_
            refine RL.nil (by kernel_rfl) ?_
            refine QN.then_ ?_
            refine OK.ret (by kernel_rfl) ?_
            refine QN.blkR ?_
            refine QN.thenR ?_
            refine QN.outR hQ4 ?_
            refine QN.blkR ?_
            refine QN.outR hQ2 ?_
            refine QN.thenR ?_
            obtain rfl := Option.some.inj H
            replace H : some false = some r := HK2
            obtain rfl := Option.some.inj H
            refine QN.body rfl [] (RFacts.nil _ _ _) (.no) (.bool false) (by kernel_rfl) (by kernel_rfl) (by kernel_rfl) ?_ _ (.inr rfl)
            exact fun w' hs' => ⟨_, rfl, I7, rfl, hs'.got _ (.cons _ .slnil)⟩
          · skip
            have hc := (not_not_intro (bne_eq_false_iff_eq.1 hb))
            rw [if_neg hc] at H
            clear hb
            refine OK.skip (by kernel_rfl) ?_
            refine QN.blkN ?_
            refine QN.then_ ?_
            refine OK.region 14 O4_71 (by kernel_rfl) ?_
            refine RL.simP (K' := [(12, .int .i64 (W .i64 (x3 + 1))), (5, .bool t1), (6, .int .i64 (W .i64 (1 + (W .i64 (a0.tmod 13))))), (7, .int .i64 t2), (8, .int .i64 t3), (9, .slice A1 x1.length c1)]) (nx' := nx8) (L' := []) [] (RFacts.nil _ _ _) 3 [.no, .no, .no] (by kernel_rfl) (by kernel_rfl) ?_
            refine RL.nil (by kernel_rfl) ?_
            refine QN.sub (K' := [(5, .bool t1), (6, .int .i64 (W .i64 (1 + (W .i64 (a0.tmod 13))))), (7, .int .i64 t2), (8, .int .i64 t3), (9, .slice A1 x1.length c1), (12, .int .i64 (W .i64 (x3 + 1)))]) (L' := []) (by kernel_rfl) .slnil (.refl _) ?_
            exact hJ4 _ _ _ _ _ ⟨W .i64 (x3 + 1), rfl, rfl, rfl, hi7, H⟩
        · skip
          have hc := (of_decide_eq_false hb)
          rw [if_neg hc] at H
          clear hb
          refine OK.exit 2 (by kernel_rfl) ?_
          refine QN.thenE ?_
          refine QN.outE hQ4 ?_
          refine QN.blkE ?_
          obtain rfl := Option.some.inj H
          refine QN.sel (K' := [(5, .bool t1), (6, .int .i64 (W .i64 (1 + (W .i64 (a0.tmod 13))))), (7, .int .i64 t2), (8, .int .i64 t3)]) (L' := []) [] (by kernel_rfl) (by kernel_rfl) .slnil ?_
          refine QN.norm (X' := []) rfl rfl rfl (by kernel_rfl) ?_
          exact hJ2 _ _ _ _ _ ⟨rfl, rfl, rfl, hi7, HK2⟩
  · intro Q_3 hJ1 hQ1
    obtain ⟨y1, H, HK1⟩ := Option.bind_eq_some_iff.mp H
    refine OK.block 0 K4_20 (by kernel_rfl) ?_
    refine OK.sub (K' := [(1, .int .u16 a1), (5, .bool t1), (6, .int .i64 (W .i64 (1 + (W .i64 (a0.tmod 13))))), (7, .int .i64 t2), (8, .int .i64 t3), (9, .slice (some ⟨nx3, 0, none⟩) ((List.replicate (W .i64 (1 + (W .i64 (a0.tmod 13)))).toNat (0 : Int)).length) ((List.replicate (W .i64 (1 + (W .i64 (a0.tmod 13)))).toNat (0 : Int)).length)), (10, .int .i64 0)]) (L' := []) (by kernel_rfl) .slnil (.refl _) ?_
    refine OK.loopInv K4_21 (by kernel_rfl) (fun n_ K' I' _ L' X' => ∃ (x4 : List Int) (x5 : Int) (A2 : Option Addr) (c2 : Nat) (cs2 : List Value), K' = [(1, .int .u16 a1), (5, .bool t1), (6, .int .i64 (W .i64 (1 + (W .i64 (a0.tmod 13))))), (7, .int .i64 t2), (8, .int .i64 t3), (9, .slice A2 x4.length c2), (10, .int .i64 x5)] ∧ L' = [] ∧ X' = [orow 3 1 A2 x4.length c2 cs2] ∧ Imm.le I3 I' ∧ Reps (Ty.int .i64) I' x4 cs2 ∧ armillarylaw29_QuorumArithmetic.l2 a0 a1 n_ x4 x5 = some y1) k ⟨List.replicate (W .i64 (1 + (W .i64 (a0.tmod 13)))).toNat (0 : Int), 0, (some ⟨nx3, 0, none⟩), (List.replicate (W .i64 (1 + (W .i64 (a0.tmod 13)))).toNat (0 : Int)).length, (List.replicate (W .i64 (1 + (W .i64 (a0.tmod 13)))).toNat (.int .i64 0)), rfl, rfl, rfl, (Imm.le_refl _), hp1, H⟩ ?_ ?_
    · rintro _ _ _ _ _ ⟨x4, x5, A2, c2, cs2, rfl, rfl, rfl, _, hp3, H⟩
      cases H
    · rintro kq2 _ I8 nx9 _ _ ⟨x4, x5, A2, c2, cs2, rfl, rfl, rfl, hi8, hp3, H⟩ Q_l2 hJ5 hQ5
      replace H : (if x5 < (W .i64 (1 + (W .i64 (a0.tmod 13)))) then ((quorum_Leader.f (W .i64 (1 + (W .i64 (a0.tmod 13)))) (W .i64 ((W .i64 (a1)) + x5))).bind fun t4 => ((if t4 < 0 then (some true) else (some (decide (t4 ≥ (W .i64 (1 + (W .i64 (a0.tmod 13)))))))).bind (fun x6 => (if x6 = true then (some (Sum.inr false)) else (if 0 ≤ t4 then (if t4 < (x4.length : Int) then (if 0 ≤ t4 then (if t4 < (x4.length : Int) then (armillarylaw29_QuorumArithmetic.l2 a0 a1 kq2 (x4.set (t4).toNat (W .i64 ((x4.getD (t4).toNat 0) + 1))) (W .i64 (x5 + 1))) else none) else none) else none) else none))))) else (some (Sum.inl x4))) = some y1 := H
      refine OK.seq K4_22 K4_28 (by kernel_rfl) ?_
      refine OK.seq K4_23 K4_25 (by kernel_rfl) ?_
      refine OK.region 6 O4_23 (by kernel_rfl) ?_
      refine RL.simP (K' := [(26, .bool (decide (x5 < (W .i64 (1 + (W .i64 (a0.tmod 13))))))), (1, .int .u16 a1), (5, .bool t1), (6, .int .i64 (W .i64 (1 + (W .i64 (a0.tmod 13))))), (7, .int .i64 t2), (8, .int .i64 t3), (9, .slice A2 x4.length c2), (10, .int .i64 x5)]) (nx' := nx9) (L' := []) [] (RFacts.nil _ _ _) 3 [.no, .no, .no] (by kernel_rfl) (by kernel_rfl) ?_
      refine RL.nil (by kernel_rfl) ?_
      refine QN.then_ ?_
      refine OK.cond (.tmp 26) K4_26 K4_27 (decide (x5 < (W .i64 (1 + (W .i64 (a0.tmod 13)))))) (by kernel_rfl) (by kernel_rfl) (by kernel_rfl) (fun hb => ?_) (fun hb => ?_)
      · skip
        have hc := (of_decide_eq_true hb)
        rw [if_pos hc] at H
        clear hb
        refine OK.skip (by kernel_rfl) ?_
        refine QN.then_ ?_
        refine OK.seq K4_29 K4_45 (by kernel_rfl) ?_
        refine OK.block 1 K4_30 (by kernel_rfl) ?_
        refine OK.seq K4_31 K4_33 (by kernel_rfl) ?_
        refine OK.region 8 O4_31 (by kernel_rfl) ?_
        refine RL.simP (K' := [(33, .int .i64 (W .i64 ((W .i64 (a1)) + x5))), (29, .int .i64 (W .i64 (1 + (W .i64 (a0.tmod 13))))), (1, .int .u16 a1), (5, .bool t1), (6, .int .i64 (W .i64 (1 + (W .i64 (a0.tmod 13))))), (7, .int .i64 t2), (8, .int .i64 t3), (9, .slice A2 x4.length c2), (10, .int .i64 x5)]) (nx' := nx9) (L' := []) [] (RFacts.nil _ _ _) 5 [.no, .no, .no, .no, .no] (by kernel_rfl) (by kernel_rfl) ?_
        obtain ⟨t4, hA4, H⟩ := Option.bind_eq_some_iff.mp H
        refine RL.callP 24 [.int .i64 (W .i64 (1 + (W .i64 (a0.tmod 13)))), .int .i64 (W .i64 ((W .i64 (a1)) + x5))] (some 34) (fun w => quorum_Leader.Post I8 w t4) (by kernel_rfl) (by kernel_rfl) (fun w hs => quorum_Leader.calls I8 (W .i64 (1 + (W .i64 (a0.tmod 13)))) (W .i64 ((W .i64 (a1)) + x5)) w hs.im  t4 hA4) ?_
        rintro w v w' hs ⟨I9, rfl, hg⟩
        have hi9 := hg.le
        refine RL.resume (K' := [(34, .int .i64 t4), (33, .int .i64 (W .i64 ((W .i64 (a1)) + x5))), (29, .int .i64 (W .i64 (1 + (W .i64 (a0.tmod 13))))), (1, .int .u16 a1), (5, .bool t1), (6, .int .i64 (W .i64 (1 + (W .i64 (a0.tmod 13))))), (7, .int .i64 t2), (8, .int .i64 t3), (9, .slice A2 x4.length c2), (10, .int .i64 x5)]) (X' := [orow 3 1 A2 x4.length c2 cs2]) (by kernel_rfl) (hs.call hg) ?_
        clear hs hg
        generalize w'.heap.size = nx10
        clear w w'
        refine RL.simP (K' := [(11, .int .i64 t4), (1, .int .u16 a1), (5, .bool t1), (6, .int .i64 (W .i64 (1 + (W .i64 (a0.tmod 13))))), (7, .int .i64 t2), (8, .int .i64 t3), (9, .slice A2 x4.length c2), (10, .int .i64 x5)]) (nx' := nx10) (L' := []) [] (RFacts.nil _ _ _) 1 [.no] (by kernel_rfl) (by kernel_rfl) ?_
        refine RL.nil (by kernel_rfl) ?_
        refine QN.then_ ?_
        refine OK.seq K4_34 K4_43 (by kernel_rfl) ?_
        refine OK.seq K4_35 K4_37 (by kernel_rfl) ?_
        refine OK.join (fun K' I' _ L' X' => ∃ (x6 : Bool), K' = [(1, .int .u16 a1), (5, .bool t1), (6, .int .i64 (W .i64 (1 + (W .i64 (a0.tmod 13))))), (7, .int .i64 t2), (8, .int .i64 t3), (9, .slice A2 x4.length c2), (10, .int .i64 x5), (11, .int .i64 t4), (41, .bool x6)] ∧ L' = [] ∧ X' = [orow 3 1 A2 x4.length c2 cs2] ∧ Imm.le I9 I' ∧ (if x6 = true then (some (Sum.inr false)) else (if 0 ≤ t4 then (if t4 < (x4.length : Int) then (if 0 ≤ t4 then (if t4 < (x4.length : Int) then (armillarylaw29_QuorumArithmetic.l2 a0 a1 kq2 (x4.set (t4).toNat (W .i64 ((x4.getD (t4).toNat 0) + 1))) (W .i64 (x5 + 1))) else none) else none) else none) else none)) = some y1) ?_ ?_
        · rintro _ I10 nx11 _ _ ⟨x6, rfl, rfl, rfl, hi10, H⟩
          replace H : (if x6 = true then (some (Sum.inr false)) else (if 0 ≤ t4 then (if t4 < (x4.length : Int) then (if 0 ≤ t4 then (if t4 < (x4.length : Int) then (armillarylaw29_QuorumArithmetic.l2 a0 a1 kq2 (x4.set (t4).toNat (W .i64 ((x4.getD (t4).toNat 0) + 1))) (W .i64 (x5 + 1))) else none) else none) else none) else none)) = some y1 := H
          refine QN.then_ ?_
          refine OK.cond (.tmp 41) K4_38 K4_42 x6 (by kernel_rfl) (by kernel_rfl) (by kernel_rfl) (fun hb => ?_) (fun hb => ?_)
          · skip
            have hc := hb
            rw [if_pos hc] at H
            clear hb
            refine OK.seq K4_39 K4_41 (by kernel_rfl) ?_
            refine OK.region 10 O4_39 (by kernel_rfl) ?_
            refine RL.simP (K' := [(4, .bool false)]) (nx' := nx11) (L' := []) [] (RFacts.nil _ _ _) 1 [.no] (by kernel_rfl) (by kernel_rfl) ?_
            refine RL.nil (by kernel_rfl) ?_
            refine QN.then_ ?_
            refine OK.ret (by kernel_rfl) ?_
            refine QN.thenR ?_
            refine QN.blkR ?_
            refine QN.thenR ?_
            refine QN.outR hQ5 ?_
            refine QN.blkR ?_
            refine QN.outR hQ1 ?_
            refine QN.thenR ?_
            obtain rfl := Option.some.inj H
            replace H : some false = some r := HK1
            obtain rfl := Option.some.inj H
            refine QN.body rfl [] (RFacts.nil _ _ _) (.no) (.bool false) (by kernel_rfl) (by kernel_rfl) (by kernel_rfl) ?_ _ (.inr rfl)
            exact fun w' hs' => ⟨_, rfl, I10, rfl, hs'.got _ (.cons _ .slnil)⟩
          · skip
            have hc := (Bool.eq_false_iff.1 hb)
            rw [if_neg hc] at H
            clear hb
            refine OK.skip (by kernel_rfl) ?_
            refine QN.then_ ?_
            refine OK.region 11 O4_43 (by kernel_rfl) ?_
            refine RL.simP (K' := [(43, .int .i64 t4), (42, .slice A2 x4.length c2), (1, .int .u16 a1), (5, .bool t1), (6, .int .i64 (W .i64 (1 + (W .i64 (a0.tmod 13))))), (7, .int .i64 t2), (8, .int .i64 t3), (9, .slice A2 x4.length c2), (10, .int .i64 x5)]) (nx' := nx11) (L' := []) [] (RFacts.nil _ _ _) 2 [.no, .no] (by kernel_rfl) (by kernel_rfl) ?_
            by_cases hib0 : 0 ≤ t4
            case neg => rw [if_neg hib0] at H; cases H
            rw [if_pos hib0] at H
            by_cases hib1 : t4 < (x4.length : Int)
            case neg => rw [if_neg hib1] at H; cases H
            rw [if_pos hib1] at H
            have hx02_ := hib0; have hx12_ := hib1
            refine RL.ownAddr (e := 3) (sz := 1) (S := A2) (n := x4.length) (cap := c2) (cs := cs2) 0 (by kernel_rfl) (by omega) (fun g2_ hA2_ => ?_)
            have hc2_ := Ty.int_own (Reps.ext (Imm.le_trans hi9 hi10) hp3) t4 hib0 hib1
            refine RL.idx 1 .i64 t4 hA2_ x4.length c2 (some 44) (by kernel_rfl) (by kernel_rfl) (T := 48) (e := 3) (by kernel_rfl) (by kernel_rfl) hib0 hib1 (K' := [(44, .pointer (some ⟨g2_, 0 + (t4).toNat * 1, none⟩)), (43, .int .i64 t4), (42, .slice A2 x4.length c2), (1, .int .u16 a1), (5, .bool t1), (6, .int .i64 (W .i64 (1 + (W .i64 (a0.tmod 13))))), (7, .int .i64 t2), (8, .int .i64 t3), (9, .slice A2 x4.length c2), (10, .int .i64 x5)]) (by kernel_rfl) ?_
            refine RL.simP (K' := [(46, .int .i64 (W .i64 ((x4.getD (t4).toNat 0) + 1))), (43, .int .i64 t4), (42, .slice A2 x4.length c2), (1, .int .u16 a1), (5, .bool t1), (6, .int .i64 (W .i64 (1 + (W .i64 (a0.tmod 13))))), (7, .int .i64 t2), (8, .int .i64 t3), (9, .slice A2 x4.length c2), (10, .int .i64 x5)]) (nx' := nx11) (L' := []) [(⟨g2_, 0 + (t4).toNat * 1, none⟩, .int .i64 (x4.getD (t4).toNat 0))] (RFacts.ownQ (e := 3) (sz := 1) (S := A2) (n := x4.length) (cap := c2) (cs := cs2) 0 (by kernel_rfl) hA2_ (0 + (t4).toNat * 1) ((t4).toNat * 1 + 0) (by omega) (hc2_ 0 _ rfl) (RFacts.nil _ _ _)) 2 [.r 0, .no] (by kernel_rfl) (by kernel_rfl) ?_
            by_cases hib0 : 0 ≤ t4
            case neg => rw [if_neg hib0] at H; cases H
            rw [if_pos hib0] at H
            by_cases hib1 : t4 < (x4.length : Int)
            case neg => rw [if_neg hib1] at H; cases H
            rw [if_pos hib1] at H
            have hx03_ := hib0; have hx13_ := hib1
            refine RL.ownAddr (e := 3) (sz := 1) (S := A2) (n := x4.length) (cap := c2) (cs := cs2) 0 (by kernel_rfl) (by omega) (fun g3_ hA3_ => ?_)
            have hc3_ := Ty.int_own (Reps.ext (Imm.le_trans hi9 hi10) hp3) t4 hib0 hib1
            refine RL.idx 1 .i64 t4 hA3_ x4.length c2 (some 47) (by kernel_rfl) (by kernel_rfl) (T := 48) (e := 3) (by kernel_rfl) (by kernel_rfl) hib0 hib1 (K' := [(47, .pointer (some ⟨g3_, 0 + (t4).toNat * 1, none⟩)), (46, .int .i64 (W .i64 ((x4.getD (t4).toNat 0) + 1))), (43, .int .i64 t4), (42, .slice A2 x4.length c2), (1, .int .u16 a1), (5, .bool t1), (6, .int .i64 (W .i64 (1 + (W .i64 (a0.tmod 13))))), (7, .int .i64 t2), (8, .int .i64 t3), (9, .slice A2 x4.length c2), (10, .int .i64 x5)]) (by kernel_rfl) ?_
            refine RL.storeL (T := 3) (e := 3) 1 0 hA3_ c2 t4 cs2 [.int .i64 (W .i64 ((x4.getD (t4).toNat 0) + 1))] (.int .i64 (W .i64 ((x4.getD (t4).toNat 0) + 1))) (Ty.int .i64) x4 (W .i64 ((x4.getD (t4).toNat 0) + 1)) (by kernel_rfl) (by kernel_rfl) (by kernel_rfl) (by kernel_rfl) (by kernel_rfl) rfl (by kernel_rfl) (Reps.ext (Imm.le_trans hi9 hi10) hp3) hx03_ hx13_ (fun cs3 hp4 => ?_)
            refine RL.sub (K' := [(46, .int .i64 (W .i64 ((x4.getD (t4).toNat 0) + 1))), (43, .int .i64 t4), (42, .slice A2 x4.length c2), (1, .int .u16 a1), (5, .bool t1), (6, .int .i64 (W .i64 (1 + (W .i64 (a0.tmod 13))))), (7, .int .i64 t2), (8, .int .i64 t3), (9, .slice A2 x4.length c2), (10, .int .i64 x5)]) (L' := []) (X' := [orow 3 1 A2 ((x4.set (t4).toNat (W .i64 ((x4.getD (t4).toNat 0) + 1))).length) c2 cs3]) (by kernel_rfl) (.refl _) (.refl _) ?_
            refine RL.norm (K' := [(46, .int .i64 (W .i64 ((x4.getD (t4).toNat 0) + 1))), (43, .int .i64 t4), (42, .slice A2 ((x4.set (t4).toNat (W .i64 ((x4.getD (t4).toNat 0) + 1))).length) c2), (1, .int .u16 a1), (5, .bool t1), (6, .int .i64 (W .i64 (1 + (W .i64 (a0.tmod 13))))), (7, .int .i64 t2), (8, .int .i64 t3), (9, .slice A2 ((x4.set (t4).toNat (W .i64 ((x4.getD (t4).toNat 0) + 1))).length) c2), (10, .int .i64 x5)]) (L' := []) (by simp only [List.length_set]) rfl (by first | rfl | simp only [List.length_set]) rfl ?_
            refine RL.nil (by kernel_rfl) ?_
            refine QN.sub (K' := [(1, .int .u16 a1), (5, .bool t1), (6, .int .i64 (W .i64 (1 + (W .i64 (a0.tmod 13))))), (7, .int .i64 t2), (8, .int .i64 t3), (9, .slice A2 ((x4.set (t4).toNat (W .i64 ((x4.getD (t4).toNat 0) + 1))).length) c2), (10, .int .i64 x5)]) (L' := []) (by kernel_rfl) .slnil (.refl _) ?_
            refine QN.blkN ?_
            refine QN.then_ ?_
            refine OK.region 7 O4_45 (by kernel_rfl) ?_
            refine RL.simP (K' := [(10, .int .i64 (W .i64 (x5 + 1))), (1, .int .u16 a1), (5, .bool t1), (6, .int .i64 (W .i64 (1 + (W .i64 (a0.tmod 13))))), (7, .int .i64 t2), (8, .int .i64 t3), (9, .slice A2 ((x4.set (t4).toNat (W .i64 ((x4.getD (t4).toNat 0) + 1))).length) c2)]) (nx' := nx11) (L' := []) [] (RFacts.nil _ _ _) 3 [.no, .no, .no] (by kernel_rfl) (by kernel_rfl) ?_
            refine RL.nil (by kernel_rfl) ?_
            refine QN.sub (K' := [(1, .int .u16 a1), (5, .bool t1), (6, .int .i64 (W .i64 (1 + (W .i64 (a0.tmod 13))))), (7, .int .i64 t2), (8, .int .i64 t3), (9, .slice A2 ((x4.set (t4).toNat (W .i64 ((x4.getD (t4).toNat 0) + 1))).length) c2), (10, .int .i64 (W .i64 (x5 + 1)))]) (L' := []) (by kernel_rfl) .slnil (.refl _) ?_
            exact hJ5 _ _ _ _ _ ⟨x4.set (t4).toNat (W .i64 ((x4.getD (t4).toNat 0) + 1)), W .i64 (x5 + 1), A2, c2, cs3, rfl, rfl, rfl, (Imm.le_trans (Imm.le_trans hi8 hi9) hi10), hp4, H⟩
        · intro Q_4 hJ6 hQ6
          obtain ⟨y4, H, HK4⟩ := Option.bind_eq_some_iff.mp H
          refine OK.region 9 O4_35 (by kernel_rfl) ?_
          refine RL.simP (K' := [(37, .bool (decide (t4 < 0))), (11, .int .i64 t4), (1, .int .u16 a1), (5, .bool t1), (6, .int .i64 (W .i64 (1 + (W .i64 (a0.tmod 13))))), (7, .int .i64 t2), (8, .int .i64 t3), (9, .slice A2 x4.length c2), (10, .int .i64 x5)]) (nx' := nx10) (L' := []) [] (RFacts.nil _ _ _) 3 [.no, .no, .no] (by kernel_rfl) (by kernel_rfl) ?_
          refine RL.cases (decide (t4 < 0)) (fun hb => ?_) (fun hb => ?_)
          · have hc := (of_decide_eq_true hb)
            refine RL.norm (K' := [(37, .bool true), (11, .int .i64 t4), (1, .int .u16 a1), (5, .bool t1), (6, .int .i64 (W .i64 (1 + (W .i64 (a0.tmod 13))))), (7, .int .i64 t2), (8, .int .i64 t3), (9, .slice A2 x4.length c2), (10, .int .i64 x5)]) (L' := []) (by rw [hb]; try rfl) rfl (by first | rfl | (rw [hb]; try rfl)) rfl ?_
            rw [if_pos hc] at H; clear hb
            refine RL.simP (K' := [(41, .bool true), (11, .int .i64 t4), (1, .int .u16 a1), (5, .bool t1), (6, .int .i64 (W .i64 (1 + (W .i64 (a0.tmod 13))))), (7, .int .i64 t2), (8, .int .i64 t3), (9, .slice A2 x4.length c2), (10, .int .i64 x5)]) (nx' := nx10) (L' := []) [] (RFacts.nil _ _ _) 4 [.no, .no, .no, .no] (by kernel_rfl) (by kernel_rfl) ?_
            refine RL.nil (by kernel_rfl) ?_
            obtain rfl := Option.some.inj H
            refine QN.sub (K' := [(1, .int .u16 a1), (5, .bool t1), (6, .int .i64 (W .i64 (1 + (W .i64 (a0.tmod 13))))), (7, .int .i64 t2), (8, .int .i64 t3), (9, .slice A2 x4.length c2), (10, .int .i64 x5), (11, .int .i64 t4), (41, .bool true)]) (L' := []) (by kernel_rfl) .slnil (.refl _) ?_
            exact hJ6 _ _ _ _ _ ⟨true, rfl, rfl, rfl, (Imm.le_refl _), HK4⟩
          · have hc := (of_decide_eq_false hb)
            refine RL.norm (K' := [(37, .bool false), (11, .int .i64 t4), (1, .int .u16 a1), (5, .bool t1), (6, .int .i64 (W .i64 (1 + (W .i64 (a0.tmod 13))))), (7, .int .i64 t2), (8, .int .i64 t3), (9, .slice A2 x4.length c2), (10, .int .i64 x5)]) (L' := []) (by rw [hb]; try rfl) rfl (by first | rfl | (rw [hb]; try rfl)) rfl ?_
            rw [if_neg hc] at H; clear hb
            refine RL.simP (K' := [(41, .bool (decide (t4 ≥ (W .i64 (1 + (W .i64 (a0.tmod 13))))))), (11, .int .i64 t4), (1, .int .u16 a1), (5, .bool t1), (6, .int .i64 (W .i64 (1 + (W .i64 (a0.tmod 13))))), (7, .int .i64 t2), (8, .int .i64 t3), (9, .slice A2 x4.length c2), (10, .int .i64 x5)]) (nx' := nx10) (L' := []) [] (RFacts.nil _ _ _) 4 [.no, .no, .no, .no] (by kernel_rfl) (by kernel_rfl) ?_
            refine RL.nil (by kernel_rfl) ?_
            obtain rfl := Option.some.inj H
            refine QN.sub (K' := [(1, .int .u16 a1), (5, .bool t1), (6, .int .i64 (W .i64 (1 + (W .i64 (a0.tmod 13))))), (7, .int .i64 t2), (8, .int .i64 t3), (9, .slice A2 x4.length c2), (10, .int .i64 x5), (11, .int .i64 t4), (41, .bool (decide (t4 ≥ (W .i64 (1 + (W .i64 (a0.tmod 13)))))))]) (L' := []) (by kernel_rfl) .slnil (.refl _) ?_
            exact hJ6 _ _ _ _ _ ⟨(decide (t4 ≥ (W .i64 (1 + (W .i64 (a0.tmod 13)))))), rfl, rfl, rfl, (Imm.le_refl _), HK4⟩
      · skip
        have hc := (of_decide_eq_false hb)
        rw [if_neg hc] at H
        clear hb
        refine OK.exit 0 (by kernel_rfl) ?_
        refine QN.thenE ?_
        refine QN.outE hQ5 ?_
        refine QN.blkE ?_
        obtain rfl := Option.some.inj H
        refine QN.sub (K' := [(5, .bool t1), (6, .int .i64 (W .i64 (1 + (W .i64 (a0.tmod 13))))), (7, .int .i64 t2), (8, .int .i64 t3), (9, .slice A2 x4.length c2)]) (L' := []) (by kernel_rfl) .slnil (.refl _) ?_
        exact hJ1 _ _ _ _ _ ⟨x4, A2, c2, cs2, rfl, rfl, rfl, hi8, hp3, HK1⟩

end Go.Proofs.Ytieakigoinebdaa
