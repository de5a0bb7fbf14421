/- What a function of the program computes, and the walk that shows it; made by a program of the session's out of the translation; no conditions beyond those that the theorems name. -/
import Derived.Test.YtieakigoinebdaaS
import Derived.Test.YtieakigoinebdaaG10
import Derived.Test.YtieakigoinebdaaG14
import Derived.Test.YtieakigoinebdaaG16
import Derived.Test.YtieakigoinebdaaG20
import Derived.Test.YtieakigoinebdaaG22
namespace Go.Proofs.Ytieakigoinebdaa
open Go Go.Proofs.Ytieakigoinebdaa.RW
set_option linter.unusedVariables false
set_option maxRecDepth 100000
set_option maxHeartbeats 8000000

/-! ### armillarylaw29_QuorumThreshold: function 8, armillary/armillarylaw29.QuorumThreshold -/
noncomputable def K8_0 : Code := cBody Try.f8
noncomputable def K8_1 : Code := cL K8_0
noncomputable def O8_1 : List Oper := cOps K8_1
noncomputable def K8_3 : Code := cR K8_0
noncomputable def K8_4 : Code := cL K8_3
noncomputable def O8_4 : List Oper := cOps K8_4
noncomputable def K8_6 : Code := cR K8_3
noncomputable def K8_7 : Code := cL K8_6
noncomputable def O8_7 : List Oper := cOps K8_7
noncomputable def K8_9 : Code := cR K8_6
noncomputable def K8_10 : Code := cL K8_9
noncomputable def O8_10 : List Oper := cOps K8_10
noncomputable def K8_12 : Code := cR K8_9
noncomputable def K8_13 : Code := cL K8_12
noncomputable def O8_13 : List Oper := cOps K8_13
noncomputable def K8_15 : Code := cR K8_12
noncomputable def K8_16 : Code := cL K8_15
noncomputable def K8_17 : Code := cL K8_16
noncomputable def O8_17 : List Oper := cOps K8_17
noncomputable def K8_19 : Code := cR K8_16
noncomputable def K8_20 : Code := cL K8_19
noncomputable def K8_21 : Code := cL K8_20
noncomputable def K8_22 : Code := cL K8_21
noncomputable def K8_23 : Code := cL K8_22
noncomputable def O8_23 : List Oper := cOps K8_23
noncomputable def K8_25 : Code := cR K8_22
noncomputable def K8_26 : Code := cL K8_25
noncomputable def K8_27 : Code := cR K8_25
noncomputable def K8_28 : Code := cR K8_21
noncomputable def K8_29 : Code := cL K8_28
noncomputable def K8_30 : Code := cL K8_29
noncomputable def K8_31 : Code := cL K8_30
noncomputable def O8_31 : List Oper := cOps K8_31
noncomputable def K8_33 : Code := cR K8_30
noncomputable def K8_34 : Code := cL K8_33
noncomputable def K8_35 : Code := cL K8_34
noncomputable def O8_35 : List Oper := cOps K8_35
noncomputable def K8_37 : Code := cR K8_34
noncomputable def K8_38 : Code := cL K8_37
noncomputable def O8_38 : List Oper := cOps K8_38
noncomputable def K8_40 : Code := cR K8_37
noncomputable def K8_41 : Code := cR K8_33
noncomputable def K8_42 : Code := cL K8_41
noncomputable def K8_43 : Code := cL K8_42
noncomputable def O8_43 : List Oper := cOps K8_43
noncomputable def K8_45 : Code := cR K8_42
noncomputable def K8_46 : Code := cL K8_45
noncomputable def O8_46 : List Oper := cOps K8_46
noncomputable def K8_48 : Code := cR K8_45
noncomputable def K8_49 : Code := cR K8_41
noncomputable def O8_49 : List Oper := cOps K8_49
noncomputable def K8_51 : Code := cR K8_28
noncomputable def O8_51 : List Oper := cOps K8_51
noncomputable def K8_53 : Code := cR K8_15
noncomputable def K8_54 : Code := cL K8_53
noncomputable def O8_54 : List Oper := cOps K8_54
noncomputable def K8_56 : Code := cR K8_53
noncomputable def K8_57 : Code := cL K8_56
noncomputable def O8_57 : List Oper := cOps K8_57
noncomputable def K8_59 : Code := cR K8_56
noncomputable def K8_60 : Code := cL K8_59
noncomputable def O8_60 : List Oper := cOps K8_60
noncomputable def K8_62 : Code := cR K8_59
noncomputable def K8_63 : Code := cL K8_62
noncomputable def K8_64 : Code := cL K8_63
noncomputable def O8_64 : List Oper := cOps K8_64
noncomputable def K8_66 : Code := cR K8_63
noncomputable def K8_67 : Code := cL K8_66
noncomputable def K8_68 : Code := cL K8_67
noncomputable def O8_68 : List Oper := cOps K8_68
noncomputable def K8_70 : Code := cR K8_67
noncomputable def O8_70 : List Oper := cOps K8_70
noncomputable def K8_72 : Code := cR K8_66
noncomputable def K8_73 : Code := cR K8_62
noncomputable def K8_74 : Code := cL K8_73
noncomputable def O8_74 : List Oper := cOps K8_74
noncomputable def K8_76 : Code := cR K8_73
noncomputable def K8_77 : Code := cL K8_76
noncomputable def O8_77 : List Oper := cOps K8_77
noncomputable def K8_79 : Code := cR K8_76
noncomputable def K8_80 : Code := cL K8_79
noncomputable def O8_80 : List Oper := cOps K8_80
noncomputable def K8_82 : Code := cR K8_79
def armillarylaw29_QuorumThreshold.k1  (x6 : Bool) : Option (Bool) := (some x6)
def armillarylaw29_QuorumThreshold.k2 (k : Nat) (a0 : S59) (t1 : Bool) (x1 : List S32) : Int × Bool × Int × Bool → Option (Bool)
  | (x2, x3, x4, x5) => ((quorum_Prepared.f k x1 (W .i64 (1 + (W .i64 (a0.f0.tmod 13)))) (⟨2, 0⟩ : S24)).bind fun t4 => ((quorum_Size.f (W .i64 (1 + (W .i64 (a0.f0.tmod 13))))).bind fun t5 => ((if (x3 == (decide (((W .i64 (a0.f1)).tmod (W .i64 ((W .i64 (1 + (W .i64 (a0.f0.tmod 13)))) + 1))) ≥ t5))) = true then (if x3 = true then (if x2 = a0.f3 then (if x5 = true then (if x4 = a0.f3 then (if t4.2 = true then (some false) else ((quorum_MaxFaulty.f (W .i64 (1 + (W .i64 (a0.f0.tmod 13))))).bind fun t6 => ((quorum_Size.f (W .i64 (1 + (W .i64 (a0.f0.tmod 13))))).bind fun t7 => (if t6 < t7 then (some t1) else (some false))))) else (some false)) else (some false)) else (some false)) else (if t4.2 = true then (some false) else ((quorum_MaxFaulty.f (W .i64 (1 + (W .i64 (a0.f0.tmod 13))))).bind fun t8 => ((quorum_Size.f (W .i64 (1 + (W .i64 (a0.f0.tmod 13))))).bind fun t9 => (if t8 < t9 then (some t1) else (some false)))))) else (some false)).bind (armillarylaw29_QuorumThreshold.k1))))
def armillarylaw29_QuorumThreshold.k3 (k : Nat) (a0 : S59) (t1 : Bool) (x1 : List S32) : Option (Bool) := (if (0 : Int) ≤ ((W .i64 (a0.f1)).tmod (W .i64 ((W .i64 (1 + (W .i64 (a0.f0.tmod 13)))) + 1))) then (if ((W .i64 (a0.f1)).tmod (W .i64 ((W .i64 (1 + (W .i64 (a0.f0.tmod 13)))) + 1))) ≤ (x1.length : Int) then ((quorum_Prepared.f k (rpart x1 0 ((W .i64 (a0.f1)).tmod (W .i64 ((W .i64 (1 + (W .i64 (a0.f0.tmod 13)))) + 1)))) (W .i64 (1 + (W .i64 (a0.f0.tmod 13)))) (⟨2, 1⟩ : S24)).bind fun t2 => ((quorum_Prepared.f k x1 (W .i64 (1 + (W .i64 (a0.f0.tmod 13)))) (⟨2, 1⟩ : S24)).bind fun t3 => ((if a0.f2 = true then (if (0 : Int) ≤ ((W .i64 (a0.f1)).tmod (W .i64 ((W .i64 (1 + (W .i64 (a0.f0.tmod 13)))) + 1))) then (if ((W .i64 (a0.f1)).tmod (W .i64 ((W .i64 (1 + (W .i64 (a0.f0.tmod 13)))) + 1))) ≤ (x1.length : Int) then ((quorum_Committed.f k (rpart x1 0 ((W .i64 (a0.f1)).tmod (W .i64 ((W .i64 (1 + (W .i64 (a0.f0.tmod 13)))) + 1)))) (W .i64 (1 + (W .i64 (a0.f0.tmod 13)))) (⟨2, 1⟩ : S24)).bind fun t10 => ((quorum_Committed.f k x1 (W .i64 (1 + (W .i64 (a0.f0.tmod 13)))) (⟨2, 1⟩ : S24)).bind fun t11 => (some (t10.1, t10.2, t11.1, t11.2)))) else none) else none) else (some (t2.1, t2.2, t3.1, t3.2))).bind (armillarylaw29_QuorumThreshold.k2 k a0 t1 x1)))) else none) else none)
def armillarylaw29_QuorumThreshold.l1 (a0 : S59) : Nat → (List S32) → Int → Option (List S32)
  | 0, _, _ => none
  | k + 1, x7, x8 => (if x8 < (W .i64 (1 + (W .i64 (a0.f0.tmod 13)))) then ((if a0.f2 = true then (some 3) else (some 2)).bind (fun x9 => ((if x8 ≥ ((W .i64 (a0.f1)).tmod (W .i64 ((W .i64 (1 + (W .i64 (a0.f0.tmod 13)))) + 1))) then (some a0.f4) else (some a0.f3)).bind (fun x10 => (if (x7.length + [(⟨x9, x8, 2, 1, x10, (⟨0, (⟨#[]⟩ : ByteArray), []⟩ : S30)⟩ : S32)].length) * 88 ≤ 140737488355328 then (armillarylaw29_QuorumThreshold.l1 a0 k (x7 ++ [(⟨x9, x8, 2, 1, x10, (⟨0, (⟨#[]⟩ : ByteArray), []⟩ : S30)⟩ : S32)]) (W .i64 (x8 + 1))) else none))))) else (some x7))
def armillarylaw29_QuorumThreshold.f (k : Nat) (a0 : S59) : Option (Bool) := ((armillarylaw29_sanity.f k ).bind fun t1 => (if (W .i64 ((W .i64 (1 + (W .i64 (a0.f0.tmod 13)))) + 1)) = 0 then none else ((armillarylaw29_QuorumThreshold.l1 a0 k ([] : List S32) 0).bind (armillarylaw29_QuorumThreshold.k3 k a0 t1))))
def armillarylaw29_QuorumThreshold.Post (I : Imm) (w : World) (r : Bool) (v : Value) (w' : World) : Prop :=
  ∃ (J : Imm), v = .bool r ∧ Got w w' I J []
theorem armillarylaw29_QuorumThreshold.a8_7 : ancs O8_7 [] = [0, 1, 3, 7, 15, 0, 32, 0, 128, 0, 512, 31, 2175, 6655, 16383] := by kernel_rfl
theorem armillarylaw29_QuorumThreshold.a8_7o : drawOk O8_7 [0, 1, 3, 7, 15, 0, 32, 0, 128, 0, 512, 31, 2175, 6655, 16383] 14 = true := by kernel_rfl
noncomputable def armillarylaw29_QuorumThreshold.d1l  : List Ld :=
  []
noncomputable def armillarylaw29_QuorumThreshold.d1g  : List (Nat × ((Nat → Wt) → Value)) := []
theorem armillarylaw29_QuorumThreshold.d1v (a0 : S59) (nx0 : Nat) (t1 : Bool) (u : Nat → Wt) : (qSim Try.prog [] [⟨nx0, [.int .u8 a0.f0, .int .u8 a0.f1, .bool a0.f2, .int .u32 a0.f3, .int .u32 a0.f4], 59⟩] O8_7 ⟨137, []⟩ (Ld.vl armillarylaw29_QuorumThreshold.d1l) armillarylaw29_QuorumThreshold.d1g u [.no, .l 0, .no, .no, .no, .no, .l 0, .no, .l 0, .no, .l 0, .no, .no, .no] 0 (O8_7.take 14) [(3, .bool t1), (1, .pointer (some ⟨nx0, 0, none⟩))]).map (fun x => (x.1, x.2.1)) = some ([.pointer (some ⟨nx0, 0, none⟩), .int .u8 a0.f0, .int .u8 (a0.f0.tmod 13), .int .i64 (W .i64 (a0.f0.tmod 13)), .int .i64 (W .i64 (1 + (W .i64 (a0.f0.tmod 13)))), .pointer (some ⟨nx0, 2, none⟩), .bool a0.f2, .pointer (some ⟨nx0, 3, none⟩), .int .u32 a0.f3, .pointer (some ⟨nx0, 4, none⟩), .int .u32 a0.f4, .int .i64 (W .i64 (1 + (W .i64 (a0.f0.tmod 13)))), .bool a0.f2, .int .u32 a0.f3], [(6, .int .u32 a0.f3), (5, .bool a0.f2), (4, .int .i64 (W .i64 (1 + (W .i64 (a0.f0.tmod 13))))), (31, .int .u32 a0.f4), (30, .pointer (some ⟨nx0, 4, none⟩)), (29, .int .u32 a0.f3), (28, .pointer (some ⟨nx0, 3, none⟩)), (27, .bool a0.f2), (26, .pointer (some ⟨nx0, 2, none⟩)), (25, .int .i64 (W .i64 (1 + (W .i64 (a0.f0.tmod 13))))), (24, .int .i64 (W .i64 (a0.f0.tmod 13))), (23, .int .u8 (a0.f0.tmod 13)), (22, .int .u8 a0.f0), (21, .pointer (some ⟨nx0, 0, none⟩)), (3, .bool t1), (1, .pointer (some ⟨nx0, 0, none⟩))]) := by kernel_rfl
theorem armillarylaw29_QuorumThreshold.d1e (a0 : S59) (nx0 : Nat) (t1 : Bool) (u : Nat → Wt) : (qSim Try.prog [] [⟨nx0, [.int .u8 a0.f0, .int .u8 a0.f1, .bool a0.f2, .int .u32 a0.f3, .int .u32 a0.f4], 59⟩] O8_7 ⟨137, []⟩ (Ld.vl armillarylaw29_QuorumThreshold.d1l) armillarylaw29_QuorumThreshold.d1g u [.no, .l 0, .no, .no, .no, .no, .l 0, .no, .l 0, .no, .l 0, .no, .no, .no] 0 (O8_7.take 14) [(3, .bool t1), (1, .pointer (some ⟨nx0, 0, none⟩))]).map (fun x => x.2.2.map (·.1)) = (qSim Try.prog [] [⟨nx0, [.int .u8 a0.f0, .int .u8 a0.f1, .bool a0.f2, .int .u32 a0.f3, .int .u32 a0.f4], 59⟩] O8_7 ⟨137, []⟩ (Ld.vl armillarylaw29_QuorumThreshold.d1l) armillarylaw29_QuorumThreshold.d1g u [.no, .l 0, .no, .no, .no, .no, .l 0, .no, .l 0, .no, .l 0, .no, .no, .no] 0 (O8_7.take 14) [(3, .bool t1), (1, .pointer (some ⟨nx0, 0, none⟩))]).map (fun x => x.2.2.map (·.2)) := by kernel_rfl
theorem armillarylaw29_QuorumThreshold.a8_57 : ancs O8_57 [] = [0, 0, 3, 0, 0, 31, 63, 127, 127, 255, 1023] := by kernel_rfl
theorem armillarylaw29_QuorumThreshold.a8_57o : drawOk O8_57 [0, 0, 3, 0, 0, 31, 63, 127, 127, 255, 1023] 10 = true := by kernel_rfl
noncomputable def armillarylaw29_QuorumThreshold.d2l (t2 : Int × Bool) : List Ld :=
  [⟨5, fun x => .tuple #[.int .u32 t2.1, .bool t2.2], fun x => [], fun x J => True, fun x J J' h f => trivial⟩]
noncomputable def armillarylaw29_QuorumThreshold.d2g (a0 : S59) (x1 : List S32) (A1 : Option Addr) (c1 : Nat) : List (Nat × ((Nat → Wt) → Value)) := [(2, fun u => .slice (slA A1 (0 : Int).toNat c1 8) ((rpart x1 0 ((W .i64 (a0.f1)).tmod (W .i64 ((W .i64 (1 + (W .i64 (a0.f0.tmod 13)))) + 1)))).length) (c1 - (0 : Int).toNat))]
theorem armillarylaw29_QuorumThreshold.d2v (a0 : S59) (nx0 : Nat) (t1 : Bool) (x1 : List S32) (A1 : Option Addr) (c1 : Nat) (nx3 : Nat) (t2 : Int × Bool) (u : Nat → Wt) : (qSim Try.prog [] [⟨nx0, [.int .u8 a0.f0, .int .u8 a0.f1, .bool a0.f2, .int .u32 a0.f3, .int .u32 a0.f4], 59⟩, ⟨nx3, [.int .i64 2, .int .i64 1], 24⟩] O8_57 ⟨137, []⟩ (Ld.vl (armillarylaw29_QuorumThreshold.d2l t2)) (armillarylaw29_QuorumThreshold.d2g a0 x1 A1 c1) u [.no, .no, .no, .no, .l 1, .no, .no, .no, .no, .no] 0 (O8_57.take 10) [(12, .pointer (some ⟨nx3, 0, none⟩)), (3, .bool t1), (4, .int .i64 (W .i64 (1 + (W .i64 (a0.f0.tmod 13))))), (5, .bool a0.f2), (6, .int .u32 a0.f3), (8, .int .i64 ((W .i64 (a0.f1)).tmod (W .i64 ((W .i64 (1 + (W .i64 (a0.f0.tmod 13)))) + 1)))), (9, .slice A1 x1.length c1)]).map (fun x => (x.1, x.2.1)) = some ([.slice A1 x1.length c1, .int .i64 ((W .i64 (a0.f1)).tmod (W .i64 ((W .i64 (1 + (W .i64 (a0.f0.tmod 13)))) + 1))), .slice (slA A1 (0 : Int).toNat c1 8) ((rpart x1 0 ((W .i64 (a0.f1)).tmod (W .i64 ((W .i64 (1 + (W .i64 (a0.f0.tmod 13)))) + 1)))).length) (c1 - (0 : Int).toNat), .int .i64 (W .i64 (1 + (W .i64 (a0.f0.tmod 13)))), .agg #[.int .i64 2, .int .i64 1], .tuple #[.int .u32 t2.1, .bool t2.2], .tuple #[.int .u32 t2.1, .bool t2.2], .int .u32 t2.1, .bool t2.2, .int .u32 t2.1], [(13, .int .u32 t2.1), (67, .bool t2.2), (66, .int .u32 t2.1), (59, .tuple #[.int .u32 t2.1, .bool t2.2]), (65, .tuple #[.int .u32 t2.1, .bool t2.2]), (64, .agg #[.int .i64 2, .int .i64 1]), (63, .int .i64 (W .i64 (1 + (W .i64 (a0.f0.tmod 13))))), (62, .slice (slA A1 (0 : Int).toNat c1 8) ((rpart x1 0 ((W .i64 (a0.f1)).tmod (W .i64 ((W .i64 (1 + (W .i64 (a0.f0.tmod 13)))) + 1)))).length) (c1 - (0 : Int).toNat)), (61, .int .i64 ((W .i64 (a0.f1)).tmod (W .i64 ((W .i64 (1 + (W .i64 (a0.f0.tmod 13)))) + 1)))), (60, .slice A1 x1.length c1), (12, .pointer (some ⟨nx3, 0, none⟩)), (3, .bool t1), (4, .int .i64 (W .i64 (1 + (W .i64 (a0.f0.tmod 13))))), (5, .bool a0.f2), (6, .int .u32 a0.f3), (8, .int .i64 ((W .i64 (a0.f1)).tmod (W .i64 ((W .i64 (1 + (W .i64 (a0.f0.tmod 13)))) + 1)))), (9, .slice A1 x1.length c1)]) := by kernel_rfl
theorem armillarylaw29_QuorumThreshold.d2e (a0 : S59) (nx0 : Nat) (t1 : Bool) (x1 : List S32) (A1 : Option Addr) (c1 : Nat) (nx3 : Nat) (t2 : Int × Bool) (u : Nat → Wt) : (qSim Try.prog [] [⟨nx0, [.int .u8 a0.f0, .int .u8 a0.f1, .bool a0.f2, .int .u32 a0.f3, .int .u32 a0.f4], 59⟩, ⟨nx3, [.int .i64 2, .int .i64 1], 24⟩] O8_57 ⟨137, []⟩ (Ld.vl (armillarylaw29_QuorumThreshold.d2l t2)) (armillarylaw29_QuorumThreshold.d2g a0 x1 A1 c1) u [.no, .no, .no, .no, .l 1, .no, .no, .no, .no, .no] 0 (O8_57.take 10) [(12, .pointer (some ⟨nx3, 0, none⟩)), (3, .bool t1), (4, .int .i64 (W .i64 (1 + (W .i64 (a0.f0.tmod 13))))), (5, .bool a0.f2), (6, .int .u32 a0.f3), (8, .int .i64 ((W .i64 (a0.f1)).tmod (W .i64 ((W .i64 (1 + (W .i64 (a0.f0.tmod 13)))) + 1)))), (9, .slice A1 x1.length c1)]).map (fun x => x.2.2.map (·.1)) = (qSim Try.prog [] [⟨nx0, [.int .u8 a0.f0, .int .u8 a0.f1, .bool a0.f2, .int .u32 a0.f3, .int .u32 a0.f4], 59⟩, ⟨nx3, [.int .i64 2, .int .i64 1], 24⟩] O8_57 ⟨137, []⟩ (Ld.vl (armillarylaw29_QuorumThreshold.d2l t2)) (armillarylaw29_QuorumThreshold.d2g a0 x1 A1 c1) u [.no, .no, .no, .no, .l 1, .no, .no, .no, .no, .no] 0 (O8_57.take 10) [(12, .pointer (some ⟨nx3, 0, none⟩)), (3, .bool t1), (4, .int .i64 (W .i64 (1 + (W .i64 (a0.f0.tmod 13))))), (5, .bool a0.f2), (6, .int .u32 a0.f3), (8, .int .i64 ((W .i64 (a0.f1)).tmod (W .i64 ((W .i64 (1 + (W .i64 (a0.f0.tmod 13)))) + 1)))), (9, .slice A1 x1.length c1)]).map (fun x => x.2.2.map (·.2)) := by kernel_rfl
theorem armillarylaw29_QuorumThreshold.a8_68 : ancs O8_68 [] = [0, 0, 3, 0, 0, 31, 63, 127, 127, 255, 1023] := by kernel_rfl
theorem armillarylaw29_QuorumThreshold.a8_68o : drawOk O8_68 [0, 0, 3, 0, 0, 31, 63, 127, 127, 255, 1023] 10 = true := by kernel_rfl
noncomputable def armillarylaw29_QuorumThreshold.d3l (t10 : Int × Bool) : List Ld :=
  [⟨5, fun x => .tuple #[.int .u32 t10.1, .bool t10.2], fun x => [], fun x J => True, fun x J J' h f => trivial⟩]
noncomputable def armillarylaw29_QuorumThreshold.d3g (a0 : S59) (x1 : List S32) (A1 : Option Addr) (c1 : Nat) : List (Nat × ((Nat → Wt) → Value)) := [(2, fun u => .slice (slA A1 (0 : Int).toNat c1 8) ((rpart x1 0 ((W .i64 (a0.f1)).tmod (W .i64 ((W .i64 (1 + (W .i64 (a0.f0.tmod 13)))) + 1)))).length) (c1 - (0 : Int).toNat))]
theorem armillarylaw29_QuorumThreshold.d3v (a0 : S59) (nx0 : Nat) (t1 : Bool) (x1 : List S32) (A1 : Option Addr) (c1 : Nat) (nx3 : Nat) (t2 : Int × Bool) (t3 : Int × Bool) (t10 : Int × Bool) (u : Nat → Wt) : (qSim Try.prog [] [⟨nx0, [.int .u8 a0.f0, .int .u8 a0.f1, .bool a0.f2, .int .u32 a0.f3, .int .u32 a0.f4], 59⟩, ⟨nx3, [.int .i64 2, .int .i64 1], 24⟩] O8_68 ⟨137, []⟩ (Ld.vl (armillarylaw29_QuorumThreshold.d3l t10)) (armillarylaw29_QuorumThreshold.d3g a0 x1 A1 c1) u [.no, .no, .no, .no, .l 1, .no, .no, .no, .no, .no] 0 (O8_68.take 10) [(75, .bool a0.f2), (16, .bool t3.2), (15, .int .u32 t3.1), (14, .bool t2.2), (13, .int .u32 t2.1), (12, .pointer (some ⟨nx3, 0, none⟩)), (3, .bool t1), (4, .int .i64 (W .i64 (1 + (W .i64 (a0.f0.tmod 13))))), (6, .int .u32 a0.f3), (8, .int .i64 ((W .i64 (a0.f1)).tmod (W .i64 ((W .i64 (1 + (W .i64 (a0.f0.tmod 13)))) + 1)))), (9, .slice A1 x1.length c1)]).map (fun x => (x.1, x.2.1)) = some ([.slice A1 x1.length c1, .int .i64 ((W .i64 (a0.f1)).tmod (W .i64 ((W .i64 (1 + (W .i64 (a0.f0.tmod 13)))) + 1))), .slice (slA A1 (0 : Int).toNat c1 8) ((rpart x1 0 ((W .i64 (a0.f1)).tmod (W .i64 ((W .i64 (1 + (W .i64 (a0.f0.tmod 13)))) + 1)))).length) (c1 - (0 : Int).toNat), .int .i64 (W .i64 (1 + (W .i64 (a0.f0.tmod 13)))), .agg #[.int .i64 2, .int .i64 1], .tuple #[.int .u32 t10.1, .bool t10.2], .tuple #[.int .u32 t10.1, .bool t10.2], .int .u32 t10.1, .bool t10.2, .int .u32 t10.1], [(13, .int .u32 t10.1), (84, .bool t10.2), (83, .int .u32 t10.1), (76, .tuple #[.int .u32 t10.1, .bool t10.2]), (82, .tuple #[.int .u32 t10.1, .bool t10.2]), (81, .agg #[.int .i64 2, .int .i64 1]), (80, .int .i64 (W .i64 (1 + (W .i64 (a0.f0.tmod 13))))), (79, .slice (slA A1 (0 : Int).toNat c1 8) ((rpart x1 0 ((W .i64 (a0.f1)).tmod (W .i64 ((W .i64 (1 + (W .i64 (a0.f0.tmod 13)))) + 1)))).length) (c1 - (0 : Int).toNat)), (78, .int .i64 ((W .i64 (a0.f1)).tmod (W .i64 ((W .i64 (1 + (W .i64 (a0.f0.tmod 13)))) + 1)))), (77, .slice A1 x1.length c1), (75, .bool a0.f2), (16, .bool t3.2), (15, .int .u32 t3.1), (14, .bool t2.2), (12, .pointer (some ⟨nx3, 0, none⟩)), (3, .bool t1), (4, .int .i64 (W .i64 (1 + (W .i64 (a0.f0.tmod 13))))), (6, .int .u32 a0.f3), (8, .int .i64 ((W .i64 (a0.f1)).tmod (W .i64 ((W .i64 (1 + (W .i64 (a0.f0.tmod 13)))) + 1)))), (9, .slice A1 x1.length c1)]) := by kernel_rfl
theorem armillarylaw29_QuorumThreshold.d3e (a0 : S59) (nx0 : Nat) (t1 : Bool) (x1 : List S32) (A1 : Option Addr) (c1 : Nat) (nx3 : Nat) (t2 : Int × Bool) (t3 : Int × Bool) (t10 : Int × Bool) (u : Nat → Wt) : (qSim Try.prog [] [⟨nx0, [.int .u8 a0.f0, .int .u8 a0.f1, .bool a0.f2, .int .u32 a0.f3, .int .u32 a0.f4], 59⟩, ⟨nx3, [.int .i64 2, .int .i64 1], 24⟩] O8_68 ⟨137, []⟩ (Ld.vl (armillarylaw29_QuorumThreshold.d3l t10)) (armillarylaw29_QuorumThreshold.d3g a0 x1 A1 c1) u [.no, .no, .no, .no, .l 1, .no, .no, .no, .no, .no] 0 (O8_68.take 10) [(75, .bool a0.f2), (16, .bool t3.2), (15, .int .u32 t3.1), (14, .bool t2.2), (13, .int .u32 t2.1), (12, .pointer (some ⟨nx3, 0, none⟩)), (3, .bool t1), (4, .int .i64 (W .i64 (1 + (W .i64 (a0.f0.tmod 13))))), (6, .int .u32 a0.f3), (8, .int .i64 ((W .i64 (a0.f1)).tmod (W .i64 ((W .i64 (1 + (W .i64 (a0.f0.tmod 13)))) + 1)))), (9, .slice A1 x1.length c1)]).map (fun x => x.2.2.map (·.1)) = (qSim Try.prog [] [⟨nx0, [.int .u8 a0.f0, .int .u8 a0.f1, .bool a0.f2, .int .u32 a0.f3, .int .u32 a0.f4], 59⟩, ⟨nx3, [.int .i64 2, .int .i64 1], 24⟩] O8_68 ⟨137, []⟩ (Ld.vl (armillarylaw29_QuorumThreshold.d3l t10)) (armillarylaw29_QuorumThreshold.d3g a0 x1 A1 c1) u [.no, .no, .no, .no, .l 1, .no, .no, .no, .no, .no] 0 (O8_68.take 10) [(75, .bool a0.f2), (16, .bool t3.2), (15, .int .u32 t3.1), (14, .bool t2.2), (13, .int .u32 t2.1), (12, .pointer (some ⟨nx3, 0, none⟩)), (3, .bool t1), (4, .int .i64 (W .i64 (1 + (W .i64 (a0.f0.tmod 13))))), (6, .int .u32 a0.f3), (8, .int .i64 ((W .i64 (a0.f1)).tmod (W .i64 ((W .i64 (1 + (W .i64 (a0.f0.tmod 13)))) + 1)))), (9, .slice A1 x1.length c1)]).map (fun x => x.2.2.map (·.2)) := by kernel_rfl
theorem armillarylaw29_QuorumThreshold.calls (k : Nat) (I0 : Imm) (a0 : S59) (w : World) (hI : I0.at_ w)  (r : Bool) (h : armillarylaw29_QuorumThreshold.f k a0 = some r) :
    Calls Try.prog 8 [.agg #[.int .u8 a0.f0, .int .u8 a0.f1, .bool a0.f2, .int .u32 a0.f3, .int .u32 a0.f4]].toArray w fun e w' => ∃ v, e = .returned v ∧ armillarylaw29_QuorumThreshold.Post I0 w r v w' := by
  have H : ((armillarylaw29_sanity.f k ).bind fun t1 => (if (W .i64 ((W .i64 (1 + (W .i64 (a0.f0.tmod 13)))) + 1)) = 0 then none else ((armillarylaw29_QuorumThreshold.l1 a0 k ([] : List S32) 0).bind (armillarylaw29_QuorumThreshold.k3 k a0 t1)))) = some r := h
  clear h
  refine calls_body Try.func8 (by kernel_rfl) 137 (by kernel_rfl) (by kernel_rfl) ⟨w, fun _ => False, I0⟩ I0 [] [(0, .agg #[.int .u8 a0.f0, .int .u8 a0.f1, .bool a0.f2, .int .u32 a0.f3, .int .u32 a0.f4])] (by kernel_rfl) (Sat.start w _ I0 hI) ?_
  generalize w.heap.size = nx0
  show OK _ K8_0 _ _ _ _ _ _ _ _
  refine OK.seq K8_1 K8_3 (by kernel_rfl) ?_
  refine OK.region 0 O8_1 (by kernel_rfl) ?_
  refine RL.simP (K' := [(1, .pointer (some ⟨nx0, 0, none⟩))]) (nx' := nx0 + 1) (L' := [⟨nx0, [.int .u8 a0.f0, .int .u8 a0.f1, .bool a0.f2, .int .u32 a0.f3, .int .u32 a0.f4], 59⟩]) [] (RFacts.nil _ _ _) 2 [.no, .no] (by kernel_rfl) (by kernel_rfl) ?_
  refine RL.nil (by kernel_rfl) ?_
  refine QN.then_ ?_
  refine OK.seq K8_4 K8_6 (by kernel_rfl) ?_
  refine OK.region 1 O8_4 (by kernel_rfl) ?_
  obtain ⟨t1, hA1, H⟩ := Option.bind_eq_some_iff.mp H
  refine RL.callP 10 [] (some 20) (fun w => armillarylaw29_sanity.Post I0 w t1) (by kernel_rfl) (by kernel_rfl) (fun w hs => armillarylaw29_sanity.calls k I0  w hs.im  t1 hA1) ?_
  rintro w v w' hs ⟨I1, rfl, hg⟩
  have hi1 := hg.le
  refine RL.resume (K' := [(20, .bool t1), (1, .pointer (some ⟨nx0, 0, none⟩))]) (X' := []) (by kernel_rfl) (hs.call hg) ?_
  clear hs hg
  generalize w'.heap.size = nx1
  clear w w'
  refine RL.simP (K' := [(3, .bool t1), (1, .pointer (some ⟨nx0, 0, none⟩))]) (nx' := nx1) (L' := [⟨nx0, [.int .u8 a0.f0, .int .u8 a0.f1, .bool a0.f2, .int .u32 a0.f3, .int .u32 a0.f4], 59⟩]) [] (RFacts.nil _ _ _) 1 [.no] (by kernel_rfl) (by kernel_rfl) ?_
  refine RL.nil (by kernel_rfl) ?_
  refine QN.then_ ?_
  refine OK.seq K8_7 K8_9 (by kernel_rfl) ?_
  refine OK.drawnC 2 14 O8_7 [0, 1, 3, 7, 15, 0, 32, 0, 128, 0, 512, 31, 2175, 6655, 16383] (by kernel_rfl) (by kernel_rfl) armillarylaw29_QuorumThreshold.d1l armillarylaw29_QuorumThreshold.d1g [] (RI.nil _) [.no, .l 0, .no, .no, .no, .no, .l 0, .no, .l 0, .no, .l 0, .no, .no, .no] armillarylaw29_QuorumThreshold.a8_7 armillarylaw29_QuorumThreshold.a8_7o (by kernel_rfl) (by kernel_rfl) (fun u => [.pointer (some ⟨nx0, 0, none⟩), .int .u8 a0.f0, .int .u8 (a0.f0.tmod 13), .int .i64 (W .i64 (a0.f0.tmod 13)), .int .i64 (W .i64 (1 + (W .i64 (a0.f0.tmod 13)))), .pointer (some ⟨nx0, 2, none⟩), .bool a0.f2, .pointer (some ⟨nx0, 3, none⟩), .int .u32 a0.f3, .pointer (some ⟨nx0, 4, none⟩), .int .u32 a0.f4, .int .i64 (W .i64 (1 + (W .i64 (a0.f0.tmod 13)))), .bool a0.f2, .int .u32 a0.f3]) (fun u => [(6, .int .u32 a0.f3), (5, .bool a0.f2), (4, .int .i64 (W .i64 (1 + (W .i64 (a0.f0.tmod 13))))), (31, .int .u32 a0.f4), (30, .pointer (some ⟨nx0, 4, none⟩)), (29, .int .u32 a0.f3), (28, .pointer (some ⟨nx0, 3, none⟩)), (27, .bool a0.f2), (26, .pointer (some ⟨nx0, 2, none⟩)), (25, .int .i64 (W .i64 (1 + (W .i64 (a0.f0.tmod 13))))), (24, .int .i64 (W .i64 (a0.f0.tmod 13))), (23, .int .u8 (a0.f0.tmod 13)), (22, .int .u8 a0.f0), (21, .pointer (some ⟨nx0, 0, none⟩)), (3, .bool t1), (1, .pointer (some ⟨nx0, 0, none⟩))]) (armillarylaw29_QuorumThreshold.d1v a0 nx0 t1) (armillarylaw29_QuorumThreshold.d1e a0 nx0 t1) [] framesOk.nil ?_ [] framesOk.nil ?_ ?_
  · refine LoudsG.nil
  · refine Givens.nil
  intro u I2 nx2 hi2 hF
  clear hF
  show RL _ _ _ 14 _ [(6, .int .u32 a0.f3), (5, .bool a0.f2), (4, .int .i64 (W .i64 (1 + (W .i64 (a0.f0.tmod 13))))), (31, .int .u32 a0.f4), (30, .pointer (some ⟨nx0, 4, none⟩)), (29, .int .u32 a0.f3), (28, .pointer (some ⟨nx0, 3, none⟩)), (27, .bool a0.f2), (26, .pointer (some ⟨nx0, 2, none⟩)), (25, .int .i64 (W .i64 (1 + (W .i64 (a0.f0.tmod 13))))), (24, .int .i64 (W .i64 (a0.f0.tmod 13))), (23, .int .u8 (a0.f0.tmod 13)), (22, .int .u8 a0.f0), (21, .pointer (some ⟨nx0, 0, none⟩)), (3, .bool t1), (1, .pointer (some ⟨nx0, 0, none⟩))] _ _ _ [⟨nx0, [.int .u8 a0.f0, .int .u8 a0.f1, .bool a0.f2, .int .u32 a0.f3, .int .u32 a0.f4], 59⟩] []
  clear u
  refine RL.simP (K' := [(7, .int .u32 a0.f4), (6, .int .u32 a0.f3), (5, .bool a0.f2), (4, .int .i64 (W .i64 (1 + (W .i64 (a0.f0.tmod 13))))), (3, .bool t1), (1, .pointer (some ⟨nx0, 0, none⟩))]) (nx' := nx2) (L' := [⟨nx0, [.int .u8 a0.f0, .int .u8 a0.f1, .bool a0.f2, .int .u32 a0.f3, .int .u32 a0.f4], 59⟩]) [] (RFacts.nil _ _ _) 1 [.no] (by kernel_rfl) (by kernel_rfl) ?_
  refine RL.nil (by kernel_rfl) ?_
  refine QN.then_ ?_
  refine OK.seq K8_10 K8_12 (by kernel_rfl) ?_
  refine OK.region 3 O8_10 (by kernel_rfl) ?_
  refine RL.simP (K' := [(36, .int .i64 (W .i64 ((W .i64 (1 + (W .i64 (a0.f0.tmod 13)))) + 1))), (34, .int .i64 (W .i64 (a0.f1))), (7, .int .u32 a0.f4), (6, .int .u32 a0.f3), (5, .bool a0.f2), (4, .int .i64 (W .i64 (1 + (W .i64 (a0.f0.tmod 13))))), (3, .bool t1)]) (nx' := nx2) (L' := [⟨nx0, [.int .u8 a0.f0, .int .u8 a0.f1, .bool a0.f2, .int .u32 a0.f3, .int .u32 a0.f4], 59⟩]) [] (RFacts.nil _ _ _) 5 [.no, .l 0, .no, .no, .no] (by kernel_rfl) (by kernel_rfl) ?_
  by_cases hc : (W .i64 ((W .i64 (1 + (W .i64 (a0.f0.tmod 13)))) + 1)) = 0
  · rw [if_pos hc] at H; cases H
  rw [if_neg hc] at H
  refine RL.rem .i64 (W .i64 (a0.f1)) (W .i64 ((W .i64 (1 + (W .i64 (a0.f0.tmod 13)))) + 1)) (some 37) (by kernel_rfl) (by kernel_rfl) hc (K' := [(37, .int .i64 ((W .i64 (a0.f1)).tmod (W .i64 ((W .i64 (1 + (W .i64 (a0.f0.tmod 13)))) + 1)))), (36, .int .i64 (W .i64 ((W .i64 (1 + (W .i64 (a0.f0.tmod 13)))) + 1))), (34, .int .i64 (W .i64 (a0.f1))), (7, .int .u32 a0.f4), (6, .int .u32 a0.f3), (5, .bool a0.f2), (4, .int .i64 (W .i64 (1 + (W .i64 (a0.f0.tmod 13))))), (3, .bool t1)]) (by kernel_rfl) ?_
  refine RL.simP (K' := [(8, .int .i64 ((W .i64 (a0.f1)).tmod (W .i64 ((W .i64 (1 + (W .i64 (a0.f0.tmod 13)))) + 1)))), (7, .int .u32 a0.f4), (6, .int .u32 a0.f3), (5, .bool a0.f2), (4, .int .i64 (W .i64 (1 + (W .i64 (a0.f0.tmod 13))))), (3, .bool t1)]) (nx' := nx2) (L' := [⟨nx0, [.int .u8 a0.f0, .int .u8 a0.f1, .bool a0.f2, .int .u32 a0.f3, .int .u32 a0.f4], 59⟩]) [] (RFacts.nil _ _ _) 1 [.no] (by kernel_rfl) (by kernel_rfl) ?_
  refine RL.nil (by kernel_rfl) ?_
  refine QN.then_ ?_
  refine OK.seq K8_13 K8_15 (by kernel_rfl) ?_
  refine OK.region 4 O8_13 (by kernel_rfl) ?_
  refine RL.simP (K' := [(9, .slice (some ⟨nx2, 0, none⟩) 0 0), (8, .int .i64 ((W .i64 (a0.f1)).tmod (W .i64 ((W .i64 (1 + (W .i64 (a0.f0.tmod 13)))) + 1)))), (7, .int .u32 a0.f4), (6, .int .u32 a0.f3), (5, .bool a0.f2), (4, .int .i64 (W .i64 (1 + (W .i64 (a0.f0.tmod 13))))), (3, .bool t1)]) (nx' := nx2 + 1) (L' := [⟨nx0, [.int .u8 a0.f0, .int .u8 a0.f1, .bool a0.f2, .int .u32 a0.f3, .int .u32 a0.f4], 59⟩, ⟨nx2, [], 32⟩]) [] (RFacts.nil _ _ _) 2 [.no, .no] (by kernel_rfl) (by kernel_rfl) ?_
  refine RL.nil (by kernel_rfl) ?_
  refine QN.then_ ?_
  refine OK.seq K8_16 K8_53 (by kernel_rfl) ?_
  refine OK.seq K8_17 K8_19 (by kernel_rfl) ?_
  refine OK.region 5 O8_17 (by kernel_rfl) ?_
  refine RL.simP (K' := [(10, .int .i64 0), (9, .slice (some ⟨nx2, 0, none⟩) 0 0), (8, .int .i64 ((W .i64 (a0.f1)).tmod (W .i64 ((W .i64 (1 + (W .i64 (a0.f0.tmod 13)))) + 1)))), (7, .int .u32 a0.f4), (6, .int .u32 a0.f3), (5, .bool a0.f2), (4, .int .i64 (W .i64 (1 + (W .i64 (a0.f0.tmod 13))))), (3, .bool t1)]) (nx' := nx2 + 1) (L' := [⟨nx0, [.int .u8 a0.f0, .int .u8 a0.f1, .bool a0.f2, .int .u32 a0.f3, .int .u32 a0.f4], 59⟩, ⟨nx2, [], 32⟩]) [] (RFacts.nil _ _ _) 1 [.no] (by kernel_rfl) (by kernel_rfl) ?_
  refine RL.nil (by kernel_rfl) ?_
  refine QN.then_ ?_
  refine OK.join (fun K' I' _ L' X' => ∃ (x1 : List S32) (A1 : Option Addr) (c1 : Nat) (cs1 : List Value), K' = [(3, .bool t1), (4, .int .i64 (W .i64 (1 + (W .i64 (a0.f0.tmod 13))))), (5, .bool a0.f2), (6, .int .u32 a0.f3), (8, .int .i64 ((W .i64 (a0.f1)).tmod (W .i64 ((W .i64 (1 + (W .i64 (a0.f0.tmod 13)))) + 1)))), (9, .slice A1 x1.length c1)] ∧ L' = [⟨nx0, [.int .u8 a0.f0, .int .u8 a0.f1, .bool a0.f2, .int .u32 a0.f3, .int .u32 a0.f4], 59⟩] ∧ X' = [orow 32 8 A1 x1.length c1 cs1] ∧ Imm.le I2 I' ∧ Reps t32 I' x1 cs1 ∧ armillarylaw29_QuorumThreshold.k3 k a0 t1 x1 = some r) ?_ ?_
  · rintro _ I3 nx3 _ _ ⟨x1, A1, c1, cs1, rfl, rfl, rfl, hi3, hp1, H⟩
    replace H : (if (0 : Int) ≤ ((W .i64 (a0.f1)).tmod (W .i64 ((W .i64 (1 + (W .i64 (a0.f0.tmod 13)))) + 1))) then (if ((W .i64 (a0.f1)).tmod (W .i64 ((W .i64 (1 + (W .i64 (a0.f0.tmod 13)))) + 1))) ≤ (x1.length : Int) then ((quorum_Prepared.f k (rpart x1 0 ((W .i64 (a0.f1)).tmod (W .i64 ((W .i64 (1 + (W .i64 (a0.f0.tmod 13)))) + 1)))) (W .i64 (1 + (W .i64 (a0.f0.tmod 13)))) (⟨2, 1⟩ : S24)).bind fun t2 => ((quorum_Prepared.f k x1 (W .i64 (1 + (W .i64 (a0.f0.tmod 13)))) (⟨2, 1⟩ : S24)).bind fun t3 => ((if a0.f2 = true then (if (0 : Int) ≤ ((W .i64 (a0.f1)).tmod (W .i64 ((W .i64 (1 + (W .i64 (a0.f0.tmod 13)))) + 1))) then (if ((W .i64 (a0.f1)).tmod (W .i64 ((W .i64 (1 + (W .i64 (a0.f0.tmod 13)))) + 1))) ≤ (x1.length : Int) then ((quorum_Committed.f k (rpart x1 0 ((W .i64 (a0.f1)).tmod (W .i64 ((W .i64 (1 + (W .i64 (a0.f0.tmod 13)))) + 1)))) (W .i64 (1 + (W .i64 (a0.f0.tmod 13)))) (⟨2, 1⟩ : S24)).bind fun t10 => ((quorum_Committed.f k x1 (W .i64 (1 + (W .i64 (a0.f0.tmod 13)))) (⟨2, 1⟩ : S24)).bind fun t11 => (some (t10.1, t10.2, t11.1, t11.2)))) else none) else none) else (some (t2.1, t2.2, t3.1, t3.2))).bind (armillarylaw29_QuorumThreshold.k2 k a0 t1 x1)))) else none) else none) = some r := H
    refine QN.then_ ?_
    refine OK.seq K8_54 K8_56 (by kernel_rfl) ?_
    refine OK.region 14 O8_54 (by kernel_rfl) ?_
    refine RL.simP (K' := [(12, .pointer (some ⟨nx3, 0, none⟩)), (3, .bool t1), (4, .int .i64 (W .i64 (1 + (W .i64 (a0.f0.tmod 13))))), (5, .bool a0.f2), (6, .int .u32 a0.f3), (8, .int .i64 ((W .i64 (a0.f1)).tmod (W .i64 ((W .i64 (1 + (W .i64 (a0.f0.tmod 13)))) + 1)))), (9, .slice A1 x1.length c1)]) (nx' := nx3 + 1) (L' := [⟨nx0, [.int .u8 a0.f0, .int .u8 a0.f1, .bool a0.f2, .int .u32 a0.f3, .int .u32 a0.f4], 59⟩, ⟨nx3, [.int .i64 2, .int .i64 1], 24⟩]) [] (RFacts.nil _ _ _) 3 [.no, .no, .l 1] (by kernel_rfl) (by kernel_rfl) ?_
    refine RL.nil (by kernel_rfl) ?_
    refine QN.then_ ?_
    refine OK.seq K8_57 K8_59 (by kernel_rfl) ?_
    refine OK.freeze (e := 32) (sz := 8) (S := A1) (n := x1.length) (cap := c1) 0 (by kernel_rfl) hp1 rfl (fun _ h => h.elim) (fun I4 hi4 hl1 hr1 => ?_)
    skip
    by_cases hs1_1 : (0 : Int) ≤ ((W .i64 (a0.f1)).tmod (W .i64 ((W .i64 (1 + (W .i64 (a0.f0.tmod 13)))) + 1)))
    case neg => rw [if_neg hs1_1] at H; cases H
    rw [if_pos hs1_1] at H
    by_cases hs2_1 : ((W .i64 (a0.f1)).tmod (W .i64 ((W .i64 (1 + (W .i64 (a0.f0.tmod 13)))) + 1))) ≤ (x1.length : Int)
    case neg => rw [if_neg hs2_1] at H; cases H
    rw [if_pos hs2_1] at H
    obtain ⟨t2, hA2, H⟩ := Option.bind_eq_some_iff.mp H
    refine OK.drawnC 15 10 O8_57 [0, 0, 3, 0, 0, 31, 63, 127, 127, 255, 1023] (by kernel_rfl) (by kernel_rfl) (armillarylaw29_QuorumThreshold.d2l t2) (armillarylaw29_QuorumThreshold.d2g a0 x1 A1 c1) [] (RI.nil _) [.no, .no, .no, .no, .l 1, .no, .no, .no, .no, .no] armillarylaw29_QuorumThreshold.a8_57 armillarylaw29_QuorumThreshold.a8_57o (by kernel_rfl) (by kernel_rfl) (fun u => [.slice A1 x1.length c1, .int .i64 ((W .i64 (a0.f1)).tmod (W .i64 ((W .i64 (1 + (W .i64 (a0.f0.tmod 13)))) + 1))), .slice (slA A1 (0 : Int).toNat c1 8) ((rpart x1 0 ((W .i64 (a0.f1)).tmod (W .i64 ((W .i64 (1 + (W .i64 (a0.f0.tmod 13)))) + 1)))).length) (c1 - (0 : Int).toNat), .int .i64 (W .i64 (1 + (W .i64 (a0.f0.tmod 13)))), .agg #[.int .i64 2, .int .i64 1], .tuple #[.int .u32 t2.1, .bool t2.2], .tuple #[.int .u32 t2.1, .bool t2.2], .int .u32 t2.1, .bool t2.2, .int .u32 t2.1]) (fun u => [(13, .int .u32 t2.1), (67, .bool t2.2), (66, .int .u32 t2.1), (59, .tuple #[.int .u32 t2.1, .bool t2.2]), (65, .tuple #[.int .u32 t2.1, .bool t2.2]), (64, .agg #[.int .i64 2, .int .i64 1]), (63, .int .i64 (W .i64 (1 + (W .i64 (a0.f0.tmod 13))))), (62, .slice (slA A1 (0 : Int).toNat c1 8) ((rpart x1 0 ((W .i64 (a0.f1)).tmod (W .i64 ((W .i64 (1 + (W .i64 (a0.f0.tmod 13)))) + 1)))).length) (c1 - (0 : Int).toNat)), (61, .int .i64 ((W .i64 (a0.f1)).tmod (W .i64 ((W .i64 (1 + (W .i64 (a0.f0.tmod 13)))) + 1)))), (60, .slice A1 x1.length c1), (12, .pointer (some ⟨nx3, 0, none⟩)), (3, .bool t1), (4, .int .i64 (W .i64 (1 + (W .i64 (a0.f0.tmod 13))))), (5, .bool a0.f2), (6, .int .u32 a0.f3), (8, .int .i64 ((W .i64 (a0.f1)).tmod (W .i64 ((W .i64 (1 + (W .i64 (a0.f0.tmod 13)))) + 1)))), (9, .slice A1 x1.length c1)]) (armillarylaw29_QuorumThreshold.d2v a0 nx0 t1 x1 A1 c1 nx3 t2) (armillarylaw29_QuorumThreshold.d2e a0 nx0 t1 x1 A1 c1 nx3 t2) [fun u => [(64, .agg #[.int .i64 2, .int .i64 1]), (63, .int .i64 (W .i64 (1 + (W .i64 (a0.f0.tmod 13))))), (62, .slice (slA A1 (0 : Int).toNat c1 8) ((rpart x1 0 ((W .i64 (a0.f1)).tmod (W .i64 ((W .i64 (1 + (W .i64 (a0.f0.tmod 13)))) + 1)))).length) (c1 - (0 : Int).toNat)), (61, .int .i64 ((W .i64 (a0.f1)).tmod (W .i64 ((W .i64 (1 + (W .i64 (a0.f0.tmod 13)))) + 1)))), (60, .slice A1 x1.length c1), (12, .pointer (some ⟨nx3, 0, none⟩)), (3, .bool t1), (4, .int .i64 (W .i64 (1 + (W .i64 (a0.f0.tmod 13))))), (5, .bool a0.f2), (6, .int .u32 a0.f3), (8, .int .i64 ((W .i64 (a0.f1)).tmod (W .i64 ((W .i64 (1 + (W .i64 (a0.f0.tmod 13)))) + 1)))), (9, .slice A1 x1.length c1)]] (framesOk.cons (fun u => by kernel_rfl) framesOk.nil) ?_ [fun u => [(61, .int .i64 ((W .i64 (a0.f1)).tmod (W .i64 ((W .i64 (1 + (W .i64 (a0.f0.tmod 13)))) + 1)))), (60, .slice A1 x1.length c1), (12, .pointer (some ⟨nx3, 0, none⟩)), (3, .bool t1), (4, .int .i64 (W .i64 (1 + (W .i64 (a0.f0.tmod 13))))), (5, .bool a0.f2), (6, .int .u32 a0.f3), (8, .int .i64 ((W .i64 (a0.f1)).tmod (W .i64 ((W .i64 (1 + (W .i64 (a0.f0.tmod 13)))) + 1)))), (9, .slice A1 x1.length c1)]] (framesOk.cons (fun u => by kernel_rfl) framesOk.nil) ?_ ?_
    · refine LoudsG.cons ?_ (LoudsG.nil)
      · intro D u J w hp hJ hs hF
        refine Does.call 14 [.slice (slA A1 (0 : Int).toNat c1 8) ((rpart x1 0 ((W .i64 (a0.f1)).tmod (W .i64 ((W .i64 (1 + (W .i64 (a0.f0.tmod 13)))) + 1)))).length) (c1 - (0 : Int).toNat), .int .i64 (W .i64 (1 + (W .i64 (a0.f0.tmod 13)))), .agg #[.int .i64 2, .int .i64 1]] (by kernel_rfl) ((quorum_Prepared.calls k J (rpart x1 0 ((W .i64 (a0.f1)).tmod (W .i64 ((W .i64 (1 + (W .i64 (a0.f0.tmod 13)))) + 1)))) (slA A1 (0 : Int).toNat c1 8) (c1 - (0 : Int).toNat) (W .i64 (1 + (W .i64 (a0.f0.tmod 13)))) (⟨2, 1⟩ : S24) w hs.im (part_le hl1 (Int.le_refl 0) hs1_1 hs2_1) (Rd.ext hJ (rd_sub hr1 hl1 (Int.le_refl 0) hs1_1 hs2_1)) t2 hA2).mono ?_)
        rintro e w' ⟨v, rfl, J2, rfl, hg⟩
        exact ⟨_, rfl, fun _ => (none, 0, []), J2, rfl, hg, trivial⟩
    · refine Givens.cons (fun u w =>  ?_) (fun _ _ _ => rfl) (Givens.nil)
      · exact giv_subH (T := 22) (e := 32) (l := x1) (S := A1) (cap := c1) (hi := (W .i64 (a0.f1)).tmod (W .i64 ((W .i64 (1 + (W .i64 (a0.f0.tmod 13)))) + 1))) 8 .i64 (by kernel_rfl) (by kernel_rfl) (by kernel_rfl) hl1 hs1_1 hs2_1 w
    intro u I5 nx4 hi5 hF
    clear hF
    show RL _ _ _ 10 _ [(13, .int .u32 t2.1), (67, .bool t2.2), (66, .int .u32 t2.1), (59, .tuple #[.int .u32 t2.1, .bool t2.2]), (65, .tuple #[.int .u32 t2.1, .bool t2.2]), (64, .agg #[.int .i64 2, .int .i64 1]), (63, .int .i64 (W .i64 (1 + (W .i64 (a0.f0.tmod 13))))), (62, .slice (slA A1 (0 : Int).toNat c1 8) ((rpart x1 0 ((W .i64 (a0.f1)).tmod (W .i64 ((W .i64 (1 + (W .i64 (a0.f0.tmod 13)))) + 1)))).length) (c1 - (0 : Int).toNat)), (61, .int .i64 ((W .i64 (a0.f1)).tmod (W .i64 ((W .i64 (1 + (W .i64 (a0.f0.tmod 13)))) + 1)))), (60, .slice A1 x1.length c1), (12, .pointer (some ⟨nx3, 0, none⟩)), (3, .bool t1), (4, .int .i64 (W .i64 (1 + (W .i64 (a0.f0.tmod 13))))), (5, .bool a0.f2), (6, .int .u32 a0.f3), (8, .int .i64 ((W .i64 (a0.f1)).tmod (W .i64 ((W .i64 (1 + (W .i64 (a0.f0.tmod 13)))) + 1)))), (9, .slice A1 x1.length c1)] _ _ _ [⟨nx0, [.int .u8 a0.f0, .int .u8 a0.f1, .bool a0.f2, .int .u32 a0.f3, .int .u32 a0.f4], 59⟩, ⟨nx3, [.int .i64 2, .int .i64 1], 24⟩] []
    clear u
    refine RL.simP (K' := [(14, .bool t2.2), (13, .int .u32 t2.1), (12, .pointer (some ⟨nx3, 0, none⟩)), (3, .bool t1), (4, .int .i64 (W .i64 (1 + (W .i64 (a0.f0.tmod 13))))), (5, .bool a0.f2), (6, .int .u32 a0.f3), (8, .int .i64 ((W .i64 (a0.f1)).tmod (W .i64 ((W .i64 (1 + (W .i64 (a0.f0.tmod 13)))) + 1)))), (9, .slice A1 x1.length c1)]) (nx' := nx4) (L' := [⟨nx0, [.int .u8 a0.f0, .int .u8 a0.f1, .bool a0.f2, .int .u32 a0.f3, .int .u32 a0.f4], 59⟩, ⟨nx3, [.int .i64 2, .int .i64 1], 24⟩]) [] (RFacts.nil _ _ _) 1 [.no] (by kernel_rfl) (by kernel_rfl) ?_
    refine RL.nil (by kernel_rfl) ?_
    refine QN.then_ ?_
    refine OK.seq K8_60 K8_62 (by kernel_rfl) ?_
    refine OK.region 16 O8_60 (by kernel_rfl) ?_
    refine RL.simP (K' := [(71, .agg #[.int .i64 2, .int .i64 1]), (70, .int .i64 (W .i64 (1 + (W .i64 (a0.f0.tmod 13))))), (69, .slice A1 x1.length c1), (14, .bool t2.2), (13, .int .u32 t2.1), (12, .pointer (some ⟨nx3, 0, none⟩)), (3, .bool t1), (4, .int .i64 (W .i64 (1 + (W .i64 (a0.f0.tmod 13))))), (5, .bool a0.f2), (6, .int .u32 a0.f3), (8, .int .i64 ((W .i64 (a0.f1)).tmod (W .i64 ((W .i64 (1 + (W .i64 (a0.f0.tmod 13)))) + 1)))), (9, .slice A1 x1.length c1)]) (nx' := nx4) (L' := [⟨nx0, [.int .u8 a0.f0, .int .u8 a0.f1, .bool a0.f2, .int .u32 a0.f3, .int .u32 a0.f4], 59⟩, ⟨nx3, [.int .i64 2, .int .i64 1], 24⟩]) [] (RFacts.nil _ _ _) 3 [.no, .no, .l 1] (by kernel_rfl) (by kernel_rfl) ?_
    obtain ⟨t3, hA3, H⟩ := Option.bind_eq_some_iff.mp H
    refine RL.callP 14 [.slice A1 x1.length c1, .int .i64 (W .i64 (1 + (W .i64 (a0.f0.tmod 13)))), .agg #[.int .i64 2, .int .i64 1]] (some 72) (fun w => quorum_Prepared.Post I5 w t3) (by kernel_rfl) (by kernel_rfl) (fun w hs => quorum_Prepared.calls k I5 x1 A1 c1 (W .i64 (1 + (W .i64 (a0.f0.tmod 13)))) (⟨2, 1⟩ : S24) w hs.im hl1 (Rd.ext hi5 hr1) t3 hA3) ?_
    rintro w v w' hs ⟨I6, rfl, hg⟩
    have hi6 := hg.le
    refine RL.resume (K' := [(72, .tuple #[.int .u32 t3.1, .bool t3.2]), (71, .agg #[.int .i64 2, .int .i64 1]), (70, .int .i64 (W .i64 (1 + (W .i64 (a0.f0.tmod 13))))), (69, .slice A1 x1.length c1), (14, .bool t2.2), (13, .int .u32 t2.1), (12, .pointer (some ⟨nx3, 0, none⟩)), (3, .bool t1), (4, .int .i64 (W .i64 (1 + (W .i64 (a0.f0.tmod 13))))), (5, .bool a0.f2), (6, .int .u32 a0.f3), (8, .int .i64 ((W .i64 (a0.f1)).tmod (W .i64 ((W .i64 (1 + (W .i64 (a0.f0.tmod 13)))) + 1)))), (9, .slice A1 x1.length c1)]) (X' := []) (by kernel_rfl) (hs.call hg) ?_
    clear hs hg
    generalize w'.heap.size = nx5
    clear w w'
    refine RL.simP (K' := [(16, .bool t3.2), (15, .int .u32 t3.1), (14, .bool t2.2), (13, .int .u32 t2.1), (12, .pointer (some ⟨nx3, 0, none⟩)), (3, .bool t1), (4, .int .i64 (W .i64 (1 + (W .i64 (a0.f0.tmod 13))))), (5, .bool a0.f2), (6, .int .u32 a0.f3), (8, .int .i64 ((W .i64 (a0.f1)).tmod (W .i64 ((W .i64 (1 + (W .i64 (a0.f0.tmod 13)))) + 1)))), (9, .slice A1 x1.length c1)]) (nx' := nx5) (L' := [⟨nx0, [.int .u8 a0.f0, .int .u8 a0.f1, .bool a0.f2, .int .u32 a0.f3, .int .u32 a0.f4], 59⟩, ⟨nx3, [.int .i64 2, .int .i64 1], 24⟩]) [] (RFacts.nil _ _ _) 5 [.no, .no, .no, .no, .no] (by kernel_rfl) (by kernel_rfl) ?_
    refine RL.nil (by kernel_rfl) ?_
    refine QN.then_ ?_
    refine OK.seq K8_63 K8_73 (by kernel_rfl) ?_
    refine OK.seq K8_64 K8_66 (by kernel_rfl) ?_
    refine OK.region 17 O8_64 (by kernel_rfl) ?_
    refine RL.simP (K' := [(75, .bool a0.f2), (16, .bool t3.2), (15, .int .u32 t3.1), (14, .bool t2.2), (13, .int .u32 t2.1), (12, .pointer (some ⟨nx3, 0, none⟩)), (3, .bool t1), (4, .int .i64 (W .i64 (1 + (W .i64 (a0.f0.tmod 13))))), (6, .int .u32 a0.f3), (8, .int .i64 ((W .i64 (a0.f1)).tmod (W .i64 ((W .i64 (1 + (W .i64 (a0.f0.tmod 13)))) + 1)))), (9, .slice A1 x1.length c1)]) (nx' := nx5) (L' := [⟨nx0, [.int .u8 a0.f0, .int .u8 a0.f1, .bool a0.f2, .int .u32 a0.f3, .int .u32 a0.f4], 59⟩, ⟨nx3, [.int .i64 2, .int .i64 1], 24⟩]) [] (RFacts.nil _ _ _) 1 [.no] (by kernel_rfl) (by kernel_rfl) ?_
    refine RL.nil (by kernel_rfl) ?_
    refine QN.then_ ?_
    refine OK.join (fun K' I' _ L' X' => ∃ (x2 : Int) (x3 : Bool) (x4 : Int) (x5 : Bool), K' = [(3, .bool t1), (4, .int .i64 (W .i64 (1 + (W .i64 (a0.f0.tmod 13))))), (6, .int .u32 a0.f3), (8, .int .i64 ((W .i64 (a0.f1)).tmod (W .i64 ((W .i64 (1 + (W .i64 (a0.f0.tmod 13)))) + 1)))), (9, .slice A1 x1.length c1), (13, .int .u32 x2), (14, .bool x3), (15, .int .u32 x4), (16, .bool x5)] ∧ L' = [⟨nx0, [.int .u8 a0.f0, .int .u8 a0.f1, .bool a0.f2, .int .u32 a0.f3, .int .u32 a0.f4], 59⟩, ⟨nx3, [.int .i64 2, .int .i64 1], 24⟩] ∧ X' = [] ∧ Imm.le I6 I' ∧ armillarylaw29_QuorumThreshold.k2 k a0 t1 x1 (x2, x3, x4, x5) = some r) ?_ ?_
    · rintro _ I7 nx6 _ _ ⟨x2, x3, x4, x5, rfl, rfl, rfl, hi7, H⟩
      replace H : ((quorum_Prepared.f k x1 (W .i64 (1 + (W .i64 (a0.f0.tmod 13)))) (⟨2, 0⟩ : S24)).bind fun t4 => ((quorum_Size.f (W .i64 (1 + (W .i64 (a0.f0.tmod 13))))).bind fun t5 => ((if (x3 == (decide (((W .i64 (a0.f1)).tmod (W .i64 ((W .i64 (1 + (W .i64 (a0.f0.tmod 13)))) + 1))) ≥ t5))) = true then (if x3 = true then (if x2 = a0.f3 then (if x5 = true then (if x4 = a0.f3 then (if t4.2 = true then (some false) else ((quorum_MaxFaulty.f (W .i64 (1 + (W .i64 (a0.f0.tmod 13))))).bind fun t6 => ((quorum_Size.f (W .i64 (1 + (W .i64 (a0.f0.tmod 13))))).bind fun t7 => (if t6 < t7 then (some t1) else (some false))))) else (some false)) else (some false)) else (some false)) else (if t4.2 = true then (some false) else ((quorum_MaxFaulty.f (W .i64 (1 + (W .i64 (a0.f0.tmod 13))))).bind fun t8 => ((quorum_Size.f (W .i64 (1 + (W .i64 (a0.f0.tmod 13))))).bind fun t9 => (if t8 < t9 then (some t1) else (some false)))))) else (some false)).bind (armillarylaw29_QuorumThreshold.k1)))) = some r := H
      refine QN.then_ ?_
      refine OK.seq K8_74 K8_76 (by kernel_rfl) ?_
      refine OK.region 20 O8_74 (by kernel_rfl) ?_
      refine RL.simP (K' := [(95, .agg #[.int .i64 2, .int .i64 0]), (94, .int .i64 (W .i64 (1 + (W .i64 (a0.f0.tmod 13))))), (93, .slice A1 x1.length c1), (3, .bool t1), (4, .int .i64 (W .i64 (1 + (W .i64 (a0.f0.tmod 13))))), (6, .int .u32 a0.f3), (8, .int .i64 ((W .i64 (a0.f1)).tmod (W .i64 ((W .i64 (1 + (W .i64 (a0.f0.tmod 13)))) + 1)))), (13, .int .u32 x2), (14, .bool x3), (15, .int .u32 x4), (16, .bool x5)]) (nx' := nx6) (L' := [⟨nx0, [.int .u8 a0.f0, .int .u8 a0.f1, .bool a0.f2, .int .u32 a0.f3, .int .u32 a0.f4], 59⟩, ⟨nx3, [.int .i64 2, .int .i64 1], 24⟩]) [] (RFacts.nil _ _ _) 3 [.no, .no, .no] (by kernel_rfl) (by kernel_rfl) ?_
      obtain ⟨t4, hA4, H⟩ := Option.bind_eq_some_iff.mp H
      refine RL.callP 14 [.slice A1 x1.length c1, .int .i64 (W .i64 (1 + (W .i64 (a0.f0.tmod 13)))), .agg #[.int .i64 2, .int .i64 0]] (some 96) (fun w => quorum_Prepared.Post I7 w t4) (by kernel_rfl) (by kernel_rfl) (fun w hs => quorum_Prepared.calls k I7 x1 A1 c1 (W .i64 (1 + (W .i64 (a0.f0.tmod 13)))) (⟨2, 0⟩ : S24) w hs.im hl1 (Rd.ext (Imm.le_trans (Imm.le_trans hi5 hi6) hi7) hr1) t4 hA4) ?_
      rintro w v w' hs ⟨I8, rfl, hg⟩
      have hi8 := hg.le
      refine RL.resume (K' := [(96, .tuple #[.int .u32 t4.1, .bool t4.2]), (95, .agg #[.int .i64 2, .int .i64 0]), (94, .int .i64 (W .i64 (1 + (W .i64 (a0.f0.tmod 13))))), (93, .slice A1 x1.length c1), (3, .bool t1), (4, .int .i64 (W .i64 (1 + (W .i64 (a0.f0.tmod 13))))), (6, .int .u32 a0.f3), (8, .int .i64 ((W .i64 (a0.f1)).tmod (W .i64 ((W .i64 (1 + (W .i64 (a0.f0.tmod 13)))) + 1)))), (13, .int .u32 x2), (14, .bool x3), (15, .int .u32 x4), (16, .bool x5)]) (X' := []) (by kernel_rfl) (hs.call hg) ?_
      clear hs hg
      generalize w'.heap.size = nx7
      clear w w'
      refine RL.simP (K' := [(18, .bool t4.2), (3, .bool t1), (4, .int .i64 (W .i64 (1 + (W .i64 (a0.f0.tmod 13))))), (6, .int .u32 a0.f3), (8, .int .i64 ((W .i64 (a0.f1)).tmod (W .i64 ((W .i64 (1 + (W .i64 (a0.f0.tmod 13)))) + 1)))), (13, .int .u32 x2), (14, .bool x3), (15, .int .u32 x4), (16, .bool x5)]) (nx' := nx7) (L' := [⟨nx0, [.int .u8 a0.f0, .int .u8 a0.f1, .bool a0.f2, .int .u32 a0.f3, .int .u32 a0.f4], 59⟩, ⟨nx3, [.int .i64 2, .int .i64 1], 24⟩]) [] (RFacts.nil _ _ _) 5 [.no, .no, .no, .no, .no] (by kernel_rfl) (by kernel_rfl) ?_
      refine RL.nil (by kernel_rfl) ?_
      refine QN.then_ ?_
      refine OK.seq K8_77 K8_79 (by kernel_rfl) ?_
      refine OK.region 21 O8_77 (by kernel_rfl) ?_
      refine RL.simP (K' := [(100, .int .i64 (W .i64 (1 + (W .i64 (a0.f0.tmod 13))))), (99, .int .i64 ((W .i64 (a0.f1)).tmod (W .i64 ((W .i64 (1 + (W .i64 (a0.f0.tmod 13)))) + 1)))), (18, .bool t4.2), (3, .bool t1), (4, .int .i64 (W .i64 (1 + (W .i64 (a0.f0.tmod 13))))), (6, .int .u32 a0.f3), (13, .int .u32 x2), (14, .bool x3), (15, .int .u32 x4), (16, .bool x5)]) (nx' := nx7) (L' := [⟨nx0, [.int .u8 a0.f0, .int .u8 a0.f1, .bool a0.f2, .int .u32 a0.f3, .int .u32 a0.f4], 59⟩, ⟨nx3, [.int .i64 2, .int .i64 1], 24⟩]) [] (RFacts.nil _ _ _) 2 [.no, .no] (by kernel_rfl) (by kernel_rfl) ?_
      obtain ⟨t5, hA5, H⟩ := Option.bind_eq_some_iff.mp H
      refine RL.callP 22 [.int .i64 (W .i64 (1 + (W .i64 (a0.f0.tmod 13))))] (some 101) (fun w => quorum_Size.Post I8 w t5) (by kernel_rfl) (by kernel_rfl) (fun w hs => quorum_Size.calls I8 (W .i64 (1 + (W .i64 (a0.f0.tmod 13)))) w hs.im  t5 hA5) ?_
      rintro w v w' hs ⟨I9, rfl, hg⟩
      have hi9 := hg.le
      refine RL.resume (K' := [(101, .int .i64 t5), (100, .int .i64 (W .i64 (1 + (W .i64 (a0.f0.tmod 13))))), (99, .int .i64 ((W .i64 (a0.f1)).tmod (W .i64 ((W .i64 (1 + (W .i64 (a0.f0.tmod 13)))) + 1)))), (18, .bool t4.2), (3, .bool t1), (4, .int .i64 (W .i64 (1 + (W .i64 (a0.f0.tmod 13))))), (6, .int .u32 a0.f3), (13, .int .u32 x2), (14, .bool x3), (15, .int .u32 x4), (16, .bool x5)]) (X' := []) (by kernel_rfl) (hs.call hg) ?_
      clear hs hg
      generalize w'.heap.size = nx8
      clear w w'
      refine RL.simP (K' := [(19, .bool (decide (((W .i64 (a0.f1)).tmod (W .i64 ((W .i64 (1 + (W .i64 (a0.f0.tmod 13)))) + 1))) ≥ t5))), (18, .bool t4.2), (3, .bool t1), (4, .int .i64 (W .i64 (1 + (W .i64 (a0.f0.tmod 13))))), (6, .int .u32 a0.f3), (13, .int .u32 x2), (14, .bool x3), (15, .int .u32 x4), (16, .bool x5)]) (nx' := nx8) (L' := [⟨nx0, [.int .u8 a0.f0, .int .u8 a0.f1, .bool a0.f2, .int .u32 a0.f3, .int .u32 a0.f4], 59⟩, ⟨nx3, [.int .i64 2, .int .i64 1], 24⟩]) [] (RFacts.nil _ _ _) 2 [.no, .no] (by kernel_rfl) (by kernel_rfl) ?_
      refine RL.nil (by kernel_rfl) ?_
      refine QN.then_ ?_
      refine OK.seq K8_80 K8_82 (by kernel_rfl) ?_
      refine OK.join (fun K' I' _ L' X' => ∃ (x6 : Bool), K' = [(2, .bool x6)] ∧ L' = [⟨nx0, [.int .u8 a0.f0, .int .u8 a0.f1, .bool a0.f2, .int .u32 a0.f3, .int .u32 a0.f4], 59⟩, ⟨nx3, [.int .i64 2, .int .i64 1], 24⟩] ∧ X' = [] ∧ Imm.le I9 I' ∧ armillarylaw29_QuorumThreshold.k1 x6 = some r) ?_ ?_
      · rintro _ I10 nx9 _ _ ⟨x6, rfl, rfl, rfl, hi10, H⟩
        replace H : (some x6) = some r := H
        refine QN.then_ ?_
        refine OK.ret (by kernel_rfl) ?_
        obtain rfl := Option.some.inj H
        refine QN.body rfl [] (RFacts.nil _ _ _) (.no) (.bool x6) (by kernel_rfl) (by kernel_rfl) (by kernel_rfl) ?_ _ (.inr rfl)
        exact fun w' hs' => ⟨_, rfl, I10, rfl, hs'.got _ .slnil⟩
      · intro Q_1 hJ3 hQ3
        obtain ⟨y3, H, HK3⟩ := Option.bind_eq_some_iff.mp H
        refine OK.region 22 O8_80 (by kernel_rfl) ?_
        refine RL.simP (K' := [(106, .bool (x3 == (decide (((W .i64 (a0.f1)).tmod (W .i64 ((W .i64 (1 + (W .i64 (a0.f0.tmod 13)))) + 1))) ≥ t5)))), (18, .bool t4.2), (3, .bool t1), (4, .int .i64 (W .i64 (1 + (W .i64 (a0.f0.tmod 13))))), (6, .int .u32 a0.f3), (13, .int .u32 x2), (14, .bool x3), (15, .int .u32 x4), (16, .bool x5)]) (nx' := nx8) (L' := [⟨nx0, [.int .u8 a0.f0, .int .u8 a0.f1, .bool a0.f2, .int .u32 a0.f3, .int .u32 a0.f4], 59⟩, ⟨nx3, [.int .i64 2, .int .i64 1], 24⟩]) [] (RFacts.nil _ _ _) 4 [.no, .no, .no, .no] (by kernel_rfl) (by kernel_rfl) ?_
        refine RL.cases (x3 == (decide (((W .i64 (a0.f1)).tmod (W .i64 ((W .i64 (1 + (W .i64 (a0.f0.tmod 13)))) + 1))) ≥ t5))) (fun hb => ?_) (fun hb => ?_)
        · have hc := hb
          refine RL.norm (K' := [(106, .bool true), (18, .bool t4.2), (3, .bool t1), (4, .int .i64 (W .i64 (1 + (W .i64 (a0.f0.tmod 13))))), (6, .int .u32 a0.f3), (13, .int .u32 x2), (14, .bool x3), (15, .int .u32 x4), (16, .bool x5)]) (L' := [⟨nx0, [.int .u8 a0.f0, .int .u8 a0.f1, .bool a0.f2, .int .u32 a0.f3, .int .u32 a0.f4], 59⟩, ⟨nx3, [.int .i64 2, .int .i64 1], 24⟩]) (by rw [hb]; try rfl) rfl (by first | rfl | (rw [hb]; try rfl)) rfl ?_
          rw [if_pos hc] at H; clear hb
          refine RL.simP (K' := [(109, .bool (!x3)), (106, .bool true), (18, .bool t4.2), (3, .bool t1), (4, .int .i64 (W .i64 (1 + (W .i64 (a0.f0.tmod 13))))), (6, .int .u32 a0.f3), (13, .int .u32 x2), (15, .int .u32 x4), (16, .bool x5)]) (nx' := nx8) (L' := [⟨nx0, [.int .u8 a0.f0, .int .u8 a0.f1, .bool a0.f2, .int .u32 a0.f3, .int .u32 a0.f4], 59⟩, ⟨nx3, [.int .i64 2, .int .i64 1], 24⟩]) [] (RFacts.nil _ _ _) 3 [.no, .no, .no] (by kernel_rfl) (by kernel_rfl) ?_
          refine RL.cases x3 (fun hb => ?_) (fun hb => ?_)
          · have hc := hb
            refine RL.norm (K' := [(109, .bool false), (106, .bool true), (18, .bool t4.2), (3, .bool t1), (4, .int .i64 (W .i64 (1 + (W .i64 (a0.f0.tmod 13))))), (6, .int .u32 a0.f3), (13, .int .u32 x2), (15, .int .u32 x4), (16, .bool x5)]) (L' := [⟨nx0, [.int .u8 a0.f0, .int .u8 a0.f1, .bool a0.f2, .int .u32 a0.f3, .int .u32 a0.f4], 59⟩, ⟨nx3, [.int .i64 2, .int .i64 1], 24⟩]) (by rw [hb]; try rfl) rfl (by first | rfl | (rw [hb]; try rfl)) rfl ?_
            rw [if_pos hc] at H; clear hb
            refine RL.simP (K' := [(113, .bool (x2 == a0.f3)), (109, .bool false), (106, .bool true), (18, .bool t4.2), (3, .bool t1), (4, .int .i64 (W .i64 (1 + (W .i64 (a0.f0.tmod 13))))), (6, .int .u32 a0.f3), (15, .int .u32 x4), (16, .bool x5)]) (nx' := nx8) (L' := [⟨nx0, [.int .u8 a0.f0, .int .u8 a0.f1, .bool a0.f2, .int .u32 a0.f3, .int .u32 a0.f4], 59⟩, ⟨nx3, [.int .i64 2, .int .i64 1], 24⟩]) [] (RFacts.nil _ _ _) 4 [.no, .no, .no, .no] (by kernel_rfl) (by kernel_rfl) ?_
            refine RL.cases (x2 == a0.f3) (fun hb => ?_) (fun hb => ?_)
            · have hc := (beq_iff_eq.1 hb)
              refine RL.norm (K' := [(113, .bool true), (109, .bool false), (106, .bool true), (18, .bool t4.2), (3, .bool t1), (4, .int .i64 (W .i64 (1 + (W .i64 (a0.f0.tmod 13))))), (6, .int .u32 a0.f3), (15, .int .u32 x4), (16, .bool x5)]) (L' := [⟨nx0, [.int .u8 a0.f0, .int .u8 a0.f1, .bool a0.f2, .int .u32 a0.f3, .int .u32 a0.f4], 59⟩, ⟨nx3, [.int .i64 2, .int .i64 1], 24⟩]) (by rw [hb]; try rfl) rfl (by first | rfl | (rw [hb]; try rfl)) rfl ?_
              rw [if_pos hc] at H; clear hb
              refine RL.simP (K' := [(116, .bool x5), (109, .bool false), (106, .bool true), (18, .bool t4.2), (3, .bool t1), (4, .int .i64 (W .i64 (1 + (W .i64 (a0.f0.tmod 13))))), (6, .int .u32 a0.f3), (15, .int .u32 x4)]) (nx' := nx8) (L' := [⟨nx0, [.int .u8 a0.f0, .int .u8 a0.f1, .bool a0.f2, .int .u32 a0.f3, .int .u32 a0.f4], 59⟩, ⟨nx3, [.int .i64 2, .int .i64 1], 24⟩]) [] (RFacts.nil _ _ _) 3 [.no, .no, .no] (by kernel_rfl) (by kernel_rfl) ?_
              refine RL.cases x5 (fun hb => ?_) (fun hb => ?_)
              · have hc := hb
                refine RL.norm (K' := [(116, .bool true), (109, .bool false), (106, .bool true), (18, .bool t4.2), (3, .bool t1), (4, .int .i64 (W .i64 (1 + (W .i64 (a0.f0.tmod 13))))), (6, .int .u32 a0.f3), (15, .int .u32 x4)]) (L' := [⟨nx0, [.int .u8 a0.f0, .int .u8 a0.f1, .bool a0.f2, .int .u32 a0.f3, .int .u32 a0.f4], 59⟩, ⟨nx3, [.int .i64 2, .int .i64 1], 24⟩]) (by rw [hb]; try rfl) rfl (by first | rfl | (rw [hb]; try rfl)) rfl ?_
                rw [if_pos hc] at H; clear hb
                refine RL.simP (K' := [(123, .bool (x4 == a0.f3)), (18, .bool t4.2), (3, .bool t1), (4, .int .i64 (W .i64 (1 + (W .i64 (a0.f0.tmod 13)))))]) (nx' := nx8) (L' := [⟨nx0, [.int .u8 a0.f0, .int .u8 a0.f1, .bool a0.f2, .int .u32 a0.f3, .int .u32 a0.f4], 59⟩, ⟨nx3, [.int .i64 2, .int .i64 1], 24⟩]) [] (RFacts.nil _ _ _) 7 [.no, .no, .no, .no, .no, .no, .no] (by kernel_rfl) (by kernel_rfl) ?_
                refine RL.cases (x4 == a0.f3) (fun hb => ?_) (fun hb => ?_)
                · have hc := (beq_iff_eq.1 hb)
                  refine RL.norm (K' := [(123, .bool true), (18, .bool t4.2), (3, .bool t1), (4, .int .i64 (W .i64 (1 + (W .i64 (a0.f0.tmod 13)))))]) (L' := [⟨nx0, [.int .u8 a0.f0, .int .u8 a0.f1, .bool a0.f2, .int .u32 a0.f3, .int .u32 a0.f4], 59⟩, ⟨nx3, [.int .i64 2, .int .i64 1], 24⟩]) (by rw [hb]; try rfl) rfl (by first | rfl | (rw [hb]; try rfl)) rfl ?_
                  rw [if_pos hc] at H; clear hb
                  refine RL.simP (K' := [(127, .bool (!t4.2)), (3, .bool t1), (4, .int .i64 (W .i64 (1 + (W .i64 (a0.f0.tmod 13)))))]) (nx' := nx8) (L' := [⟨nx0, [.int .u8 a0.f0, .int .u8 a0.f1, .bool a0.f2, .int .u32 a0.f3, .int .u32 a0.f4], 59⟩, ⟨nx3, [.int .i64 2, .int .i64 1], 24⟩]) [] (RFacts.nil _ _ _) 4 [.no, .no, .no, .no] (by kernel_rfl) (by kernel_rfl) ?_
                  refine RL.cases t4.2 (fun hb => ?_) (fun hb => ?_)
                  · have hc := hb
                    refine RL.norm (K' := [(127, .bool false), (3, .bool t1), (4, .int .i64 (W .i64 (1 + (W .i64 (a0.f0.tmod 13)))))]) (L' := [⟨nx0, [.int .u8 a0.f0, .int .u8 a0.f1, .bool a0.f2, .int .u32 a0.f3, .int .u32 a0.f4], 59⟩, ⟨nx3, [.int .i64 2, .int .i64 1], 24⟩]) (by rw [hb]; try rfl) rfl (by first | rfl | (rw [hb]; try rfl)) rfl ?_
                    rw [if_pos hc] at H; clear hb
                    refine RL.simP (K' := [(2, .bool false)]) (nx' := nx8) (L' := [⟨nx0, [.int .u8 a0.f0, .int .u8 a0.f1, .bool a0.f2, .int .u32 a0.f3, .int .u32 a0.f4], 59⟩, ⟨nx3, [.int .i64 2, .int .i64 1], 24⟩]) [] (RFacts.nil _ _ _) 10 [.no, .no, .no, .no, .no, .no, .no, .no, .no, .no] (by kernel_rfl) (by kernel_rfl) ?_
                    refine RL.nil (by kernel_rfl) ?_
                    obtain rfl := Option.some.inj H
                    refine QN.sub (K' := [(2, .bool false)]) (L' := [⟨nx0, [.int .u8 a0.f0, .int .u8 a0.f1, .bool a0.f2, .int .u32 a0.f3, .int .u32 a0.f4], 59⟩, ⟨nx3, [.int .i64 2, .int .i64 1], 24⟩]) (by kernel_rfl) (.cons_cons _ (.cons_cons _ .slnil)) (.refl _) ?_
                    exact hJ3 _ _ _ _ _ ⟨false, rfl, rfl, rfl, (Imm.le_refl _), HK3⟩
                  · have hc := (Bool.eq_false_iff.1 hb)
                    refine RL.norm (K' := [(127, .bool true), (3, .bool t1), (4, .int .i64 (W .i64 (1 + (W .i64 (a0.f0.tmod 13)))))]) (L' := [⟨nx0, [.int .u8 a0.f0, .int .u8 a0.f1, .bool a0.f2, .int .u32 a0.f3, .int .u32 a0.f4], 59⟩, ⟨nx3, [.int .i64 2, .int .i64 1], 24⟩]) (by rw [hb]; try rfl) rfl (by first | rfl | (rw [hb]; try rfl)) rfl ?_
                    rw [if_neg hc] at H; clear hb
                    refine RL.simP (K' := [(128, .int .i64 (W .i64 (1 + (W .i64 (a0.f0.tmod 13))))), (127, .bool true), (3, .bool t1), (4, .int .i64 (W .i64 (1 + (W .i64 (a0.f0.tmod 13)))))]) (nx' := nx8) (L' := [⟨nx0, [.int .u8 a0.f0, .int .u8 a0.f1, .bool a0.f2, .int .u32 a0.f3, .int .u32 a0.f4], 59⟩, ⟨nx3, [.int .i64 2, .int .i64 1], 24⟩]) [] (RFacts.nil _ _ _) 1 [.no] (by kernel_rfl) (by kernel_rfl) ?_
                    obtain ⟨t6, hA6, H⟩ := Option.bind_eq_some_iff.mp H
                    refine RL.callP 20 [.int .i64 (W .i64 (1 + (W .i64 (a0.f0.tmod 13))))] (some 129) (fun w => quorum_MaxFaulty.Post I9 w t6) (by kernel_rfl) (by kernel_rfl) (fun w hs => quorum_MaxFaulty.calls I9 (W .i64 (1 + (W .i64 (a0.f0.tmod 13)))) w hs.im  t6 hA6) ?_
                    rintro w v w' hs ⟨I11, rfl, hg⟩
                    have hi11 := hg.le
                    refine RL.resume (K' := [(129, .int .i64 t6), (128, .int .i64 (W .i64 (1 + (W .i64 (a0.f0.tmod 13))))), (127, .bool true), (3, .bool t1), (4, .int .i64 (W .i64 (1 + (W .i64 (a0.f0.tmod 13)))))]) (X' := []) (by kernel_rfl) (hs.call hg) ?_
                    clear hs hg
                    generalize w'.heap.size = nx10
                    clear w w'
                    refine RL.simP (K' := [(130, .int .i64 (W .i64 (1 + (W .i64 (a0.f0.tmod 13))))), (129, .int .i64 t6), (127, .bool true), (3, .bool t1)]) (nx' := nx10) (L' := [⟨nx0, [.int .u8 a0.f0, .int .u8 a0.f1, .bool a0.f2, .int .u32 a0.f3, .int .u32 a0.f4], 59⟩, ⟨nx3, [.int .i64 2, .int .i64 1], 24⟩]) [] (RFacts.nil _ _ _) 1 [.no] (by kernel_rfl) (by kernel_rfl) ?_
                    obtain ⟨t7, hA7, H⟩ := Option.bind_eq_some_iff.mp H
                    refine RL.callP 22 [.int .i64 (W .i64 (1 + (W .i64 (a0.f0.tmod 13))))] (some 131) (fun w => quorum_Size.Post I11 w t7) (by kernel_rfl) (by kernel_rfl) (fun w hs => quorum_Size.calls I11 (W .i64 (1 + (W .i64 (a0.f0.tmod 13)))) w hs.im  t7 hA7) ?_
                    rintro w v w' hs ⟨I12, rfl, hg⟩
                    have hi12 := hg.le
                    refine RL.resume (K' := [(131, .int .i64 t7), (130, .int .i64 (W .i64 (1 + (W .i64 (a0.f0.tmod 13))))), (129, .int .i64 t6), (127, .bool true), (3, .bool t1)]) (X' := []) (by kernel_rfl) (hs.call hg) ?_
                    clear hs hg
                    generalize w'.heap.size = nx11
                    clear w w'
                    refine RL.simP (K' := [(134, .bool (decide (t6 < t7))), (3, .bool t1)]) (nx' := nx11) (L' := [⟨nx0, [.int .u8 a0.f0, .int .u8 a0.f1, .bool a0.f2, .int .u32 a0.f3, .int .u32 a0.f4], 59⟩, ⟨nx3, [.int .i64 2, .int .i64 1], 24⟩]) [] (RFacts.nil _ _ _) 3 [.no, .no, .no] (by kernel_rfl) (by kernel_rfl) ?_
                    refine RL.cases (decide (t6 < t7)) (fun hb => ?_) (fun hb => ?_)
                    · have hc := (of_decide_eq_true hb)
                      refine RL.norm (K' := [(134, .bool true), (3, .bool t1)]) (L' := [⟨nx0, [.int .u8 a0.f0, .int .u8 a0.f1, .bool a0.f2, .int .u32 a0.f3, .int .u32 a0.f4], 59⟩, ⟨nx3, [.int .i64 2, .int .i64 1], 24⟩]) (by rw [hb]; try rfl) rfl (by first | rfl | (rw [hb]; try rfl)) rfl ?_
                      rw [if_pos hc] at H; clear hb
                      refine RL.simP (K' := [(2, .bool t1)]) (nx' := nx11) (L' := [⟨nx0, [.int .u8 a0.f0, .int .u8 a0.f1, .bool a0.f2, .int .u32 a0.f3, .int .u32 a0.f4], 59⟩, ⟨nx3, [.int .i64 2, .int .i64 1], 24⟩]) [] (RFacts.nil _ _ _) 3 [.no, .no, .no] (by kernel_rfl) (by kernel_rfl) ?_
                      refine RL.nil (by kernel_rfl) ?_
                      obtain rfl := Option.some.inj H
                      refine QN.sub (K' := [(2, .bool t1)]) (L' := [⟨nx0, [.int .u8 a0.f0, .int .u8 a0.f1, .bool a0.f2, .int .u32 a0.f3, .int .u32 a0.f4], 59⟩, ⟨nx3, [.int .i64 2, .int .i64 1], 24⟩]) (by kernel_rfl) (.cons_cons _ (.cons_cons _ .slnil)) (.refl _) ?_
                      exact hJ3 _ _ _ _ _ ⟨t1, rfl, rfl, rfl, (Imm.le_trans hi11 hi12), HK3⟩
                    · have hc := (of_decide_eq_false hb)
                      refine RL.norm (K' := [(134, .bool false), (3, .bool t1)]) (L' := [⟨nx0, [.int .u8 a0.f0, .int .u8 a0.f1, .bool a0.f2, .int .u32 a0.f3, .int .u32 a0.f4], 59⟩, ⟨nx3, [.int .i64 2, .int .i64 1], 24⟩]) (by rw [hb]; try rfl) rfl (by first | rfl | (rw [hb]; try rfl)) rfl ?_
                      rw [if_neg hc] at H; clear hb
                      refine RL.simP (K' := [(2, .bool false)]) (nx' := nx11) (L' := [⟨nx0, [.int .u8 a0.f0, .int .u8 a0.f1, .bool a0.f2, .int .u32 a0.f3, .int .u32 a0.f4], 59⟩, ⟨nx3, [.int .i64 2, .int .i64 1], 24⟩]) [] (RFacts.nil _ _ _) 3 [.no, .no, .no] (by kernel_rfl) (by kernel_rfl) ?_
                      refine RL.nil (by kernel_rfl) ?_
                      obtain rfl := Option.some.inj H
                      refine QN.sub (K' := [(2, .bool false)]) (L' := [⟨nx0, [.int .u8 a0.f0, .int .u8 a0.f1, .bool a0.f2, .int .u32 a0.f3, .int .u32 a0.f4], 59⟩, ⟨nx3, [.int .i64 2, .int .i64 1], 24⟩]) (by kernel_rfl) (.cons_cons _ (.cons_cons _ .slnil)) (.refl _) ?_
                      exact hJ3 _ _ _ _ _ ⟨false, rfl, rfl, rfl, (Imm.le_trans hi11 hi12), HK3⟩
                · have hc := (beq_eq_false_iff_ne.1 hb)
                  refine RL.norm (K' := [(123, .bool false), (18, .bool t4.2), (3, .bool t1), (4, .int .i64 (W .i64 (1 + (W .i64 (a0.f0.tmod 13)))))]) (L' := [⟨nx0, [.int .u8 a0.f0, .int .u8 a0.f1, .bool a0.f2, .int .u32 a0.f3, .int .u32 a0.f4], 59⟩, ⟨nx3, [.int .i64 2, .int .i64 1], 24⟩]) (by rw [hb]; try rfl) rfl (by first | rfl | (rw [hb]; try rfl)) rfl ?_
                  rw [if_neg hc] at H; clear hb
                  refine RL.simP (K' := [(2, .bool false)]) (nx' := nx8) (L' := [⟨nx0, [.int .u8 a0.f0, .int .u8 a0.f1, .bool a0.f2, .int .u32 a0.f3, .int .u32 a0.f4], 59⟩, ⟨nx3, [.int .i64 2, .int .i64 1], 24⟩]) [] (RFacts.nil _ _ _) 14 [.no, .no, .no, .no, .no, .no, .no, .no, .no, .no, .no, .no, .no, .no] (by kernel_rfl) (by kernel_rfl) ?_
                  refine RL.nil (by kernel_rfl) ?_
                  obtain rfl := Option.some.inj H
                  refine QN.sub (K' := [(2, .bool false)]) (L' := [⟨nx0, [.int .u8 a0.f0, .int .u8 a0.f1, .bool a0.f2, .int .u32 a0.f3, .int .u32 a0.f4], 59⟩, ⟨nx3, [.int .i64 2, .int .i64 1], 24⟩]) (by kernel_rfl) (.cons_cons _ (.cons_cons _ .slnil)) (.refl _) ?_
                  exact hJ3 _ _ _ _ _ ⟨false, rfl, rfl, rfl, (Imm.le_refl _), HK3⟩
              · have hc := (Bool.eq_false_iff.1 hb)
                refine RL.norm (K' := [(116, .bool false), (109, .bool false), (106, .bool true), (18, .bool t4.2), (3, .bool t1), (4, .int .i64 (W .i64 (1 + (W .i64 (a0.f0.tmod 13))))), (6, .int .u32 a0.f3), (15, .int .u32 x4)]) (L' := [⟨nx0, [.int .u8 a0.f0, .int .u8 a0.f1, .bool a0.f2, .int .u32 a0.f3, .int .u32 a0.f4], 59⟩, ⟨nx3, [.int .i64 2, .int .i64 1], 24⟩]) (by rw [hb]; try rfl) rfl (by first | rfl | (rw [hb]; try rfl)) rfl ?_
                rw [if_neg hc] at H; clear hb
                refine RL.simP (K' := [(2, .bool false)]) (nx' := nx8) (L' := [⟨nx0, [.int .u8 a0.f0, .int .u8 a0.f1, .bool a0.f2, .int .u32 a0.f3, .int .u32 a0.f4], 59⟩, ⟨nx3, [.int .i64 2, .int .i64 1], 24⟩]) [] (RFacts.nil _ _ _) 21 [.no, .no, .no, .no, .no, .no, .no, .no, .no, .no, .no, .no, .no, .no, .no, .no, .no, .no, .no, .no, .no] (by kernel_rfl) (by kernel_rfl) ?_
                refine RL.nil (by kernel_rfl) ?_
                obtain rfl := Option.some.inj H
                refine QN.sub (K' := [(2, .bool false)]) (L' := [⟨nx0, [.int .u8 a0.f0, .int .u8 a0.f1, .bool a0.f2, .int .u32 a0.f3, .int .u32 a0.f4], 59⟩, ⟨nx3, [.int .i64 2, .int .i64 1], 24⟩]) (by kernel_rfl) (.cons_cons _ (.cons_cons _ .slnil)) (.refl _) ?_
                exact hJ3 _ _ _ _ _ ⟨false, rfl, rfl, rfl, (Imm.le_refl _), HK3⟩
            · have hc := (beq_eq_false_iff_ne.1 hb)
              refine RL.norm (K' := [(113, .bool false), (109, .bool false), (106, .bool true), (18, .bool t4.2), (3, .bool t1), (4, .int .i64 (W .i64 (1 + (W .i64 (a0.f0.tmod 13))))), (6, .int .u32 a0.f3), (15, .int .u32 x4), (16, .bool x5)]) (L' := [⟨nx0, [.int .u8 a0.f0, .int .u8 a0.f1, .bool a0.f2, .int .u32 a0.f3, .int .u32 a0.f4], 59⟩, ⟨nx3, [.int .i64 2, .int .i64 1], 24⟩]) (by rw [hb]; try rfl) rfl (by first | rfl | (rw [hb]; try rfl)) rfl ?_
              rw [if_neg hc] at H; clear hb
              refine RL.simP (K' := [(2, .bool false)]) (nx' := nx8) (L' := [⟨nx0, [.int .u8 a0.f0, .int .u8 a0.f1, .bool a0.f2, .int .u32 a0.f3, .int .u32 a0.f4], 59⟩, ⟨nx3, [.int .i64 2, .int .i64 1], 24⟩]) [] (RFacts.nil _ _ _) 24 [.no, .no, .no, .no, .no, .no, .no, .no, .no, .no, .no, .no, .no, .no, .no, .no, .no, .no, .no, .no, .no, .no, .no, .no] (by kernel_rfl) (by kernel_rfl) ?_
              refine RL.nil (by kernel_rfl) ?_
              obtain rfl := Option.some.inj H
              refine QN.sub (K' := [(2, .bool false)]) (L' := [⟨nx0, [.int .u8 a0.f0, .int .u8 a0.f1, .bool a0.f2, .int .u32 a0.f3, .int .u32 a0.f4], 59⟩, ⟨nx3, [.int .i64 2, .int .i64 1], 24⟩]) (by kernel_rfl) (.cons_cons _ (.cons_cons _ .slnil)) (.refl _) ?_
              exact hJ3 _ _ _ _ _ ⟨false, rfl, rfl, rfl, (Imm.le_refl _), HK3⟩
          · have hc := (Bool.eq_false_iff.1 hb)
            refine RL.norm (K' := [(109, .bool true), (106, .bool true), (18, .bool t4.2), (3, .bool t1), (4, .int .i64 (W .i64 (1 + (W .i64 (a0.f0.tmod 13))))), (6, .int .u32 a0.f3), (13, .int .u32 x2), (15, .int .u32 x4), (16, .bool x5)]) (L' := [⟨nx0, [.int .u8 a0.f0, .int .u8 a0.f1, .bool a0.f2, .int .u32 a0.f3, .int .u32 a0.f4], 59⟩, ⟨nx3, [.int .i64 2, .int .i64 1], 24⟩]) (by rw [hb]; try rfl) rfl (by first | rfl | (rw [hb]; try rfl)) rfl ?_
            rw [if_neg hc] at H; clear hb
            refine RL.simP (K' := [(127, .bool (!t4.2)), (3, .bool t1), (4, .int .i64 (W .i64 (1 + (W .i64 (a0.f0.tmod 13)))))]) (nx' := nx8) (L' := [⟨nx0, [.int .u8 a0.f0, .int .u8 a0.f1, .bool a0.f2, .int .u32 a0.f3, .int .u32 a0.f4], 59⟩, ⟨nx3, [.int .i64 2, .int .i64 1], 24⟩]) [] (RFacts.nil _ _ _) 18 [.no, .no, .no, .no, .no, .no, .no, .no, .no, .no, .no, .no, .no, .no, .no, .no, .no, .no] (by kernel_rfl) (by kernel_rfl) ?_
            refine RL.cases t4.2 (fun hb => ?_) (fun hb => ?_)
            · have hc := hb
              refine RL.norm (K' := [(127, .bool false), (3, .bool t1), (4, .int .i64 (W .i64 (1 + (W .i64 (a0.f0.tmod 13)))))]) (L' := [⟨nx0, [.int .u8 a0.f0, .int .u8 a0.f1, .bool a0.f2, .int .u32 a0.f3, .int .u32 a0.f4], 59⟩, ⟨nx3, [.int .i64 2, .int .i64 1], 24⟩]) (by rw [hb]; try rfl) rfl (by first | rfl | (rw [hb]; try rfl)) rfl ?_
              rw [if_pos hc] at H; clear hb
              refine RL.simP (K' := [(2, .bool false)]) (nx' := nx8) (L' := [⟨nx0, [.int .u8 a0.f0, .int .u8 a0.f1, .bool a0.f2, .int .u32 a0.f3, .int .u32 a0.f4], 59⟩, ⟨nx3, [.int .i64 2, .int .i64 1], 24⟩]) [] (RFacts.nil _ _ _) 10 [.no, .no, .no, .no, .no, .no, .no, .no, .no, .no] (by kernel_rfl) (by kernel_rfl) ?_
              refine RL.nil (by kernel_rfl) ?_
              obtain rfl := Option.some.inj H
              refine QN.sub (K' := [(2, .bool false)]) (L' := [⟨nx0, [.int .u8 a0.f0, .int .u8 a0.f1, .bool a0.f2, .int .u32 a0.f3, .int .u32 a0.f4], 59⟩, ⟨nx3, [.int .i64 2, .int .i64 1], 24⟩]) (by kernel_rfl) (.cons_cons _ (.cons_cons _ .slnil)) (.refl _) ?_
              exact hJ3 _ _ _ _ _ ⟨false, rfl, rfl, rfl, (Imm.le_refl _), HK3⟩
            · have hc := (Bool.eq_false_iff.1 hb)
              refine RL.norm (K' := [(127, .bool true), (3, .bool t1), (4, .int .i64 (W .i64 (1 + (W .i64 (a0.f0.tmod 13)))))]) (L' := [⟨nx0, [.int .u8 a0.f0, .int .u8 a0.f1, .bool a0.f2, .int .u32 a0.f3, .int .u32 a0.f4], 59⟩, ⟨nx3, [.int .i64 2, .int .i64 1], 24⟩]) (by rw [hb]; try rfl) rfl (by first | rfl | (rw [hb]; try rfl)) rfl ?_
              rw [if_neg hc] at H; clear hb
              refine RL.simP (K' := [(128, .int .i64 (W .i64 (1 + (W .i64 (a0.f0.tmod 13))))), (127, .bool true), (3, .bool t1), (4, .int .i64 (W .i64 (1 + (W .i64 (a0.f0.tmod 13)))))]) (nx' := nx8) (L' := [⟨nx0, [.int .u8 a0.f0, .int .u8 a0.f1, .bool a0.f2, .int .u32 a0.f3, .int .u32 a0.f4], 59⟩, ⟨nx3, [.int .i64 2, .int .i64 1], 24⟩]) [] (RFacts.nil _ _ _) 1 [.no] (by kernel_rfl) (by kernel_rfl) ?_
              obtain ⟨t8, hA8, H⟩ := Option.bind_eq_some_iff.mp H
              refine RL.callP 20 [.int .i64 (W .i64 (1 + (W .i64 (a0.f0.tmod 13))))] (some 129) (fun w => quorum_MaxFaulty.Post I9 w t8) (by kernel_rfl) (by kernel_rfl) (fun w hs => quorum_MaxFaulty.calls I9 (W .i64 (1 + (W .i64 (a0.f0.tmod 13)))) w hs.im  t8 hA8) ?_
              rintro w v w' hs ⟨I13, rfl, hg⟩
              have hi13 := hg.le
              refine RL.resume (K' := [(129, .int .i64 t8), (128, .int .i64 (W .i64 (1 + (W .i64 (a0.f0.tmod 13))))), (127, .bool true), (3, .bool t1), (4, .int .i64 (W .i64 (1 + (W .i64 (a0.f0.tmod 13)))))]) (X' := []) (by kernel_rfl) (hs.call hg) ?_
              clear hs hg
              generalize w'.heap.size = nx12
              clear w w'
              refine RL.simP (K' := [(130, .int .i64 (W .i64 (1 + (W .i64 (a0.f0.tmod 13))))), (129, .int .i64 t8), (127, .bool true), (3, .bool t1)]) (nx' := nx12) (L' := [⟨nx0, [.int .u8 a0.f0, .int .u8 a0.f1, .bool a0.f2, .int .u32 a0.f3, .int .u32 a0.f4], 59⟩, ⟨nx3, [.int .i64 2, .int .i64 1], 24⟩]) [] (RFacts.nil _ _ _) 1 [.no] (by kernel_rfl) (by kernel_rfl) ?_
              obtain ⟨t9, hA9, H⟩ := Option.bind_eq_some_iff.mp H
              refine RL.callP 22 [.int .i64 (W .i64 (1 + (W .i64 (a0.f0.tmod 13))))] (some 131) (fun w => quorum_Size.Post I13 w t9) (by kernel_rfl) (by kernel_rfl) (fun w hs => quorum_Size.calls I13 (W .i64 (1 + (W .i64 (a0.f0.tmod 13)))) w hs.im  t9 hA9) ?_
              rintro w v w' hs ⟨I14, rfl, hg⟩
              have hi14 := hg.le
              refine RL.resume (K' := [(131, .int .i64 t9), (130, .int .i64 (W .i64 (1 + (W .i64 (a0.f0.tmod 13))))), (129, .int .i64 t8), (127, .bool true), (3, .bool t1)]) (X' := []) (by kernel_rfl) (hs.call hg) ?_
              clear hs hg
              generalize w'.heap.size = nx13
              clear w w'
              refine RL.simP (K' := [(134, .bool (decide (t8 < t9))), (3, .bool t1)]) (nx' := nx13) (L' := [⟨nx0, [.int .u8 a0.f0, .int .u8 a0.f1, .bool a0.f2, .int .u32 a0.f3, .int .u32 a0.f4], 59⟩, ⟨nx3, [.int .i64 2, .int .i64 1], 24⟩]) [] (RFacts.nil _ _ _) 3 [.no, .no, .no] (by kernel_rfl) (by kernel_rfl) ?_
              refine RL.cases (decide (t8 < t9)) (fun hb => ?_) (fun hb => ?_)
              · have hc := (of_decide_eq_true hb)
                refine RL.norm (K' := [(134, .bool true), (3, .bool t1)]) (L' := [⟨nx0, [.int .u8 a0.f0, .int .u8 a0.f1, .bool a0.f2, .int .u32 a0.f3, .int .u32 a0.f4], 59⟩, ⟨nx3, [.int .i64 2, .int .i64 1], 24⟩]) (by rw [hb]; try rfl) rfl (by first | rfl | (rw [hb]; try rfl)) rfl ?_
                rw [if_pos hc] at H; clear hb
                refine RL.simP (K' := [(2, .bool t1)]) (nx' := nx13) (L' := [⟨nx0, [.int .u8 a0.f0, .int .u8 a0.f1, .bool a0.f2, .int .u32 a0.f3, .int .u32 a0.f4], 59⟩, ⟨nx3, [.int .i64 2, .int .i64 1], 24⟩]) [] (RFacts.nil _ _ _) 3 [.no, .no, .no] (by kernel_rfl) (by kernel_rfl) ?_
                refine RL.nil (by kernel_rfl) ?_
                obtain rfl := Option.some.inj H
                refine QN.sub (K' := [(2, .bool t1)]) (L' := [⟨nx0, [.int .u8 a0.f0, .int .u8 a0.f1, .bool a0.f2, .int .u32 a0.f3, .int .u32 a0.f4], 59⟩, ⟨nx3, [.int .i64 2, .int .i64 1], 24⟩]) (by kernel_rfl) (.cons_cons _ (.cons_cons _ .slnil)) (.refl _) ?_
                exact hJ3 _ _ _ _ _ ⟨t1, rfl, rfl, rfl, (Imm.le_trans hi13 hi14), HK3⟩
              · have hc := (of_decide_eq_false hb)
                refine RL.norm (K' := [(134, .bool false), (3, .bool t1)]) (L' := [⟨nx0, [.int .u8 a0.f0, .int .u8 a0.f1, .bool a0.f2, .int .u32 a0.f3, .int .u32 a0.f4], 59⟩, ⟨nx3, [.int .i64 2, .int .i64 1], 24⟩]) (by rw [hb]; try rfl) rfl (by first | rfl | (rw [hb]; try rfl)) rfl ?_
                rw [if_neg hc] at H; clear hb
                refine RL.simP (K' := [(2, .bool false)]) (nx' := nx13) (L' := [⟨nx0, [.int .u8 a0.f0, .int .u8 a0.f1, .bool a0.f2, .int .u32 a0.f3, .int .u32 a0.f4], 59⟩, ⟨nx3, [.int .i64 2, .int .i64 1], 24⟩]) [] (RFacts.nil _ _ _) 3 [.no, .no, .no] (by kernel_rfl) (by kernel_rfl) ?_
                refine RL.nil (by kernel_rfl) ?_
                obtain rfl := Option.some.inj H
                refine QN.sub (K' := [(2, .bool false)]) (L' := [⟨nx0, [.int .u8 a0.f0, .int .u8 a0.f1, .bool a0.f2, .int .u32 a0.f3, .int .u32 a0.f4], 59⟩, ⟨nx3, [.int .i64 2, .int .i64 1], 24⟩]) (by kernel_rfl) (.cons_cons _ (.cons_cons _ .slnil)) (.refl _) ?_
                exact hJ3 _ _ _ _ _ ⟨false, rfl, rfl, rfl, (Imm.le_trans hi13 hi14), HK3⟩
        · have hc := (Bool.eq_false_iff.1 hb)
          refine RL.norm (K' := [(106, .bool false), (18, .bool t4.2), (3, .bool t1), (4, .int .i64 (W .i64 (1 + (W .i64 (a0.f0.tmod 13))))), (6, .int .u32 a0.f3), (13, .int .u32 x2), (14, .bool x3), (15, .int .u32 x4), (16, .bool x5)]) (L' := [⟨nx0, [.int .u8 a0.f0, .int .u8 a0.f1, .bool a0.f2, .int .u32 a0.f3, .int .u32 a0.f4], 59⟩, ⟨nx3, [.int .i64 2, .int .i64 1], 24⟩]) (by rw [hb]; try rfl) rfl (by first | rfl | (rw [hb]; try rfl)) rfl ?_
          rw [if_neg hc] at H; clear hb
          refine RL.simP (K' := [(2, .bool false)]) (nx' := nx8) (L' := [⟨nx0, [.int .u8 a0.f0, .int .u8 a0.f1, .bool a0.f2, .int .u32 a0.f3, .int .u32 a0.f4], 59⟩, ⟨nx3, [.int .i64 2, .int .i64 1], 24⟩]) [] (RFacts.nil _ _ _) 31 [.no, .no, .no, .no, .no, .no, .no, .no, .no, .no, .no, .no, .no, .no, .no, .no, .no, .no, .no, .no, .no, .no, .no, .no, .no, .no, .no, .no, .no, .no, .no] (by kernel_rfl) (by kernel_rfl) ?_
          refine RL.nil (by kernel_rfl) ?_
          obtain rfl := Option.some.inj H
          refine QN.sub (K' := [(2, .bool false)]) (L' := [⟨nx0, [.int .u8 a0.f0, .int .u8 a0.f1, .bool a0.f2, .int .u32 a0.f3, .int .u32 a0.f4], 59⟩, ⟨nx3, [.int .i64 2, .int .i64 1], 24⟩]) (by kernel_rfl) (.cons_cons _ (.cons_cons _ .slnil)) (.refl _) ?_
          exact hJ3 _ _ _ _ _ ⟨false, rfl, rfl, rfl, (Imm.le_refl _), HK3⟩
    · intro Q_2 hJ2 hQ2
      obtain ⟨y2, H, HK2⟩ := Option.bind_eq_some_iff.mp H
      refine OK.cond (.tmp 75) K8_67 K8_72 a0.f2 (by kernel_rfl) (by kernel_rfl) (by kernel_rfl) (fun hb => ?_) (fun hb => ?_)
      · skip
        have hc := hb
        rw [if_pos hc] at H
        clear hb
        refine OK.seq K8_68 K8_70 (by kernel_rfl) ?_
        by_cases hs1_2 : (0 : Int) ≤ ((W .i64 (a0.f1)).tmod (W .i64 ((W .i64 (1 + (W .i64 (a0.f0.tmod 13)))) + 1)))
        case neg => rw [if_neg hs1_2] at H; cases H
        rw [if_pos hs1_2] at H
        by_cases hs2_2 : ((W .i64 (a0.f1)).tmod (W .i64 ((W .i64 (1 + (W .i64 (a0.f0.tmod 13)))) + 1))) ≤ (x1.length : Int)
        case neg => rw [if_neg hs2_2] at H; cases H
        rw [if_pos hs2_2] at H
        obtain ⟨t10, hA10, H⟩ := Option.bind_eq_some_iff.mp H
        refine OK.drawnC 18 10 O8_68 [0, 0, 3, 0, 0, 31, 63, 127, 127, 255, 1023] (by kernel_rfl) (by kernel_rfl) (armillarylaw29_QuorumThreshold.d3l t10) (armillarylaw29_QuorumThreshold.d3g a0 x1 A1 c1) [] (RI.nil _) [.no, .no, .no, .no, .l 1, .no, .no, .no, .no, .no] armillarylaw29_QuorumThreshold.a8_68 armillarylaw29_QuorumThreshold.a8_68o (by kernel_rfl) (by kernel_rfl) (fun u => [.slice A1 x1.length c1, .int .i64 ((W .i64 (a0.f1)).tmod (W .i64 ((W .i64 (1 + (W .i64 (a0.f0.tmod 13)))) + 1))), .slice (slA A1 (0 : Int).toNat c1 8) ((rpart x1 0 ((W .i64 (a0.f1)).tmod (W .i64 ((W .i64 (1 + (W .i64 (a0.f0.tmod 13)))) + 1)))).length) (c1 - (0 : Int).toNat), .int .i64 (W .i64 (1 + (W .i64 (a0.f0.tmod 13)))), .agg #[.int .i64 2, .int .i64 1], .tuple #[.int .u32 t10.1, .bool t10.2], .tuple #[.int .u32 t10.1, .bool t10.2], .int .u32 t10.1, .bool t10.2, .int .u32 t10.1]) (fun u => [(13, .int .u32 t10.1), (84, .bool t10.2), (83, .int .u32 t10.1), (76, .tuple #[.int .u32 t10.1, .bool t10.2]), (82, .tuple #[.int .u32 t10.1, .bool t10.2]), (81, .agg #[.int .i64 2, .int .i64 1]), (80, .int .i64 (W .i64 (1 + (W .i64 (a0.f0.tmod 13))))), (79, .slice (slA A1 (0 : Int).toNat c1 8) ((rpart x1 0 ((W .i64 (a0.f1)).tmod (W .i64 ((W .i64 (1 + (W .i64 (a0.f0.tmod 13)))) + 1)))).length) (c1 - (0 : Int).toNat)), (78, .int .i64 ((W .i64 (a0.f1)).tmod (W .i64 ((W .i64 (1 + (W .i64 (a0.f0.tmod 13)))) + 1)))), (77, .slice A1 x1.length c1), (75, .bool a0.f2), (16, .bool t3.2), (15, .int .u32 t3.1), (14, .bool t2.2), (12, .pointer (some ⟨nx3, 0, none⟩)), (3, .bool t1), (4, .int .i64 (W .i64 (1 + (W .i64 (a0.f0.tmod 13))))), (6, .int .u32 a0.f3), (8, .int .i64 ((W .i64 (a0.f1)).tmod (W .i64 ((W .i64 (1 + (W .i64 (a0.f0.tmod 13)))) + 1)))), (9, .slice A1 x1.length c1)]) (armillarylaw29_QuorumThreshold.d3v a0 nx0 t1 x1 A1 c1 nx3 t2 t3 t10) (armillarylaw29_QuorumThreshold.d3e a0 nx0 t1 x1 A1 c1 nx3 t2 t3 t10) [fun u => [(81, .agg #[.int .i64 2, .int .i64 1]), (80, .int .i64 (W .i64 (1 + (W .i64 (a0.f0.tmod 13))))), (79, .slice (slA A1 (0 : Int).toNat c1 8) ((rpart x1 0 ((W .i64 (a0.f1)).tmod (W .i64 ((W .i64 (1 + (W .i64 (a0.f0.tmod 13)))) + 1)))).length) (c1 - (0 : Int).toNat)), (78, .int .i64 ((W .i64 (a0.f1)).tmod (W .i64 ((W .i64 (1 + (W .i64 (a0.f0.tmod 13)))) + 1)))), (77, .slice A1 x1.length c1), (75, .bool a0.f2), (16, .bool t3.2), (15, .int .u32 t3.1), (14, .bool t2.2), (13, .int .u32 t2.1), (12, .pointer (some ⟨nx3, 0, none⟩)), (3, .bool t1), (4, .int .i64 (W .i64 (1 + (W .i64 (a0.f0.tmod 13))))), (6, .int .u32 a0.f3), (8, .int .i64 ((W .i64 (a0.f1)).tmod (W .i64 ((W .i64 (1 + (W .i64 (a0.f0.tmod 13)))) + 1)))), (9, .slice A1 x1.length c1)]] (framesOk.cons (fun u => by kernel_rfl) framesOk.nil) ?_ [fun u => [(78, .int .i64 ((W .i64 (a0.f1)).tmod (W .i64 ((W .i64 (1 + (W .i64 (a0.f0.tmod 13)))) + 1)))), (77, .slice A1 x1.length c1), (75, .bool a0.f2), (16, .bool t3.2), (15, .int .u32 t3.1), (14, .bool t2.2), (13, .int .u32 t2.1), (12, .pointer (some ⟨nx3, 0, none⟩)), (3, .bool t1), (4, .int .i64 (W .i64 (1 + (W .i64 (a0.f0.tmod 13))))), (6, .int .u32 a0.f3), (8, .int .i64 ((W .i64 (a0.f1)).tmod (W .i64 ((W .i64 (1 + (W .i64 (a0.f0.tmod 13)))) + 1)))), (9, .slice A1 x1.length c1)]] (framesOk.cons (fun u => by kernel_rfl) framesOk.nil) ?_ ?_
        · refine LoudsG.cons ?_ (LoudsG.nil)
          · intro D u J w hp hJ hs hF
            refine Does.call 16 [.slice (slA A1 (0 : Int).toNat c1 8) ((rpart x1 0 ((W .i64 (a0.f1)).tmod (W .i64 ((W .i64 (1 + (W .i64 (a0.f0.tmod 13)))) + 1)))).length) (c1 - (0 : Int).toNat), .int .i64 (W .i64 (1 + (W .i64 (a0.f0.tmod 13)))), .agg #[.int .i64 2, .int .i64 1]] (by kernel_rfl) ((quorum_Committed.calls k J (rpart x1 0 ((W .i64 (a0.f1)).tmod (W .i64 ((W .i64 (1 + (W .i64 (a0.f0.tmod 13)))) + 1)))) (slA A1 (0 : Int).toNat c1 8) (c1 - (0 : Int).toNat) (W .i64 (1 + (W .i64 (a0.f0.tmod 13)))) (⟨2, 1⟩ : S24) w hs.im (part_le hl1 (Int.le_refl 0) hs1_2 hs2_2) (Rd.ext hJ (rd_sub (Rd.ext (Imm.le_trans hi5 hi6) hr1) hl1 (Int.le_refl 0) hs1_2 hs2_2)) t10 hA10).mono ?_)
            rintro e w' ⟨v, rfl, J2, rfl, hg⟩
            exact ⟨_, rfl, fun _ => (none, 0, []), J2, rfl, hg, trivial⟩
        · refine Givens.cons (fun u w =>  ?_) (fun _ _ _ => rfl) (Givens.nil)
          · exact giv_subH (T := 22) (e := 32) (l := x1) (S := A1) (cap := c1) (hi := (W .i64 (a0.f1)).tmod (W .i64 ((W .i64 (1 + (W .i64 (a0.f0.tmod 13)))) + 1))) 8 .i64 (by kernel_rfl) (by kernel_rfl) (by kernel_rfl) hl1 hs1_2 hs2_2 w
        intro u I15 nx14 hi15 hF
        clear hF
        show RL _ _ _ 10 _ [(13, .int .u32 t10.1), (84, .bool t10.2), (83, .int .u32 t10.1), (76, .tuple #[.int .u32 t10.1, .bool t10.2]), (82, .tuple #[.int .u32 t10.1, .bool t10.2]), (81, .agg #[.int .i64 2, .int .i64 1]), (80, .int .i64 (W .i64 (1 + (W .i64 (a0.f0.tmod 13))))), (79, .slice (slA A1 (0 : Int).toNat c1 8) ((rpart x1 0 ((W .i64 (a0.f1)).tmod (W .i64 ((W .i64 (1 + (W .i64 (a0.f0.tmod 13)))) + 1)))).length) (c1 - (0 : Int).toNat)), (78, .int .i64 ((W .i64 (a0.f1)).tmod (W .i64 ((W .i64 (1 + (W .i64 (a0.f0.tmod 13)))) + 1)))), (77, .slice A1 x1.length c1), (75, .bool a0.f2), (16, .bool t3.2), (15, .int .u32 t3.1), (14, .bool t2.2), (12, .pointer (some ⟨nx3, 0, none⟩)), (3, .bool t1), (4, .int .i64 (W .i64 (1 + (W .i64 (a0.f0.tmod 13))))), (6, .int .u32 a0.f3), (8, .int .i64 ((W .i64 (a0.f1)).tmod (W .i64 ((W .i64 (1 + (W .i64 (a0.f0.tmod 13)))) + 1)))), (9, .slice A1 x1.length c1)] _ _ _ [⟨nx0, [.int .u8 a0.f0, .int .u8 a0.f1, .bool a0.f2, .int .u32 a0.f3, .int .u32 a0.f4], 59⟩, ⟨nx3, [.int .i64 2, .int .i64 1], 24⟩] []
        clear u
        refine RL.simP (K' := [(14, .bool t10.2), (13, .int .u32 t10.1), (12, .pointer (some ⟨nx3, 0, none⟩)), (3, .bool t1), (4, .int .i64 (W .i64 (1 + (W .i64 (a0.f0.tmod 13))))), (6, .int .u32 a0.f3), (8, .int .i64 ((W .i64 (a0.f1)).tmod (W .i64 ((W .i64 (1 + (W .i64 (a0.f0.tmod 13)))) + 1)))), (9, .slice A1 x1.length c1)]) (nx' := nx14) (L' := [⟨nx0, [.int .u8 a0.f0, .int .u8 a0.f1, .bool a0.f2, .int .u32 a0.f3, .int .u32 a0.f4], 59⟩, ⟨nx3, [.int .i64 2, .int .i64 1], 24⟩]) [] (RFacts.nil _ _ _) 1 [.no] (by kernel_rfl) (by kernel_rfl) ?_
        refine RL.nil (by kernel_rfl) ?_
        refine QN.then_ ?_
        refine OK.region 19 O8_70 (by kernel_rfl) ?_
        refine RL.simP (K' := [(88, .agg #[.int .i64 2, .int .i64 1]), (87, .int .i64 (W .i64 (1 + (W .i64 (a0.f0.tmod 13))))), (86, .slice A1 x1.length c1), (14, .bool t10.2), (13, .int .u32 t10.1), (3, .bool t1), (4, .int .i64 (W .i64 (1 + (W .i64 (a0.f0.tmod 13))))), (6, .int .u32 a0.f3), (8, .int .i64 ((W .i64 (a0.f1)).tmod (W .i64 ((W .i64 (1 + (W .i64 (a0.f0.tmod 13)))) + 1)))), (9, .slice A1 x1.length c1)]) (nx' := nx14) (L' := [⟨nx0, [.int .u8 a0.f0, .int .u8 a0.f1, .bool a0.f2, .int .u32 a0.f3, .int .u32 a0.f4], 59⟩, ⟨nx3, [.int .i64 2, .int .i64 1], 24⟩]) [] (RFacts.nil _ _ _) 3 [.no, .no, .l 1] (by kernel_rfl) (by kernel_rfl) ?_
        obtain ⟨t11, hA11, H⟩ := Option.bind_eq_some_iff.mp H
        refine RL.callP 16 [.slice A1 x1.length c1, .int .i64 (W .i64 (1 + (W .i64 (a0.f0.tmod 13)))), .agg #[.int .i64 2, .int .i64 1]] (some 89) (fun w => quorum_Committed.Post I15 w t11) (by kernel_rfl) (by kernel_rfl) (fun w hs => quorum_Committed.calls k I15 x1 A1 c1 (W .i64 (1 + (W .i64 (a0.f0.tmod 13)))) (⟨2, 1⟩ : S24) w hs.im hl1 (Rd.ext (Imm.le_trans (Imm.le_trans hi5 hi6) hi15) hr1) t11 hA11) ?_
        rintro w v w' hs ⟨I16, rfl, hg⟩
        have hi16 := hg.le
        refine RL.resume (K' := [(89, .tuple #[.int .u32 t11.1, .bool t11.2]), (88, .agg #[.int .i64 2, .int .i64 1]), (87, .int .i64 (W .i64 (1 + (W .i64 (a0.f0.tmod 13))))), (86, .slice A1 x1.length c1), (14, .bool t10.2), (13, .int .u32 t10.1), (3, .bool t1), (4, .int .i64 (W .i64 (1 + (W .i64 (a0.f0.tmod 13))))), (6, .int .u32 a0.f3), (8, .int .i64 ((W .i64 (a0.f1)).tmod (W .i64 ((W .i64 (1 + (W .i64 (a0.f0.tmod 13)))) + 1)))), (9, .slice A1 x1.length c1)]) (X' := []) (by kernel_rfl) (hs.call hg) ?_
        clear hs hg
        generalize w'.heap.size = nx15
        clear w w'
        refine RL.simP (K' := [(16, .bool t11.2), (15, .int .u32 t11.1), (14, .bool t10.2), (13, .int .u32 t10.1), (3, .bool t1), (4, .int .i64 (W .i64 (1 + (W .i64 (a0.f0.tmod 13))))), (6, .int .u32 a0.f3), (8, .int .i64 ((W .i64 (a0.f1)).tmod (W .i64 ((W .i64 (1 + (W .i64 (a0.f0.tmod 13)))) + 1)))), (9, .slice A1 x1.length c1)]) (nx' := nx15) (L' := [⟨nx0, [.int .u8 a0.f0, .int .u8 a0.f1, .bool a0.f2, .int .u32 a0.f3, .int .u32 a0.f4], 59⟩, ⟨nx3, [.int .i64 2, .int .i64 1], 24⟩]) [] (RFacts.nil _ _ _) 5 [.no, .no, .no, .no, .no] (by kernel_rfl) (by kernel_rfl) ?_
        refine RL.nil (by kernel_rfl) ?_
        obtain rfl := Option.some.inj H
        refine QN.sub (K' := [(3, .bool t1), (4, .int .i64 (W .i64 (1 + (W .i64 (a0.f0.tmod 13))))), (6, .int .u32 a0.f3), (8, .int .i64 ((W .i64 (a0.f1)).tmod (W .i64 ((W .i64 (1 + (W .i64 (a0.f0.tmod 13)))) + 1)))), (9, .slice A1 x1.length c1), (13, .int .u32 t10.1), (14, .bool t10.2), (15, .int .u32 t11.1), (16, .bool t11.2)]) (L' := [⟨nx0, [.int .u8 a0.f0, .int .u8 a0.f1, .bool a0.f2, .int .u32 a0.f3, .int .u32 a0.f4], 59⟩, ⟨nx3, [.int .i64 2, .int .i64 1], 24⟩]) (by kernel_rfl) (.cons_cons _ (.cons_cons _ .slnil)) (.refl _) ?_
        exact hJ2 _ _ _ _ _ ⟨t10.1, t10.2, t11.1, t11.2, rfl, rfl, rfl, (Imm.le_trans hi15 hi16), HK2⟩
      · skip
        have hc := (Bool.eq_false_iff.1 hb)
        rw [if_neg hc] at H
        clear hb
        refine OK.skip (by kernel_rfl) ?_
        obtain rfl := Option.some.inj H
        refine QN.sub (K' := [(3, .bool t1), (4, .int .i64 (W .i64 (1 + (W .i64 (a0.f0.tmod 13))))), (6, .int .u32 a0.f3), (8, .int .i64 ((W .i64 (a0.f1)).tmod (W .i64 ((W .i64 (1 + (W .i64 (a0.f0.tmod 13)))) + 1)))), (9, .slice A1 x1.length c1), (13, .int .u32 t2.1), (14, .bool t2.2), (15, .int .u32 t3.1), (16, .bool t3.2)]) (L' := [⟨nx0, [.int .u8 a0.f0, .int .u8 a0.f1, .bool a0.f2, .int .u32 a0.f3, .int .u32 a0.f4], 59⟩, ⟨nx3, [.int .i64 2, .int .i64 1], 24⟩]) (by kernel_rfl) (.cons_cons _ (.cons_cons _ .slnil)) (.refl _) ?_
        exact hJ2 _ _ _ _ _ ⟨t2.1, t2.2, t3.1, t3.2, rfl, rfl, rfl, (Imm.le_refl _), HK2⟩
  · intro Q_3 hJ1 hQ1
    obtain ⟨y1, H, HK1⟩ := Option.bind_eq_some_iff.mp H
    refine OK.block 0 K8_20 (by kernel_rfl) ?_
    refine OK.toRow (b := ⟨nx2, [], 32⟩) 1 0 8 (by kernel_rfl) (by kernel_rfl) (by decide) ?_
    have hp4 : Reps t32 I2 ([] : List S32) [] := rfl
    refine OK.norm (L' := [⟨nx0, [.int .u8 a0.f0, .int .u8 a0.f1, .bool a0.f2, .int .u32 a0.f3, .int .u32 a0.f4], 59⟩]) (X' := [orow 32 8 (some ⟨nx2, 0, none⟩) (([] : List S32).length) 0 []]) rfl rfl (by kernel_rfl) (by kernel_rfl) ?_
    refine OK.sub (K' := [(3, .bool t1), (4, .int .i64 (W .i64 (1 + (W .i64 (a0.f0.tmod 13))))), (5, .bool a0.f2), (6, .int .u32 a0.f3), (7, .int .u32 a0.f4), (8, .int .i64 ((W .i64 (a0.f1)).tmod (W .i64 ((W .i64 (1 + (W .i64 (a0.f0.tmod 13)))) + 1)))), (9, .slice (some ⟨nx2, 0, none⟩) 0 0), (10, .int .i64 0)]) (L' := [⟨nx0, [.int .u8 a0.f0, .int .u8 a0.f1, .bool a0.f2, .int .u32 a0.f3, .int .u32 a0.f4], 59⟩]) (by kernel_rfl) (.cons_cons _ .slnil) (.refl _) ?_
    refine OK.loopInv K8_21 (by kernel_rfl) (fun n_ K' I' _ L' X' => ∃ (x7 : List S32) (x8 : Int) (A2 : Option Addr) (c2 : Nat) (cs2 : List Value), K' = [(3, .bool t1), (4, .int .i64 (W .i64 (1 + (W .i64 (a0.f0.tmod 13))))), (5, .bool a0.f2), (6, .int .u32 a0.f3), (7, .int .u32 a0.f4), (8, .int .i64 ((W .i64 (a0.f1)).tmod (W .i64 ((W .i64 (1 + (W .i64 (a0.f0.tmod 13)))) + 1)))), (9, .slice A2 x7.length c2), (10, .int .i64 x8)] ∧ L' = [⟨nx0, [.int .u8 a0.f0, .int .u8 a0.f1, .bool a0.f2, .int .u32 a0.f3, .int .u32 a0.f4], 59⟩] ∧ X' = [orow 32 8 A2 x7.length c2 cs2] ∧ Imm.le I2 I' ∧ Reps t32 I' x7 cs2 ∧ armillarylaw29_QuorumThreshold.l1 a0 n_ x7 x8 = some y1) k ⟨([] : List S32), 0, (some ⟨nx2, 0, none⟩), 0, [], rfl, rfl, rfl, (Imm.le_refl _), hp4, H⟩ ?_ ?_
    · rintro _ _ _ _ _ ⟨x7, x8, A2, c2, cs2, rfl, rfl, rfl, _, hp2, H⟩
      cases H
    · rintro kq1 _ I17 nx16 _ _ ⟨x7, x8, A2, c2, cs2, rfl, rfl, rfl, hi17, hp2, H⟩ Q_l1 hJ4 hQ4
      replace H : (if x8 < (W .i64 (1 + (W .i64 (a0.f0.tmod 13)))) then ((if a0.f2 = true then (some 3) else (some 2)).bind (fun x9 => ((if x8 ≥ ((W .i64 (a0.f1)).tmod (W .i64 ((W .i64 (1 + (W .i64 (a0.f0.tmod 13)))) + 1))) then (some a0.f4) else (some a0.f3)).bind (fun x10 => (if (x7.length + [(⟨x9, x8, 2, 1, x10, (⟨0, (⟨#[]⟩ : ByteArray), []⟩ : S30)⟩ : S32)].length) * 88 ≤ 140737488355328 then (armillarylaw29_QuorumThreshold.l1 a0 kq1 (x7 ++ [(⟨x9, x8, 2, 1, x10, (⟨0, (⟨#[]⟩ : ByteArray), []⟩ : S30)⟩ : S32)]) (W .i64 (x8 + 1))) else none))))) else (some x7)) = some y1 := H
      refine OK.seq K8_22 K8_28 (by kernel_rfl) ?_
      refine OK.seq K8_23 K8_25 (by kernel_rfl) ?_
      refine OK.region 6 O8_23 (by kernel_rfl) ?_
      refine RL.simP (K' := [(41, .bool (decide (x8 < (W .i64 (1 + (W .i64 (a0.f0.tmod 13))))))), (3, .bool t1), (4, .int .i64 (W .i64 (1 + (W .i64 (a0.f0.tmod 13))))), (5, .bool a0.f2), (6, .int .u32 a0.f3), (7, .int .u32 a0.f4), (8, .int .i64 ((W .i64 (a0.f1)).tmod (W .i64 ((W .i64 (1 + (W .i64 (a0.f0.tmod 13)))) + 1)))), (9, .slice A2 x7.length c2), (10, .int .i64 x8)]) (nx' := nx16) (L' := [⟨nx0, [.int .u8 a0.f0, .int .u8 a0.f1, .bool a0.f2, .int .u32 a0.f3, .int .u32 a0.f4], 59⟩]) [] (RFacts.nil _ _ _) 3 [.no, .no, .no] (by kernel_rfl) (by kernel_rfl) ?_
      refine RL.nil (by kernel_rfl) ?_
      refine QN.then_ ?_
      refine OK.cond (.tmp 41) K8_26 K8_27 (decide (x8 < (W .i64 (1 + (W .i64 (a0.f0.tmod 13)))))) (by kernel_rfl) (by kernel_rfl) (by kernel_rfl) (fun hb => ?_) (fun hb => ?_)
      · skip
        have hc := (of_decide_eq_true hb)
        rw [if_pos hc] at H
        clear hb
        refine OK.skip (by kernel_rfl) ?_
        refine QN.then_ ?_
        refine OK.seq K8_29 K8_51 (by kernel_rfl) ?_
        refine OK.block 1 K8_30 (by kernel_rfl) ?_
        refine OK.seq K8_31 K8_33 (by kernel_rfl) ?_
        refine OK.region 8 O8_31 (by kernel_rfl) ?_
        refine RL.simP (K' := [(11, .pointer (some ⟨nx16, 0, none⟩)), (3, .bool t1), (4, .int .i64 (W .i64 (1 + (W .i64 (a0.f0.tmod 13))))), (5, .bool a0.f2), (6, .int .u32 a0.f3), (7, .int .u32 a0.f4), (8, .int .i64 ((W .i64 (a0.f1)).tmod (W .i64 ((W .i64 (1 + (W .i64 (a0.f0.tmod 13)))) + 1)))), (9, .slice A2 x7.length c2), (10, .int .i64 x8)]) (nx' := nx16 + 1) (L' := [⟨nx0, [.int .u8 a0.f0, .int .u8 a0.f1, .bool a0.f2, .int .u32 a0.f3, .int .u32 a0.f4], 59⟩, ⟨nx16, [.int .i64 2, .int .i64 x8, .int .i64 2, .int .i64 1, .int .u32 a0.f3, .int .i64 0, .string (⟨#[]⟩ : ByteArray), .slice none 0 0], 32⟩]) [] (RFacts.nil _ _ _) 5 [.no, .no, .no, .no, .l 1] (by kernel_rfl) (by kernel_rfl) ?_
        refine RL.nil (by kernel_rfl) ?_
        refine QN.then_ ?_
        refine OK.seq K8_34 K8_41 (by kernel_rfl) ?_
        refine OK.seq K8_35 K8_37 (by kernel_rfl) ?_
        refine OK.region 9 O8_35 (by kernel_rfl) ?_
        refine RL.simP (K' := [(47, .bool a0.f2), (11, .pointer (some ⟨nx16, 0, none⟩)), (3, .bool t1), (4, .int .i64 (W .i64 (1 + (W .i64 (a0.f0.tmod 13))))), (5, .bool a0.f2), (6, .int .u32 a0.f3), (7, .int .u32 a0.f4), (8, .int .i64 ((W .i64 (a0.f1)).tmod (W .i64 ((W .i64 (1 + (W .i64 (a0.f0.tmod 13)))) + 1)))), (9, .slice A2 x7.length c2), (10, .int .i64 x8)]) (nx' := nx16 + 1) (L' := [⟨nx0, [.int .u8 a0.f0, .int .u8 a0.f1, .bool a0.f2, .int .u32 a0.f3, .int .u32 a0.f4], 59⟩, ⟨nx16, [.int .i64 2, .int .i64 x8, .int .i64 2, .int .i64 1, .int .u32 a0.f3, .int .i64 0, .string (⟨#[]⟩ : ByteArray), .slice none 0 0], 32⟩]) [] (RFacts.nil _ _ _) 1 [.no] (by kernel_rfl) (by kernel_rfl) ?_
        refine RL.nil (by kernel_rfl) ?_
        refine QN.then_ ?_
        refine OK.join (fun K' I' _ L' X' => ∃ (x9 : Int), K' = [(3, .bool t1), (4, .int .i64 (W .i64 (1 + (W .i64 (a0.f0.tmod 13))))), (5, .bool a0.f2), (6, .int .u32 a0.f3), (7, .int .u32 a0.f4), (8, .int .i64 ((W .i64 (a0.f1)).tmod (W .i64 ((W .i64 (1 + (W .i64 (a0.f0.tmod 13)))) + 1)))), (9, .slice A2 x7.length c2), (10, .int .i64 x8), (11, .pointer (some ⟨nx16, 0, none⟩))] ∧ L' = [⟨nx0, [.int .u8 a0.f0, .int .u8 a0.f1, .bool a0.f2, .int .u32 a0.f3, .int .u32 a0.f4], 59⟩, ⟨nx16, [.int .i64 x9, .int .i64 x8, .int .i64 2, .int .i64 1, .int .u32 a0.f3, .int .i64 0, .string (⟨#[]⟩ : ByteArray), .slice none 0 0], 32⟩] ∧ X' = [orow 32 8 A2 x7.length c2 cs2] ∧ Imm.le I17 I' ∧ ((if x8 ≥ ((W .i64 (a0.f1)).tmod (W .i64 ((W .i64 (1 + (W .i64 (a0.f0.tmod 13)))) + 1))) then (some a0.f4) else (some a0.f3)).bind (fun x10 => (if (x7.length + [(⟨x9, x8, 2, 1, x10, (⟨0, (⟨#[]⟩ : ByteArray), []⟩ : S30)⟩ : S32)].length) * 88 ≤ 140737488355328 then (armillarylaw29_QuorumThreshold.l1 a0 kq1 (x7 ++ [(⟨x9, x8, 2, 1, x10, (⟨0, (⟨#[]⟩ : ByteArray), []⟩ : S30)⟩ : S32)]) (W .i64 (x8 + 1))) else none))) = some y1) ?_ ?_
        · rintro _ I18 nx17 _ _ ⟨x9, rfl, rfl, rfl, hi18, H⟩
          replace H : ((if x8 ≥ ((W .i64 (a0.f1)).tmod (W .i64 ((W .i64 (1 + (W .i64 (a0.f0.tmod 13)))) + 1))) then (some a0.f4) else (some a0.f3)).bind (fun x10 => (if (x7.length + [(⟨x9, x8, 2, 1, x10, (⟨0, (⟨#[]⟩ : ByteArray), []⟩ : S30)⟩ : S32)].length) * 88 ≤ 140737488355328 then (armillarylaw29_QuorumThreshold.l1 a0 kq1 (x7 ++ [(⟨x9, x8, 2, 1, x10, (⟨0, (⟨#[]⟩ : ByteArray), []⟩ : S30)⟩ : S32)]) (W .i64 (x8 + 1))) else none))) = some y1 := H
          refine QN.then_ ?_
          refine OK.seq K8_42 K8_49 (by kernel_rfl) ?_
          refine OK.seq K8_43 K8_45 (by kernel_rfl) ?_
          refine OK.region 11 O8_43 (by kernel_rfl) ?_
          refine RL.simP (K' := [(51, .bool (decide (x8 ≥ ((W .i64 (a0.f1)).tmod (W .i64 ((W .i64 (1 + (W .i64 (a0.f0.tmod 13)))) + 1)))))), (3, .bool t1), (4, .int .i64 (W .i64 (1 + (W .i64 (a0.f0.tmod 13))))), (5, .bool a0.f2), (6, .int .u32 a0.f3), (7, .int .u32 a0.f4), (8, .int .i64 ((W .i64 (a0.f1)).tmod (W .i64 ((W .i64 (1 + (W .i64 (a0.f0.tmod 13)))) + 1)))), (9, .slice A2 x7.length c2), (10, .int .i64 x8), (11, .pointer (some ⟨nx16, 0, none⟩))]) (nx' := nx17) (L' := [⟨nx0, [.int .u8 a0.f0, .int .u8 a0.f1, .bool a0.f2, .int .u32 a0.f3, .int .u32 a0.f4], 59⟩, ⟨nx16, [.int .i64 x9, .int .i64 x8, .int .i64 2, .int .i64 1, .int .u32 a0.f3, .int .i64 0, .string (⟨#[]⟩ : ByteArray), .slice none 0 0], 32⟩]) [] (RFacts.nil _ _ _) 3 [.no, .no, .no] (by kernel_rfl) (by kernel_rfl) ?_
          refine RL.nil (by kernel_rfl) ?_
          refine QN.then_ ?_
          refine OK.join (fun K' I' _ L' X' => ∃ (x10 : Int), K' = [(3, .bool t1), (4, .int .i64 (W .i64 (1 + (W .i64 (a0.f0.tmod 13))))), (5, .bool a0.f2), (6, .int .u32 a0.f3), (7, .int .u32 a0.f4), (8, .int .i64 ((W .i64 (a0.f1)).tmod (W .i64 ((W .i64 (1 + (W .i64 (a0.f0.tmod 13)))) + 1)))), (9, .slice A2 x7.length c2), (10, .int .i64 x8), (11, .pointer (some ⟨nx16, 0, none⟩))] ∧ L' = [⟨nx0, [.int .u8 a0.f0, .int .u8 a0.f1, .bool a0.f2, .int .u32 a0.f3, .int .u32 a0.f4], 59⟩, ⟨nx16, [.int .i64 x9, .int .i64 x8, .int .i64 2, .int .i64 1, .int .u32 x10, .int .i64 0, .string (⟨#[]⟩ : ByteArray), .slice none 0 0], 32⟩] ∧ X' = [orow 32 8 A2 x7.length c2 cs2] ∧ Imm.le I18 I' ∧ (if (x7.length + [(⟨x9, x8, 2, 1, x10, (⟨0, (⟨#[]⟩ : ByteArray), []⟩ : S30)⟩ : S32)].length) * 88 ≤ 140737488355328 then (armillarylaw29_QuorumThreshold.l1 a0 kq1 (x7 ++ [(⟨x9, x8, 2, 1, x10, (⟨0, (⟨#[]⟩ : ByteArray), []⟩ : S30)⟩ : S32)]) (W .i64 (x8 + 1))) else none) = some y1) ?_ ?_
          · rintro _ I19 nx18 _ _ ⟨x10, rfl, rfl, rfl, hi19, H⟩
            replace H : (if (x7.length + [(⟨x9, x8, 2, 1, x10, (⟨0, (⟨#[]⟩ : ByteArray), []⟩ : S30)⟩ : S32)].length) * 88 ≤ 140737488355328 then (armillarylaw29_QuorumThreshold.l1 a0 kq1 (x7 ++ [(⟨x9, x8, 2, 1, x10, (⟨0, (⟨#[]⟩ : ByteArray), []⟩ : S30)⟩ : S32)]) (W .i64 (x8 + 1))) else none) = some y1 := H
            refine QN.then_ ?_
            refine OK.region 13 O8_49 (by kernel_rfl) ?_
            refine RL.simP (K' := [(56, .slice (some ⟨nx18, 0, none⟩) 1 1), (54, .slice A2 x7.length c2), (3, .bool t1), (4, .int .i64 (W .i64 (1 + (W .i64 (a0.f0.tmod 13))))), (5, .bool a0.f2), (6, .int .u32 a0.f3), (7, .int .u32 a0.f4), (8, .int .i64 ((W .i64 (a0.f1)).tmod (W .i64 ((W .i64 (1 + (W .i64 (a0.f0.tmod 13)))) + 1)))), (9, .slice A2 x7.length c2), (10, .int .i64 x8)]) (nx' := nx18 + 1) (L' := [⟨nx0, [.int .u8 a0.f0, .int .u8 a0.f1, .bool a0.f2, .int .u32 a0.f3, .int .u32 a0.f4], 59⟩, ⟨nx16, [.int .i64 x9, .int .i64 x8, .int .i64 2, .int .i64 1, .int .u32 x10, .int .i64 0, .string (⟨#[]⟩ : ByteArray), .slice none 0 0], 32⟩, ⟨nx18, [.int .i64 x9, .int .i64 x8, .int .i64 2, .int .i64 1, .int .u32 x10, .int .i64 0, .string (⟨#[]⟩ : ByteArray), .slice none 0 0], 32⟩]) [] (RFacts.nil _ _ _) 3 [.no, .l 1, .no] (by kernel_rfl) (by kernel_rfl) ?_
            by_cases hz1 : (x7.length + [(⟨x9, x8, 2, 1, x10, (⟨0, (⟨#[]⟩ : ByteArray), []⟩ : S30)⟩ : S32)].length) * 88 ≤ 140737488355328
            case neg => rw [if_neg hz1] at H; cases H
            rw [if_pos hz1] at H
            refine RL.appendB (T := 22) (e := 32) (S := A2) 8 88 22 c2 2 1 nx18 32 cs2 [.int .i64 x9, .int .i64 x8, .int .i64 2, .int .i64 1, .int .u32 x10, .int .i64 0, .string (⟨#[]⟩ : ByteArray), .slice none 0 0] t32 x7 [(⟨x9, x8, 2, 1, x10, (⟨0, (⟨#[]⟩ : ByteArray), []⟩ : S30)⟩ : S32)] 0 (some 57) (by kernel_rfl) (by kernel_rfl) (by kernel_rfl) (by kernel_rfl) (by kernel_rfl) (by decide) (by kernel_rfl) (Reps.ext (Imm.le_trans hi18 hi19) hp2) (by kernel_rfl) ⟨_, _, rfl, (t32_mk _ _ (Nat.le_refl _) (Rd.nil _ _ _)), rfl⟩ hz1 (by omega) (fun A3 c3 nx19 cs3 hp3 => ?_)
            refine RL.sub (K' := [(57, .slice A3 ((x7 ++ [(⟨x9, x8, 2, 1, x10, (⟨0, (⟨#[]⟩ : ByteArray), []⟩ : S30)⟩ : S32)]).length) c3), (56, .slice (some ⟨nx18, 0, none⟩) 1 1), (3, .bool t1), (4, .int .i64 (W .i64 (1 + (W .i64 (a0.f0.tmod 13))))), (5, .bool a0.f2), (6, .int .u32 a0.f3), (7, .int .u32 a0.f4), (8, .int .i64 ((W .i64 (a0.f1)).tmod (W .i64 ((W .i64 (1 + (W .i64 (a0.f0.tmod 13)))) + 1)))), (10, .int .i64 x8)]) (L' := [⟨nx0, [.int .u8 a0.f0, .int .u8 a0.f1, .bool a0.f2, .int .u32 a0.f3, .int .u32 a0.f4], 59⟩, ⟨nx16, [.int .i64 x9, .int .i64 x8, .int .i64 2, .int .i64 1, .int .u32 x10, .int .i64 0, .string (⟨#[]⟩ : ByteArray), .slice none 0 0], 32⟩, ⟨nx18, [.int .i64 x9, .int .i64 x8, .int .i64 2, .int .i64 1, .int .u32 x10, .int .i64 0, .string (⟨#[]⟩ : ByteArray), .slice none 0 0], 32⟩]) (X' := [orow 32 8 A3 ((x7 ++ [(⟨x9, x8, 2, 1, x10, (⟨0, (⟨#[]⟩ : ByteArray), []⟩ : S30)⟩ : S32)]).length) c3 cs3]) (by kernel_rfl) (.refl _) (.refl _) ?_
            refine RL.simP (K' := [(9, .slice A3 ((x7 ++ [(⟨x9, x8, 2, 1, x10, (⟨0, (⟨#[]⟩ : ByteArray), []⟩ : S30)⟩ : S32)]).length) c3), (3, .bool t1), (4, .int .i64 (W .i64 (1 + (W .i64 (a0.f0.tmod 13))))), (5, .bool a0.f2), (6, .int .u32 a0.f3), (7, .int .u32 a0.f4), (8, .int .i64 ((W .i64 (a0.f1)).tmod (W .i64 ((W .i64 (1 + (W .i64 (a0.f0.tmod 13)))) + 1)))), (10, .int .i64 x8)]) (nx' := nx19) (L' := [⟨nx0, [.int .u8 a0.f0, .int .u8 a0.f1, .bool a0.f2, .int .u32 a0.f3, .int .u32 a0.f4], 59⟩, ⟨nx16, [.int .i64 x9, .int .i64 x8, .int .i64 2, .int .i64 1, .int .u32 x10, .int .i64 0, .string (⟨#[]⟩ : ByteArray), .slice none 0 0], 32⟩, ⟨nx18, [.int .i64 x9, .int .i64 x8, .int .i64 2, .int .i64 1, .int .u32 x10, .int .i64 0, .string (⟨#[]⟩ : ByteArray), .slice none 0 0], 32⟩]) [] (RFacts.nil _ _ _) 1 [.no] (by kernel_rfl) (by kernel_rfl) ?_
            refine RL.nil (by kernel_rfl) ?_
            refine QN.blkN ?_
            refine QN.then_ ?_
            refine OK.region 7 O8_51 (by kernel_rfl) ?_
            refine RL.simP (K' := [(10, .int .i64 (W .i64 (x8 + 1))), (9, .slice A3 ((x7 ++ [(⟨x9, x8, 2, 1, x10, (⟨0, (⟨#[]⟩ : ByteArray), []⟩ : S30)⟩ : S32)]).length) c3), (3, .bool t1), (4, .int .i64 (W .i64 (1 + (W .i64 (a0.f0.tmod 13))))), (5, .bool a0.f2), (6, .int .u32 a0.f3), (7, .int .u32 a0.f4), (8, .int .i64 ((W .i64 (a0.f1)).tmod (W .i64 ((W .i64 (1 + (W .i64 (a0.f0.tmod 13)))) + 1))))]) (nx' := nx19) (L' := [⟨nx0, [.int .u8 a0.f0, .int .u8 a0.f1, .bool a0.f2, .int .u32 a0.f3, .int .u32 a0.f4], 59⟩, ⟨nx16, [.int .i64 x9, .int .i64 x8, .int .i64 2, .int .i64 1, .int .u32 x10, .int .i64 0, .string (⟨#[]⟩ : ByteArray), .slice none 0 0], 32⟩, ⟨nx18, [.int .i64 x9, .int .i64 x8, .int .i64 2, .int .i64 1, .int .u32 x10, .int .i64 0, .string (⟨#[]⟩ : ByteArray), .slice none 0 0], 32⟩]) [] (RFacts.nil _ _ _) 3 [.no, .no, .no] (by kernel_rfl) (by kernel_rfl) ?_
            refine RL.nil (by kernel_rfl) ?_
            refine QN.sub (K' := [(3, .bool t1), (4, .int .i64 (W .i64 (1 + (W .i64 (a0.f0.tmod 13))))), (5, .bool a0.f2), (6, .int .u32 a0.f3), (7, .int .u32 a0.f4), (8, .int .i64 ((W .i64 (a0.f1)).tmod (W .i64 ((W .i64 (1 + (W .i64 (a0.f0.tmod 13)))) + 1)))), (9, .slice A3 ((x7 ++ [(⟨x9, x8, 2, 1, x10, (⟨0, (⟨#[]⟩ : ByteArray), []⟩ : S30)⟩ : S32)]).length) c3), (10, .int .i64 (W .i64 (x8 + 1)))]) (L' := [⟨nx0, [.int .u8 a0.f0, .int .u8 a0.f1, .bool a0.f2, .int .u32 a0.f3, .int .u32 a0.f4], 59⟩]) (by kernel_rfl) (.cons_cons _ (.cons _ (.cons _ .slnil))) (.refl _) ?_
            exact hJ4 _ _ _ _ _ ⟨(x7 ++ [(⟨x9, x8, 2, 1, x10, (⟨0, (⟨#[]⟩ : ByteArray), []⟩ : S30)⟩ : S32)]), W .i64 (x8 + 1), A3, c3, cs3, rfl, rfl, rfl, (Imm.le_trans (Imm.le_trans hi17 hi18) hi19), hp3, H⟩
          · intro Q_4 hJ6 hQ6
            obtain ⟨y5, H, HK5⟩ := Option.bind_eq_some_iff.mp H
            refine OK.cond (.tmp 51) K8_46 K8_48 (decide (x8 ≥ ((W .i64 (a0.f1)).tmod (W .i64 ((W .i64 (1 + (W .i64 (a0.f0.tmod 13)))) + 1))))) (by kernel_rfl) (by kernel_rfl) (by kernel_rfl) (fun hb => ?_) (fun hb => ?_)
            · skip
              have hc := (of_decide_eq_true hb)
              rw [if_pos hc] at H
              clear hb
              refine OK.region 12 O8_46 (by kernel_rfl) ?_
              refine RL.simP (K' := [(3, .bool t1), (4, .int .i64 (W .i64 (1 + (W .i64 (a0.f0.tmod 13))))), (5, .bool a0.f2), (6, .int .u32 a0.f3), (7, .int .u32 a0.f4), (8, .int .i64 ((W .i64 (a0.f1)).tmod (W .i64 ((W .i64 (1 + (W .i64 (a0.f0.tmod 13)))) + 1)))), (9, .slice A2 x7.length c2), (10, .int .i64 x8), (11, .pointer (some ⟨nx16, 0, none⟩))]) (nx' := nx17) (L' := [⟨nx0, [.int .u8 a0.f0, .int .u8 a0.f1, .bool a0.f2, .int .u32 a0.f3, .int .u32 a0.f4], 59⟩, ⟨nx16, [.int .i64 x9, .int .i64 x8, .int .i64 2, .int .i64 1, .int .u32 a0.f4, .int .i64 0, .string (⟨#[]⟩ : ByteArray), .slice none 0 0], 32⟩]) [] (RFacts.nil _ _ _) 3 [.no, .no, .l 1] (by kernel_rfl) (by kernel_rfl) ?_
              refine RL.nil (by kernel_rfl) ?_
              obtain rfl := Option.some.inj H
              refine QN.sub (K' := [(3, .bool t1), (4, .int .i64 (W .i64 (1 + (W .i64 (a0.f0.tmod 13))))), (5, .bool a0.f2), (6, .int .u32 a0.f3), (7, .int .u32 a0.f4), (8, .int .i64 ((W .i64 (a0.f1)).tmod (W .i64 ((W .i64 (1 + (W .i64 (a0.f0.tmod 13)))) + 1)))), (9, .slice A2 x7.length c2), (10, .int .i64 x8), (11, .pointer (some ⟨nx16, 0, none⟩))]) (L' := [⟨nx0, [.int .u8 a0.f0, .int .u8 a0.f1, .bool a0.f2, .int .u32 a0.f3, .int .u32 a0.f4], 59⟩, ⟨nx16, [.int .i64 x9, .int .i64 x8, .int .i64 2, .int .i64 1, .int .u32 a0.f4, .int .i64 0, .string (⟨#[]⟩ : ByteArray), .slice none 0 0], 32⟩]) (by kernel_rfl) (.cons_cons _ (.cons_cons _ .slnil)) (.refl _) ?_
              exact hJ6 _ _ _ _ _ ⟨a0.f4, rfl, rfl, rfl, (Imm.le_refl _), HK5⟩
            · skip
              have hc := (of_decide_eq_false hb)
              rw [if_neg hc] at H
              clear hb
              refine OK.skip (by kernel_rfl) ?_
              obtain rfl := Option.some.inj H
              refine QN.sub (K' := [(3, .bool t1), (4, .int .i64 (W .i64 (1 + (W .i64 (a0.f0.tmod 13))))), (5, .bool a0.f2), (6, .int .u32 a0.f3), (7, .int .u32 a0.f4), (8, .int .i64 ((W .i64 (a0.f1)).tmod (W .i64 ((W .i64 (1 + (W .i64 (a0.f0.tmod 13)))) + 1)))), (9, .slice A2 x7.length c2), (10, .int .i64 x8), (11, .pointer (some ⟨nx16, 0, none⟩))]) (L' := [⟨nx0, [.int .u8 a0.f0, .int .u8 a0.f1, .bool a0.f2, .int .u32 a0.f3, .int .u32 a0.f4], 59⟩, ⟨nx16, [.int .i64 x9, .int .i64 x8, .int .i64 2, .int .i64 1, .int .u32 a0.f3, .int .i64 0, .string (⟨#[]⟩ : ByteArray), .slice none 0 0], 32⟩]) (by kernel_rfl) (.cons_cons _ (.cons_cons _ .slnil)) (.refl _) ?_
              exact hJ6 _ _ _ _ _ ⟨a0.f3, rfl, rfl, rfl, (Imm.le_refl _), HK5⟩
        · intro Q_5 hJ5 hQ5
          obtain ⟨y4, H, HK4⟩ := Option.bind_eq_some_iff.mp H
          refine OK.cond (.tmp 47) K8_38 K8_40 a0.f2 (by kernel_rfl) (by kernel_rfl) (by kernel_rfl) (fun hb => ?_) (fun hb => ?_)
          · skip
            have hc := hb
            rw [if_pos hc] at H
            clear hb
            refine OK.region 10 O8_38 (by kernel_rfl) ?_
            refine RL.simP (K' := [(11, .pointer (some ⟨nx16, 0, none⟩)), (3, .bool t1), (4, .int .i64 (W .i64 (1 + (W .i64 (a0.f0.tmod 13))))), (5, .bool a0.f2), (6, .int .u32 a0.f3), (7, .int .u32 a0.f4), (8, .int .i64 ((W .i64 (a0.f1)).tmod (W .i64 ((W .i64 (1 + (W .i64 (a0.f0.tmod 13)))) + 1)))), (9, .slice A2 x7.length c2), (10, .int .i64 x8)]) (nx' := nx16 + 1) (L' := [⟨nx0, [.int .u8 a0.f0, .int .u8 a0.f1, .bool a0.f2, .int .u32 a0.f3, .int .u32 a0.f4], 59⟩, ⟨nx16, [.int .i64 3, .int .i64 x8, .int .i64 2, .int .i64 1, .int .u32 a0.f3, .int .i64 0, .string (⟨#[]⟩ : ByteArray), .slice none 0 0], 32⟩]) [] (RFacts.nil _ _ _) 2 [.no, .l 1] (by kernel_rfl) (by kernel_rfl) ?_
            refine RL.nil (by kernel_rfl) ?_
            obtain rfl := Option.some.inj H
            refine QN.sub (K' := [(3, .bool t1), (4, .int .i64 (W .i64 (1 + (W .i64 (a0.f0.tmod 13))))), (5, .bool a0.f2), (6, .int .u32 a0.f3), (7, .int .u32 a0.f4), (8, .int .i64 ((W .i64 (a0.f1)).tmod (W .i64 ((W .i64 (1 + (W .i64 (a0.f0.tmod 13)))) + 1)))), (9, .slice A2 x7.length c2), (10, .int .i64 x8), (11, .pointer (some ⟨nx16, 0, none⟩))]) (L' := [⟨nx0, [.int .u8 a0.f0, .int .u8 a0.f1, .bool a0.f2, .int .u32 a0.f3, .int .u32 a0.f4], 59⟩, ⟨nx16, [.int .i64 3, .int .i64 x8, .int .i64 2, .int .i64 1, .int .u32 a0.f3, .int .i64 0, .string (⟨#[]⟩ : ByteArray), .slice none 0 0], 32⟩]) (by kernel_rfl) (.cons_cons _ (.cons_cons _ .slnil)) (.refl _) ?_
            exact hJ5 _ _ _ _ _ ⟨3, rfl, rfl, rfl, (Imm.le_refl _), HK4⟩
          · skip
            have hc := (Bool.eq_false_iff.1 hb)
            rw [if_neg hc] at H
            clear hb
            refine OK.skip (by kernel_rfl) ?_
            obtain rfl := Option.some.inj H
            refine QN.sub (K' := [(3, .bool t1), (4, .int .i64 (W .i64 (1 + (W .i64 (a0.f0.tmod 13))))), (5, .bool a0.f2), (6, .int .u32 a0.f3), (7, .int .u32 a0.f4), (8, .int .i64 ((W .i64 (a0.f1)).tmod (W .i64 ((W .i64 (1 + (W .i64 (a0.f0.tmod 13)))) + 1)))), (9, .slice A2 x7.length c2), (10, .int .i64 x8), (11, .pointer (some ⟨nx16, 0, none⟩))]) (L' := [⟨nx0, [.int .u8 a0.f0, .int .u8 a0.f1, .bool a0.f2, .int .u32 a0.f3, .int .u32 a0.f4], 59⟩, ⟨nx16, [.int .i64 2, .int .i64 x8, .int .i64 2, .int .i64 1, .int .u32 a0.f3, .int .i64 0, .string (⟨#[]⟩ : ByteArray), .slice none 0 0], 32⟩]) (by kernel_rfl) (.cons_cons _ (.cons_cons _ .slnil)) (.refl _) ?_
            exact hJ5 _ _ _ _ _ ⟨2, rfl, rfl, rfl, (Imm.le_refl _), HK4⟩
      · skip
        have hc := (of_decide_eq_false hb)
        rw [if_neg hc] at H
        clear hb
        refine OK.exit 0 (by kernel_rfl) ?_
        refine QN.thenE ?_
        refine QN.outE hQ4 ?_
        refine QN.blkE ?_
        obtain rfl := Option.some.inj H
        refine QN.sub (K' := [(3, .bool t1), (4, .int .i64 (W .i64 (1 + (W .i64 (a0.f0.tmod 13))))), (5, .bool a0.f2), (6, .int .u32 a0.f3), (8, .int .i64 ((W .i64 (a0.f1)).tmod (W .i64 ((W .i64 (1 + (W .i64 (a0.f0.tmod 13)))) + 1)))), (9, .slice A2 x7.length c2)]) (L' := [⟨nx0, [.int .u8 a0.f0, .int .u8 a0.f1, .bool a0.f2, .int .u32 a0.f3, .int .u32 a0.f4], 59⟩]) (by kernel_rfl) (.cons_cons _ .slnil) (.refl _) ?_
        exact hJ1 _ _ _ _ _ ⟨x7, A2, c2, cs2, rfl, rfl, rfl, hi17, hp2, HK1⟩

end Go.Proofs.Ytieakigoinebdaa
