/- Words of the walk, the functions' walks and plain laws, joined; no conditions beyond those that the theorems name. -/
import Derived.Test.YtdmhbcgmimfjcaaX72
import Derived.Test.YtdmhbcgmimfjcaaX77
import Derived.Test.YtdmhbcgmimfjcaaX75
import Derived.Test.YtdmhbcgmimfjcaaX76
import Derived.ChangeArms
import Derived.DataReads
import Derived.OpenShut
namespace Go.Proofs.Ytdmhbcgmimfjcaa
open Go Go.Proofs.Ytdmhbcgmimfjcaa.RW
set_option linter.unusedVariables false
set_option maxRecDepth 100000
set_option maxHeartbeats 8000000

/-! ### armillarylaw22_AssignInvariance: function 7, armillary/armillarylaw22.AssignInvariance -/
noncomputable def K7_0 : Code := cBody Try.f7
noncomputable def K7_1 : Code := cL K7_0
noncomputable def O7_1 : List Oper := cOps K7_1
noncomputable def K7_3 : Code := cR K7_0
noncomputable def K7_4 : Code := cL K7_3
noncomputable def O7_4 : List Oper := cOps K7_4
noncomputable def K7_6 : Code := cR K7_3
noncomputable def K7_7 : Code := cL K7_6
noncomputable def O7_7 : List Oper := cOps K7_7
noncomputable def K7_9 : Code := cR K7_6
noncomputable def K7_10 : Code := cL K7_9
noncomputable def O7_10 : List Oper := cOps K7_10
noncomputable def K7_12 : Code := cR K7_9
noncomputable def K7_13 : Code := cL K7_12
noncomputable def O7_13 : List Oper := cOps K7_13
noncomputable def K7_15 : Code := cR K7_12
noncomputable def K7_16 : Code := cL K7_15
noncomputable def K7_17 : Code := cL K7_16
noncomputable def O7_17 : List Oper := cOps K7_17
noncomputable def K7_19 : Code := cR K7_16
noncomputable def K7_20 : Code := cL K7_19
noncomputable def K7_21 : Code := cL K7_20
noncomputable def K7_22 : Code := cL K7_21
noncomputable def K7_23 : Code := cL K7_22
noncomputable def O7_23 : List Oper := cOps K7_23
noncomputable def K7_25 : Code := cR K7_22
noncomputable def K7_26 : Code := cL K7_25
noncomputable def K7_27 : Code := cR K7_25
noncomputable def K7_28 : Code := cR K7_21
noncomputable def K7_29 : Code := cL K7_28
noncomputable def K7_30 : Code := cL K7_29
noncomputable def K7_31 : Code := cL K7_30
noncomputable def O7_31 : List Oper := cOps K7_31
noncomputable def K7_33 : Code := cR K7_30
noncomputable def K7_34 : Code := cL K7_33
noncomputable def O7_34 : List Oper := cOps K7_34
noncomputable def K7_36 : Code := cR K7_33
noncomputable def K7_37 : Code := cL K7_36
noncomputable def O7_37 : List Oper := cOps K7_37
noncomputable def K7_39 : Code := cR K7_36
noncomputable def K7_40 : Code := cL K7_39
noncomputable def K7_41 : Code := cL K7_40
noncomputable def O7_41 : List Oper := cOps K7_41
noncomputable def K7_43 : Code := cR K7_40
noncomputable def K7_44 : Code := cL K7_43
noncomputable def K7_45 : Code := cL K7_44
noncomputable def K7_46 : Code := cL K7_45
noncomputable def K7_47 : Code := cL K7_46
noncomputable def O7_47 : List Oper := cOps K7_47
noncomputable def K7_49 : Code := cR K7_46
noncomputable def K7_50 : Code := cL K7_49
noncomputable def K7_51 : Code := cR K7_49
noncomputable def K7_52 : Code := cR K7_45
noncomputable def K7_53 : Code := cL K7_52
noncomputable def K7_54 : Code := cL K7_53
noncomputable def K7_55 : Code := cL K7_54
noncomputable def O7_55 : List Oper := cOps K7_55
noncomputable def K7_57 : Code := cR K7_54
noncomputable def K7_58 : Code := cL K7_57
noncomputable def O7_58 : List Oper := cOps K7_58
noncomputable def K7_60 : Code := cR K7_57
noncomputable def O7_60 : List Oper := cOps K7_60
noncomputable def K7_62 : Code := cR K7_52
noncomputable def O7_62 : List Oper := cOps K7_62
noncomputable def K7_64 : Code := cR K7_39
noncomputable def K7_65 : Code := cL K7_64
noncomputable def O7_65 : List Oper := cOps K7_65
noncomputable def K7_67 : Code := cR K7_64
noncomputable def K7_68 : Code := cL K7_67
noncomputable def O7_68 : List Oper := cOps K7_68
noncomputable def K7_70 : Code := cR K7_67
noncomputable def O7_70 : List Oper := cOps K7_70
noncomputable def K7_72 : Code := cR K7_28
noncomputable def O7_72 : List Oper := cOps K7_72
noncomputable def K7_74 : Code := cR K7_15
noncomputable def K7_75 : Code := cL K7_74
noncomputable def O7_75 : List Oper := cOps K7_75
noncomputable def K7_77 : Code := cR K7_74
def armillarylaw22_AssignInvariance.k1  (x5 : Bool) : Option (Bool) := (some x5)
def armillarylaw22_AssignInvariance.k2 (k : Nat) (a2 : Int) (t1 : Bool) (t2 : List (List Int)) (t3 : Int) : List (List Int) × List (List Int) × List (List Int) × List (List Int) → Option (Bool)
 | (x1, x2, x3, x4) => ((if t3 ≥ 0 then ((armillarylaw22_optimum.f k x1).bind fun t4 => (if t4 = t3 then ((armillarylaw22_optimum.f k x2).bind fun t5 => (if t5 = t3 then ((armillaryref22_Transpose.f k t2).bind fun t6 => ((armillarylaw22_optimum.f k t6).bind fun t7 => (if t7 = t3 then ((armillarylaw22_optimum.f k x4).bind fun t8 => ((armillarylaw22_optimum.f k x3).bind fun t9 => (if t8 = (W .i64 (t9 * (W .i64 (a2.tmod 16)))) then (some t1) else (some false)))) else (some false)))) else (some false))) else (some false))) else (some false)).bind (armillarylaw22_AssignInvariance.k1))
def armillarylaw22_AssignInvariance.k4 (t2 : List (List Int)) (x6 : List (List Int)) (x7 : List (List Int)) (x8 : List (List Int)) (x9 : List (List Int)) (x10 : Int) : List Int × List Int × List Int → Option (List (List Int) × List (List Int) × List (List Int) × List (List Int))
 | (x15, x16, x17) => (if (x7.length + [x15].length) * 24 ≤ 140737488355328 then (if (x8.length + [x16].length) * 24 ≤ 140737488355328 then (if (x9.length + [x17].length) * 24 ≤ 140737488355328 then (some ((x6 ++ [(t2.getD (W .i64 ((W .i64 ((t2.length : Int) - 1)) - x10)).toNat [])]), (x7 ++ [x15]), (x8 ++ [x16]), (x9 ++ [x17]))) else none) else none) else none)
def armillarylaw22_AssignInvariance.l2 (a1 : Int) (a2 : Int) (t2 : List (List Int)) (x10 : Int) : Nat → (List Int) → (List Int) → (List Int) → Int → Option (List Int × List Int × List Int)
 | 0, _, _, _, _ => none
 | k + 1, x18, x19, x20, x21 => (if x21 < ((t2.getD (x10).toNat []).length : Int) then (if 0 ≤ x10 then (if x10 < (t2.length : Int) then (if ((t2.getD (x10).toNat []).length : Int) = 0 then none else (if 0 ≤ ((W .i64 (x21 + (W .i64 (a1)))).tmod ((t2.getD (x10).toNat []).length : Int)) then (if ((W .i64 (x21 + (W .i64 (a1)))).tmod ((t2.getD (x10).toNat []).length : Int)) < ((t2.getD (x10).toNat []).length : Int) then (if 0 ≤ x21 then (if x21 < (x18.length : Int) then (if 0 ≤ x10 then (if x10 < (t2.length : Int) then (if 0 ≤ x21 then (if x21 < ((t2.getD (x10).toNat []).length : Int) then (if 0 ≤ x21 then (if x21 < (x19.length : Int) then (if 0 ≤ x21 then (if x21 < ((x19.set (x21).toNat (((t2.getD (x10).toNat []).getD (x21).toNat 0).tmod 67108864)).length : Int) then (if 0 ≤ x21 then (if x21 < (x20.length : Int) then (armillarylaw22_AssignInvariance.l2 a1 a2 t2 x10 k (x18.set (x21).toNat ((t2.getD (x10).toNat []).getD ((W .i64 (x21 + (W .i64 (a1)))).tmod ((t2.getD (x10).toNat []).length : Int)).toNat 0)) (x19.set (x21).toNat (((t2.getD (x10).toNat []).getD (x21).toNat 0).tmod 67108864)) (x20.set (x21).toNat (W .i64 (((x19.set (x21).toNat (((t2.getD (x10).toNat []).getD (x21).toNat 0).tmod 67108864)).getD (x21).toNat 0) * (W .i64 (a2.tmod 16))))) (W .i64 (x21 + 1))) else none) else none) else none) else none) else none) else none) else none) else none) else none) else none) else none) else none) else none) else none)) else none) else none) else (some (x18, x19, x20)))
def armillarylaw22_AssignInvariance.l1 (a1 : Int) (a2 : Int) (t2 : List (List Int)) : Nat → (List (List Int)) → (List (List Int)) → (List (List Int)) → (List (List Int)) → Int → Option (List (List Int) × List (List Int) × List (List Int) × List (List Int))
 | 0, _, _, _, _, _ => none
 | k + 1, x6, x7, x8, x9, x10 => (if x10 < (t2.length : Int) then ((if 0 ≤ (W .i64 ((W .i64 ((t2.length : Int) - 1)) - x10)) then (if (W .i64 ((W .i64 ((t2.length : Int) - 1)) - x10)) < (t2.length : Int) then (if (x6.length + [(t2.getD (W .i64 ((W .i64 ((t2.length : Int) - 1)) - x10)).toNat [])].length) * 24 ≤ 140737488355328 then (if 0 ≤ x10 then (if x10 < (t2.length : Int) then (if 0 ≤ ((t2.getD (x10).toNat []).length : Int) then (if ((t2.getD (x10).toNat []).length : Int) ≤ 35184372088832 then (if 0 ≤ ((t2.getD (x10).toNat []).length : Int) then (if ((t2.getD (x10).toNat []).length : Int) ≤ 35184372088832 then (if 0 ≤ ((t2.getD (x10).toNat []).length : Int) then (if ((t2.getD (x10).toNat []).length : Int) ≤ 35184372088832 then ((armillarylaw22_AssignInvariance.l2 a1 a2 t2 x10 k (List.replicate (((t2.getD (x10).toNat []).length : Int)).toNat (0 : Int)) (List.replicate (((t2.getD (x10).toNat []).length : Int)).toNat (0 : Int)) (List.replicate (((t2.getD (x10).toNat []).length : Int)).toNat (0 : Int)) 0).bind (armillarylaw22_AssignInvariance.k4 t2 x6 x7 x8 x9 x10)) else none) else none) else none) else none) else none) else none) else none) else none) else none) else none) else none).bind (fun (x11, x12, x13, x14) => (armillarylaw22_AssignInvariance.l1 a1 a2 t2 k x11 x12 x13 x14 (W .i64 (x10 + 1))))) else (some (x6, x7, x8, x9)))
def armillarylaw22_AssignInvariance.f (k : Nat) (a0 : List (List Int)) (a1 : Int) (a2 : Int) : Option (Bool) := ((armillarylaw22_sanity.f k ).bind fun t1 => ((armillaryref22_Made.f k a0 12 12).bind fun t2 => ((armillarylaw22_optimum.f k t2).bind fun t3 => ((armillarylaw22_AssignInvariance.l1 a1 a2 t2 k ([] : List (List Int)) ([] : List (List Int)) ([] : List (List Int)) ([] : List (List Int)) 0).bind (armillarylaw22_AssignInvariance.k2 k a2 t1 t2 t3)))))
def armillarylaw22_AssignInvariance.Post (I : Imm) (w : World) (r : Bool) (v : Value) (w' : World) : Prop :=
 ∃ (J : Imm), v = .bool r ∧ Got w w' I J []
noncomputable def a7_37n : List Nat := [0, 1, 0, 4, 0, 16, 3, 79, 255]
theorem a7_37 : ancs O7_37 [] = a7_37n := by kernel_rfl
theorem a7_37o : drawOk O7_37 a7_37n 8 = true := by kernel_rfl
noncomputable def u7d1l (t2 : List (List Int)) (x10 : Int) : List Ld :=
 [⟨1, fun x => .slice ((x 0).1) ((List.replicate (((t2.getD (x10).toNat []).length : Int)).toNat (0 : Int)).length) ((x 0).2.1), fun x => [orow 2 1 (x 0).1 (List.replicate (((t2.getD (x10).toNat []).length : Int)).toNat (0 : Int)).length (x 0).2.1 (x 0).2.2], fun x J => Reps (Ty.int .i64) J (List.replicate (((t2.getD (x10).toNat []).length : Int)).toNat (0 : Int)) (x 0).2.2 ∧ True, fun x J J' h f => ⟨Reps.ext h f.1, trivial⟩⟩,
  ⟨3, fun x => .slice ((x 0).1) ((List.replicate (((t2.getD (x10).toNat []).length : Int)).toNat (0 : Int)).length) ((x 0).2.1), fun x => [orow 2 1 (x 0).1 (List.replicate (((t2.getD (x10).toNat []).length : Int)).toNat (0 : Int)).length (x 0).2.1 (x 0).2.2], fun x J => Reps (Ty.int .i64) J (List.replicate (((t2.getD (x10).toNat []).length : Int)).toNat (0 : Int)) (x 0).2.2 ∧ True, fun x J J' h f => ⟨Reps.ext h f.1, trivial⟩⟩,
  ⟨5, fun x => .slice ((x 0).1) ((List.replicate (((t2.getD (x10).toNat []).length : Int)).toNat (0 : Int)).length) ((x 0).2.1), fun x => [orow 2 1 (x 0).1 (List.replicate (((t2.getD (x10).toNat []).length : Int)).toNat (0 : Int)).length (x 0).2.1 (x 0).2.2], fun x J => Reps (Ty.int .i64) J (List.replicate (((t2.getD (x10).toNat []).length : Int)).toNat (0 : Int)) (x 0).2.2 ∧ True, fun x J J' h f => ⟨Reps.ext h f.1, trivial⟩⟩]
noncomputable def u7d1g  : List (Nat × ((Nat → Wt) → Value)) := []
noncomputable def u7d1q (a1 : Int) (a2 : Int) (t1 : Bool) (t2 : List (List Int)) (A1 : Option Addr) (c1 : Nat) (t3 : Int) (x6 : List (List Int)) (x7 : List (List Int)) (A8 : Option Addr) (c8 : Nat) (x8 : List (List Int)) (A9 : Option Addr) (c9 : Nat) (x9 : List (List Int)) (A10 : Option Addr) (c10 : Nat) (x10 : Int) (nx12 : Nat) (A1_ : Option Addr) (c1_ : Nat) (A15 : Option Addr) (c15 : Nat) (u : Nat → Wt) : Option (List Value × List (Nat × Value) × List (Nat × Nat)) := qSim Try.prog [] [⟨nx12, [.slice A1_ ((t2.getD (W .i64 ((W .i64 ((t2.length : Int) - 1)) - x10)).toNat []).length) c1_], 24⟩] O7_37 ⟨146, []⟩ (Ld.vl (u7d1l t2 x10)) u7d1g u [.no, .no, .no, .no, .no, .no, .no, .no] 0 (O7_37.take 8) [(15, .int .i64 ((t2.getD (x10).toNat []).length : Int)), (10, .slice A15 ((x6 ++ [(t2.getD (W .i64 ((W .i64 ((t2.length : Int) - 1)) - x10)).toNat [])]).length) c15), (1, .int .u8 a1), (2, .int .u8 a2), (7, .bool t1), (8, .slice A1 t2.length c1), (9, .int .i64 t3), (11, .slice A8 x7.length c8), (12, .slice A9 x8.length c9), (13, .slice A10 x9.length c10), (14, .int .i64 x10)]
noncomputable def u7d1s (t2 : List (List Int)) (x10 : Int) (u : Nat → Wt) : List Value := [.int .i64 ((t2.getD (x10).toNat []).length : Int), .slice ((u 1 0).1) ((List.replicate (((t2.getD (x10).toNat []).length : Int)).toNat (0 : Int)).length) ((u 1 0).2.1), .int .i64 ((t2.getD (x10).toNat []).length : Int), .slice ((u 3 0).1) ((List.replicate (((t2.getD (x10).toNat []).length : Int)).toNat (0 : Int)).length) ((u 3 0).2.1), .int .i64 ((t2.getD (x10).toNat []).length : Int), .slice ((u 5 0).1) ((List.replicate (((t2.getD (x10).toNat []).length : Int)).toNat (0 : Int)).length) ((u 5 0).2.1), .slice ((u 1 0).1) ((List.replicate (((t2.getD (x10).toNat []).length : Int)).toNat (0 : Int)).length) ((u 1 0).2.1), .slice ((u 3 0).1) ((List.replicate (((t2.getD (x10).toNat []).length : Int)).toNat (0 : Int)).length) ((u 3 0).2.1)]
noncomputable def u7d1f (a1 : Int) (a2 : Int) (t1 : Bool) (t2 : List (List Int)) (A1 : Option Addr) (c1 : Nat) (t3 : Int) (x6 : List (List Int)) (x7 : List (List Int)) (A8 : Option Addr) (c8 : Nat) (x8 : List (List Int)) (A9 : Option Addr) (c9 : Nat) (x9 : List (List Int)) (A10 : Option Addr) (c10 : Nat) (x10 : Int) (A15 : Option Addr) (c15 : Nat) (i : Nat) (u : Nat → Wt) : List (Nat × Value) := foldPut ⟨146, []⟩ [(15, .int .i64 ((t2.getD (x10).toNat []).length : Int)), (10, .slice A15 ((x6 ++ [(t2.getD (W .i64 ((W .i64 ((t2.length : Int) - 1)) - x10)).toNat [])]).length) c15), (1, .int .u8 a1), (2, .int .u8 a2), (7, .bool t1), (8, .slice A1 t2.length c1), (9, .int .i64 t3), (11, .slice A8 x7.length c8), (12, .slice A9 x8.length c9), (13, .slice A10 x9.length c10), (14, .int .i64 x10)] (O7_37.take i) (((u7d1s t2 x10) u).take i)
theorem u7d1v (a1 : Int) (a2 : Int) (t1 : Bool) (t2 : List (List Int)) (A1 : Option Addr) (c1 : Nat) (t3 : Int) (x6 : List (List Int)) (x7 : List (List Int)) (A8 : Option Addr) (c8 : Nat) (x8 : List (List Int)) (A9 : Option Addr) (c9 : Nat) (x9 : List (List Int)) (A10 : Option Addr) (c10 : Nat) (x10 : Int) (nx12 : Nat) (A1_ : Option Addr) (c1_ : Nat) (A15 : Option Addr) (c15 : Nat) (u : Nat → Wt) : (u7d1q a1 a2 t1 t2 A1 c1 t3 x6 x7 A8 c8 x8 A9 c9 x9 A10 c10 x10 nx12 A1_ c1_ A15 c15 u).map (fun x => (x.1, x.2.1)) = some ((u7d1s t2 x10) u, (u7d1f a1 a2 t1 t2 A1 c1 t3 x6 x7 A8 c8 x8 A9 c9 x9 A10 c10 x10 A15 c15 8) u) := by kernel_rfl
theorem u7d1e (a1 : Int) (a2 : Int) (t1 : Bool) (t2 : List (List Int)) (A1 : Option Addr) (c1 : Nat) (t3 : Int) (x6 : List (List Int)) (x7 : List (List Int)) (A8 : Option Addr) (c8 : Nat) (x8 : List (List Int)) (A9 : Option Addr) (c9 : Nat) (x9 : List (List Int)) (A10 : Option Addr) (c10 : Nat) (x10 : Int) (nx12 : Nat) (A1_ : Option Addr) (c1_ : Nat) (A15 : Option Addr) (c15 : Nat) (u : Nat → Wt) : (u7d1q a1 a2 t1 t2 A1 c1 t3 x6 x7 A8 c8 x8 A9 c9 x9 A10 c10 x10 nx12 A1_ c1_ A15 c15 u).map (fun x => x.2.2.map (·.1)) = (u7d1q a1 a2 t1 t2 A1 c1 t3 x6 x7 A8 c8 x8 A9 c9 x9 A10 c10 x10 nx12 A1_ c1_ A15 c15 u).map (fun x => x.2.2.map (·.2)) := by kernel_rfl
noncomputable def a7_55n : List Nat := [0, 0, 0, 0, 12, 28, 0, 0, 128, 448, 0, 1984, 4092, 8188, 16383, 32767]
theorem a7_55 : ancs O7_55 [] = a7_55n := by kernel_rfl
theorem a7_55o : drawOk O7_55 a7_55n 14 = true := by kernel_rfl
noncomputable def u7d2l  : List Ld :=
 []
noncomputable def u7d2g (a1 : Int) (t2 : List (List Int)) (x10 : Int) (x21 : Int) (g3_ : Nat) (g4_ : Nat) (o4_ : Nat) : List (Nat × ((Nat → Wt) → Value)) := [(4, fun u => .pointer (some ⟨g3_, 0 + (x10).toNat * 1, none⟩)), (11, fun u => .int .i64 ((W .i64 (x21 + (W .i64 (a1)))).tmod ((t2.getD (x10).toNat []).length : Int))), (12, fun u => .pointer (some ⟨g4_, o4_ + ((W .i64 (x21 + (W .i64 (a1)))).tmod ((t2.getD (x10).toNat []).length : Int)).toNat * 1, none⟩))]
noncomputable def u7d2q (a1 : Int) (a2 : Int) (t1 : Bool) (t2 : List (List Int)) (A1 : Option Addr) (c1 : Nat) (t3 : Int) (x6 : List (List Int)) (x7 : List (List Int)) (A8 : Option Addr) (c8 : Nat) (x8 : List (List Int)) (A9 : Option Addr) (c9 : Nat) (x9 : List (List Int)) (A10 : Option Addr) (c10 : Nat) (x10 : Int) (nx12 : Nat) (A1_ : Option Addr) (c1_ : Nat) (A15 : Option Addr) (c15 : Nat) (x18 : List Int) (A25 : Option Addr) (c25 : Nat) (x19 : List Int) (A26 : Option Addr) (c26 : Nat) (x20 : List Int) (A27 : Option Addr) (c27 : Nat) (x21 : Int) (g3_ : Nat) (A3_ : Option Addr) (c3_ : Nat) (g4_ : Nat) (o4_ : Nat) (u : Nat → Wt) : Option (List Value × List (Nat × Value) × List (Nat × Nat)) := qSim Try.prog [(⟨g3_, 0 + (x10).toNat * 1, none⟩, .slice A3_ ((t2.getD (x10).toNat []).length) c3_), (⟨g4_, o4_ + ((W .i64 (x21 + (W .i64 (a1)))).tmod ((t2.getD (x10).toNat []).length : Int)).toNat * 1, none⟩, .int .i64 ((t2.getD (x10).toNat []).getD ((W .i64 (x21 + (W .i64 (a1)))).tmod ((t2.getD (x10).toNat []).length : Int)).toNat 0))] [⟨nx12, [.slice A1_ ((t2.getD (W .i64 ((W .i64 ((t2.length : Int) - 1)) - x10)).toNat []).length) c1_], 24⟩] O7_55 ⟨146, []⟩ (Ld.vl u7d2l) (u7d2g a1 t2 x10 x21 g3_ g4_ o4_) u [.no, .no, .no, .no, .no, .r 0, .no, .no, .no, .no, .no, .no, .no, .r 1] 0 (O7_55.take 14) [(59, .bool (decide (x21 < ((t2.getD (x10).toNat []).length : Int)))), (1, .int .u8 a1), (2, .int .u8 a2), (7, .bool t1), (8, .slice A1 t2.length c1), (9, .int .i64 t3), (10, .slice A15 ((x6 ++ [(t2.getD (W .i64 ((W .i64 ((t2.length : Int) - 1)) - x10)).toNat [])]).length) c15), (11, .slice A8 x7.length c8), (12, .slice A9 x8.length c9), (13, .slice A10 x9.length c10), (14, .int .i64 x10), (15, .int .i64 ((t2.getD (x10).toNat []).length : Int)), (16, .slice A25 x18.length c25), (17, .slice A26 x19.length c26), (18, .slice A27 x20.length c27), (19, .int .i64 x21)]
noncomputable def u7d2s (a1 : Int) (t2 : List (List Int)) (A1 : Option Addr) (c1 : Nat) (x10 : Int) (x18 : List Int) (A25 : Option Addr) (c25 : Nat) (x21 : Int) (g3_ : Nat) (A3_ : Option Addr) (c3_ : Nat) (g4_ : Nat) (o4_ : Nat) (u : Nat → Wt) : List Value := [.slice A25 x18.length c25, .int .i64 x21, .slice A1 t2.length c1, .int .i64 x10, .pointer (some ⟨g3_, 0 + (x10).toNat * 1, none⟩), .slice A3_ ((t2.getD (x10).toNat []).length) c3_, .int .i64 x21, .int .u8 a1, .int .i64 (W .i64 (a1)), .int .i64 (W .i64 (x21 + (W .i64 (a1)))), .int .i64 ((t2.getD (x10).toNat []).length : Int), .int .i64 ((W .i64 (x21 + (W .i64 (a1)))).tmod ((t2.getD (x10).toNat []).length : Int)), .pointer (some ⟨g4_, o4_ + ((W .i64 (x21 + (W .i64 (a1)))).tmod ((t2.getD (x10).toNat []).length : Int)).toNat * 1, none⟩), .int .i64 ((t2.getD (x10).toNat []).getD ((W .i64 (x21 + (W .i64 (a1)))).tmod ((t2.getD (x10).toNat []).length : Int)).toNat 0)]
noncomputable def u7d2f (a1 : Int) (a2 : Int) (t1 : Bool) (t2 : List (List Int)) (A1 : Option Addr) (c1 : Nat) (t3 : Int) (x6 : List (List Int)) (x7 : List (List Int)) (A8 : Option Addr) (c8 : Nat) (x8 : List (List Int)) (A9 : Option Addr) (c9 : Nat) (x9 : List (List Int)) (A10 : Option Addr) (c10 : Nat) (x10 : Int) (A15 : Option Addr) (c15 : Nat) (x18 : List Int) (A25 : Option Addr) (c25 : Nat) (x19 : List Int) (A26 : Option Addr) (c26 : Nat) (x20 : List Int) (A27 : Option Addr) (c27 : Nat) (x21 : Int) (g3_ : Nat) (A3_ : Option Addr) (c3_ : Nat) (g4_ : Nat) (o4_ : Nat) (i : Nat) (u : Nat → Wt) : List (Nat × Value) := foldPut ⟨146, []⟩ [(59, .bool (decide (x21 < ((t2.getD (x10).toNat []).length : Int)))), (1, .int .u8 a1), (2, .int .u8 a2), (7, .bool t1), (8, .slice A1 t2.length c1), (9, .int .i64 t3), (10, .slice A15 ((x6 ++ [(t2.getD (W .i64 ((W .i64 ((t2.length : Int) - 1)) - x10)).toNat [])]).length) c15), (11, .slice A8 x7.length c8), (12, .slice A9 x8.length c9), (13, .slice A10 x9.length c10), (14, .int .i64 x10), (15, .int .i64 ((t2.getD (x10).toNat []).length : Int)), (16, .slice A25 x18.length c25), (17, .slice A26 x19.length c26), (18, .slice A27 x20.length c27), (19, .int .i64 x21)] (O7_55.take i) (((u7d2s a1 t2 A1 c1 x10 x18 A25 c25 x21 g3_ A3_ c3_ g4_ o4_) u).take i)
theorem u7d2v (a1 : Int) (a2 : Int) (t1 : Bool) (t2 : List (List Int)) (A1 : Option Addr) (c1 : Nat) (t3 : Int) (x6 : List (List Int)) (x7 : List (List Int)) (A8 : Option Addr) (c8 : Nat) (x8 : List (List Int)) (A9 : Option Addr) (c9 : Nat) (x9 : List (List Int)) (A10 : Option Addr) (c10 : Nat) (x10 : Int) (nx12 : Nat) (A1_ : Option Addr) (c1_ : Nat) (A15 : Option Addr) (c15 : Nat) (x18 : List Int) (A25 : Option Addr) (c25 : Nat) (x19 : List Int) (A26 : Option Addr) (c26 : Nat) (x20 : List Int) (A27 : Option Addr) (c27 : Nat) (x21 : Int) (g3_ : Nat) (A3_ : Option Addr) (c3_ : Nat) (g4_ : Nat) (o4_ : Nat) (u : Nat → Wt) : (u7d2q a1 a2 t1 t2 A1 c1 t3 x6 x7 A8 c8 x8 A9 c9 x9 A10 c10 x10 nx12 A1_ c1_ A15 c15 x18 A25 c25 x19 A26 c26 x20 A27 c27 x21 g3_ A3_ c3_ g4_ o4_ u).map (fun x => (x.1, x.2.1)) = some ((u7d2s a1 t2 A1 c1 x10 x18 A25 c25 x21 g3_ A3_ c3_ g4_ o4_) u, (u7d2f a1 a2 t1 t2 A1 c1 t3 x6 x7 A8 c8 x8 A9 c9 x9 A10 c10 x10 A15 c15 x18 A25 c25 x19 A26 c26 x20 A27 c27 x21 g3_ A3_ c3_ g4_ o4_ 14) u) := by kernel_rfl
theorem u7d2e (a1 : Int) (a2 : Int) (t1 : Bool) (t2 : List (List Int)) (A1 : Option Addr) (c1 : Nat) (t3 : Int) (x6 : List (List Int)) (x7 : List (List Int)) (A8 : Option Addr) (c8 : Nat) (x8 : List (List Int)) (A9 : Option Addr) (c9 : Nat) (x9 : List (List Int)) (A10 : Option Addr) (c10 : Nat) (x10 : Int) (nx12 : Nat) (A1_ : Option Addr) (c1_ : Nat) (A15 : Option Addr) (c15 : Nat) (x18 : List Int) (A25 : Option Addr) (c25 : Nat) (x19 : List Int) (A26 : Option Addr) (c26 : Nat) (x20 : List Int) (A27 : Option Addr) (c27 : Nat) (x21 : Int) (g3_ : Nat) (A3_ : Option Addr) (c3_ : Nat) (g4_ : Nat) (o4_ : Nat) (u : Nat → Wt) : (u7d2q a1 a2 t1 t2 A1 c1 t3 x6 x7 A8 c8 x8 A9 c9 x9 A10 c10 x10 nx12 A1_ c1_ A15 c15 x18 A25 c25 x19 A26 c26 x20 A27 c27 x21 g3_ A3_ c3_ g4_ o4_ u).map (fun x => x.2.2.map (·.1)) = (u7d2q a1 a2 t1 t2 A1 c1 t3 x6 x7 A8 c8 x8 A9 c9 x9 A10 c10 x10 nx12 A1_ c1_ A15 c15 x18 A25 c25 x19 A26 c26 x20 A27 c27 x21 g3_ A3_ c3_ g4_ o4_ u).map (fun x => x.2.2.map (·.2)) := by kernel_rfl
theorem armillarylaw22_AssignInvariance.calls (k : Nat) (I0 : Imm) (a0 : List (List Int)) (Ap0 : Option Addr) (cp0 : Nat) (a1 : Int) (a2 : Int) (w : World) (hI : I0.at_ w) (hlp0 : a0.length ≤ cp0) (hrp0 : Rd (Ty.slice (Ty.int .i64)) I0 Ap0 a0) (r : Bool) (h : armillarylaw22_AssignInvariance.f k a0 a1 a2 = some r) :
  Calls Try.prog 7 [.slice Ap0 a0.length cp0, .int .u8 a1, .int .u8 a2].toArray w fun e w' => ∃ v, e = .returned v ∧ armillarylaw22_AssignInvariance.Post I0 w r v w' := by
 have H : ((armillarylaw22_sanity.f k ).bind fun t1 => ((armillaryref22_Made.f k a0 12 12).bind fun t2 => ((armillarylaw22_optimum.f k t2).bind fun t3 => ((armillarylaw22_AssignInvariance.l1 a1 a2 t2 k ([] : List (List Int)) ([] : List (List Int)) ([] : List (List Int)) ([] : List (List Int)) 0).bind (armillarylaw22_AssignInvariance.k2 k a2 t1 t2 t3))))) = some r := h
 clear h
 refine calls_body Try.func7 (by kernel_rfl) 146 (by kernel_rfl) (by kernel_rfl) ⟨w, fun _ => False, I0⟩ I0 [] [(0, .slice Ap0 a0.length cp0), (1, .int .u8 a1), (2, .int .u8 a2)] (by kernel_rfl) (Sat.start w _ I0 hI) ?_
 generalize w.heap.size = nx0
 show OK _ K7_0 _ _ _ _ _ _ _ _
 refine OK.seq K7_1 K7_3 (by kernel_rfl) ?_
 refine OK.region 0 O7_1 (by kernel_rfl) ?_
 refine RL.simK (K' := [(0, .slice Ap0 a0.length cp0), (1, .int .u8 a1), (2, .int .u8 a2)]) [] (RFacts.nil _ _ _) 1 [.no] (by kernel_rfl) (by kernel_rfl) ?_
 refine RL.nil (by kernel_rfl) ?_
 refine QN.then_ ?_
 refine OK.seq K7_4 K7_6 (by kernel_rfl) ?_
 refine OK.region 1 O7_4 (by kernel_rfl) ?_
 obtain ⟨t1, hA1, H⟩ := Option.bind_eq_some_iff.mp H
 refine RL.callP 10 [] (some 20) (fun w => armillarylaw22_sanity.Post I0 w t1) (by kernel_rfl) (by kernel_rfl) (fun w hs => armillarylaw22_sanity.calls k I0  w hs.im  t1 hA1) ?_
 rintro w v w' hs ⟨I1, rfl, hg⟩
 have hi1 := hg.le
 refine RL.resume (X' := []) rfl (hs.call hg) ?_
 clear hs hg
 generalize w'.heap.size = nx1
 clear w w'
 refine RL.simK (K' := [(7, .bool t1), (0, .slice Ap0 a0.length cp0), (1, .int .u8 a1), (2, .int .u8 a2)]) [] (RFacts.nil _ _ _) 1 [.no] (by kernel_rfl) (by kernel_rfl) ?_
 refine RL.nil (by kernel_rfl) ?_
 refine QN.then_ ?_
 refine OK.seq K7_7 K7_9 (by kernel_rfl) ?_
 refine OK.region 2 O7_7 (by kernel_rfl) ?_
 refine RL.simK (K' := [(21, .slice Ap0 a0.length cp0), (7, .bool t1), (1, .int .u8 a1), (2, .int .u8 a2)]) [] (RFacts.nil _ _ _) 1 [.no] (by kernel_rfl) (by kernel_rfl) ?_
 obtain ⟨t2, hA2, H⟩ := Option.bind_eq_some_iff.mp H
 refine RL.callP 13 [.slice Ap0 a0.length cp0, .int .i64 12, .int .i64 12] (some 22) (fun w => armillaryref22_Made.Post I1 w t2) (by kernel_rfl) (by kernel_rfl) (fun w hs => armillaryref22_Made.calls k I1 a0 Ap0 cp0 12 12 w hs.im hlp0 (Rd.ext hi1 hrp0) t2 hA2) ?_
 rintro w v w' hs ⟨I2, A1, c1, cs1, rfl, hg, hp1⟩
 have hi2 := hg.le
 refine RL.resume (X' := [orow 24 1 A1 t2.length c1 cs1]) rfl (hs.call hg) ?_
 clear hs hg
 generalize w'.heap.size = nx2
 clear w w'
 refine RL.simK (K' := [(8, .slice A1 t2.length c1), (7, .bool t1), (1, .int .u8 a1), (2, .int .u8 a2)]) [] (RFacts.nil _ _ _) 1 [.no] (by kernel_rfl) (by kernel_rfl) ?_
 refine RL.nil (by kernel_rfl) ?_
 refine QN.then_ ?_
 refine OK.seq K7_10 K7_12 (by kernel_rfl) ?_
 refine OK.region 3 O7_10 (by kernel_rfl) ?_
 refine RL.simK (K' := [(23, .slice A1 t2.length c1), (8, .slice A1 t2.length c1), (7, .bool t1), (1, .int .u8 a1), (2, .int .u8 a2)]) [] (RFacts.nil _ _ _) 1 [.no] (by kernel_rfl) (by kernel_rfl) ?_
 obtain ⟨t3, hA3, H⟩ := Option.bind_eq_some_iff.mp H
 refine RL.callP 25 [.slice A1 t2.length c1] (some 24) (fun w v w' => ∃ I', Imm.le I2 I' ∧ armillarylaw22_optimum.Post I' w t3 v w') (by kernel_rfl) (by kernel_rfl) (fun w hs => ?_) ?_
 ·skip
  obtain ⟨JL1, hj1, hn1, hw1, hs⟩ := Sat.freeze (e := 24) (sz := 1) (S := A1) (n := t2.length) (cap := c1) (m := 0) hs (by kernel_rfl) hp1 rfl
  exact (armillarylaw22_optimum.calls k JL1 t2 A1 c1 _ hs.im hn1 hw1 t3 hA3).mono (fun e w' ⟨v, hv, hp⟩ => ⟨v, hv, JL1, hj1, hp⟩)
 rintro w v w' hs ⟨I', hle, J, rfl, hg⟩
 refine RL.resume (X' := [orow 24 1 A1 t2.length c1 cs1]) rfl (hs.call (hg.back hle)) ?_
 clear hs hg hle I' J
 generalize w'.heap.size = nx3
 clear w w'
 refine RL.simK (K' := [(9, .int .i64 t3), (8, .slice A1 t2.length c1), (7, .bool t1), (1, .int .u8 a1), (2, .int .u8 a2)]) [] (RFacts.nil _ _ _) 1 [.no] (by kernel_rfl) (by kernel_rfl) ?_
 refine RL.nil (by kernel_rfl) ?_
 refine QN.then_ ?_
 refine OK.seq K7_13 K7_15 (by kernel_rfl) ?_
 refine OK.region 4 O7_13 (by kernel_rfl) ?_
 refine RL.simP (K' := [(13, .slice (some ⟨nx3 + 3, 0, none⟩) 0 0), (12, .slice (some ⟨nx3 + 2, 0, none⟩) 0 0), (11, .slice (some ⟨nx3 + 1, 0, none⟩) 0 0), (10, .slice (some ⟨nx3, 0, none⟩) 0 0), (9, .int .i64 t3), (8, .slice A1 t2.length c1), (7, .bool t1), (1, .int .u8 a1), (2, .int .u8 a2)]) (nx' := nx3 + 4) (L' := [⟨nx3, [], 24⟩, ⟨nx3 + 1, [], 24⟩, ⟨nx3 + 2, [], 24⟩, ⟨nx3 + 3, [], 24⟩]) [] (RFacts.nil _ _ _) 8 [.no, .no, .no, .no, .no, .no, .no, .no] (by kernel_rfl) (by kernel_rfl) ?_
 refine RL.nil (by kernel_rfl) ?_
 refine QN.then_ ?_
 refine OK.seq K7_16 K7_74 (by kernel_rfl) ?_
 refine OK.seq K7_17 K7_19 (by kernel_rfl) ?_
 refine OK.region 5 O7_17 (by kernel_rfl) ?_
 refine RL.simK (K' := [(14, .int .i64 0), (13, .slice (some ⟨nx3 + 3, 0, none⟩) 0 0), (12, .slice (some ⟨nx3 + 2, 0, none⟩) 0 0), (11, .slice (some ⟨nx3 + 1, 0, none⟩) 0 0), (10, .slice (some ⟨nx3, 0, none⟩) 0 0), (9, .int .i64 t3), (8, .slice A1 t2.length c1), (7, .bool t1), (1, .int .u8 a1), (2, .int .u8 a2)]) [] (RFacts.nil _ _ _) 1 [.no] (by kernel_rfl) (by kernel_rfl) ?_
 refine RL.nil (by kernel_rfl) ?_
 refine QN.then_ ?_
 refine OK.join (fun K' I' _ L' X' => ∃ (x1 : List (List Int)) (x2 : List (List Int)) (x3 : List (List Int)) (x4 : List (List Int)) (A2 : Option Addr) (c2 : Nat) (cs2 : List Value) (A3 : Option Addr) (c3 : Nat) (cs3 : List Value) (A4 : Option Addr) (c4 : Nat) (cs4 : List Value) (A5 : Option Addr) (c5 : Nat) (cs5 : List Value), K' = [(2, .int .u8 a2), (7, .bool t1), (8, .slice A1 t2.length c1), (9, .int .i64 t3), (10, .slice A2 x1.length c2), (11, .slice A3 x2.length c3), (12, .slice A4 x3.length c4), (13, .slice A5 x4.length c5)] ∧ L' = [] ∧ X' = [orow 24 1 A1 t2.length c1 cs1, orow 24 1 A2 x1.length c2 cs2, orow 24 1 A3 x2.length c3 cs3, orow 24 1 A4 x3.length c4 cs4, orow 24 1 A5 x4.length c5 cs5] ∧ Imm.le I2 I' ∧ Reps (Ty.slice (Ty.int .i64)) I' x1 cs2 ∧ Reps (Ty.slice (Ty.int .i64)) I' x2 cs3 ∧ Reps (Ty.slice (Ty.int .i64)) I' x3 cs4 ∧ Reps (Ty.slice (Ty.int .i64)) I' x4 cs5 ∧ armillarylaw22_AssignInvariance.k2 k a2 t1 t2 t3 (x1, x2, x3, x4) = some r) ?_ ?_
 ·rintro _ I3 nx4 _ _ ⟨x1, x2, x3, x4, A2, c2, cs2, A3, c3, cs3, A4, c4, cs4, A5, c5, cs5, rfl, rfl, rfl, hi3, hp2, hp3, hp4, hp5, H⟩
  replace H : ((if t3 ≥ 0 then ((armillarylaw22_optimum.f k x1).bind fun t4 => (if t4 = t3 then ((armillarylaw22_optimum.f k x2).bind fun t5 => (if t5 = t3 then ((armillaryref22_Transpose.f k t2).bind fun t6 => ((armillarylaw22_optimum.f k t6).bind fun t7 => (if t7 = t3 then ((armillarylaw22_optimum.f k x4).bind fun t8 => ((armillarylaw22_optimum.f k x3).bind fun t9 => (if t8 = (W .i64 (t9 * (W .i64 (a2.tmod 16)))) then (some t1) else (some false)))) else (some false)))) else (some false))) else (some false))) else (some false)).bind (armillarylaw22_AssignInvariance.k1)) = some r := H
  refine QN.then_ ?_
  refine OK.seq K7_75 K7_77 (by kernel_rfl) ?_
  refine OK.join (fun K' I' _ L' X' => ∃ (x5 : Bool), K' = [(6, .bool x5)] ∧ L' = [] ∧ X' = [] ∧ Imm.le I3 I' ∧ armillarylaw22_AssignInvariance.k1 x5 = some r) ?_ ?_
  ·rintro _ I4 nx5 _ _ ⟨x5, rfl, rfl, rfl, hi4, H⟩
   replace H : (some x5) = some r := H
   refine QN.then_ ?_
   refine OK.ret (by kernel_rfl) ?_
   obtain rfl := Option.some.inj H
   refine QN.body rfl [] (RFacts.nil _ _ _) (.no) (.bool x5) (by kernel_rfl) (by kernel_rfl) (by kernel_rfl) ?_ _ (.inr rfl)
   exact fun w' hs' => ⟨_, rfl, I4, rfl, hs'.got _ .slnil⟩
  ·intro Q_1 hJ2 hQ2
   obtain ⟨y2, H, HK2⟩ := Option.bind_eq_some_iff.mp H
   refine OK.region 20 O7_75 (by kernel_rfl) ?_
   refine RL.simK (K' := [(113, .bool (decide (t3 ≥ 0))), (2, .int .u8 a2), (7, .bool t1), (8, .slice A1 t2.length c1), (9, .int .i64 t3), (10, .slice A2 x1.length c2), (11, .slice A3 x2.length c3), (12, .slice A4 x3.length c4), (13, .slice A5 x4.length c5)]) [] (RFacts.nil _ _ _) 3 [.no, .no, .no] (by kernel_rfl) (by kernel_rfl) ?_
   refine RL.cases (decide (t3 ≥ 0)) (fun hb => ?_) (fun hb => ?_)
   ·have hc := (of_decide_eq_true hb)
    rw [hb]
    rw [if_pos hc] at H; clear hb
    refine RL.simK (K' := [(114, .slice A2 x1.length c2), (113, .bool true), (2, .int .u8 a2), (7, .bool t1), (8, .slice A1 t2.length c1), (9, .int .i64 t3), (11, .slice A3 x2.length c3), (12, .slice A4 x3.length c4), (13, .slice A5 x4.length c5)]) [] (RFacts.nil _ _ _) 1 [.no] (by kernel_rfl) (by kernel_rfl) ?_
    obtain ⟨t4, hA4, H⟩ := Option.bind_eq_some_iff.mp H
    refine RL.callP 25 [.slice A2 x1.length c2] (some 115) (fun w v w' => ∃ I', Imm.le I3 I' ∧ armillarylaw22_optimum.Post I' w t4 v w') (by kernel_rfl) (by kernel_rfl) (fun w hs => ?_) ?_
    ·skip
     obtain ⟨JL2, hj2, hn2, hw2, hs⟩ := Sat.freeze (e := 24) (sz := 1) (S := A2) (n := x1.length) (cap := c2) (m := 1) hs (by kernel_rfl) hp2 rfl
     exact (armillarylaw22_optimum.calls k JL2 x1 A2 c2 _ hs.im hn2 hw2 t4 hA4).mono (fun e w' ⟨v, hv, hp⟩ => ⟨v, hv, JL2, hj2, hp⟩)
    rintro w v w' hs ⟨I', hle, J, rfl, hg⟩
    refine RL.resume (X' := [orow 24 1 A1 t2.length c1 cs1, orow 24 1 A2 x1.length c2 cs2, orow 24 1 A3 x2.length c3 cs3, orow 24 1 A4 x3.length c4 cs4, orow 24 1 A5 x4.length c5 cs5]) rfl (hs.call (hg.back hle)) ?_
    clear hs hg hle I' J
    generalize w'.heap.size = nx6
    clear w w'
    refine RL.simK (K' := [(119, .bool (t4 == t3)), (2, .int .u8 a2), (7, .bool t1), (8, .slice A1 t2.length c1), (9, .int .i64 t3), (11, .slice A3 x2.length c3), (12, .slice A4 x3.length c4), (13, .slice A5 x4.length c5)]) [] (RFacts.nil _ _ _) 4 [.no, .no, .no, .no] (by kernel_rfl) (by kernel_rfl) ?_
    refine RL.cases (t4 == t3) (fun hb => ?_) (fun hb => ?_)
    ·have hc := (beq_iff_eq.1 hb)
     rw [hb]
     rw [if_pos hc] at H; clear hb
     refine RL.simK (K' := [(120, .slice A3 x2.length c3), (119, .bool true), (2, .int .u8 a2), (7, .bool t1), (8, .slice A1 t2.length c1), (9, .int .i64 t3), (12, .slice A4 x3.length c4), (13, .slice A5 x4.length c5)]) [] (RFacts.nil _ _ _) 1 [.no] (by kernel_rfl) (by kernel_rfl) ?_
     obtain ⟨t5, hA5, H⟩ := Option.bind_eq_some_iff.mp H
     refine RL.callP 25 [.slice A3 x2.length c3] (some 121) (fun w v w' => ∃ I', Imm.le I3 I' ∧ armillarylaw22_optimum.Post I' w t5 v w') (by kernel_rfl) (by kernel_rfl) (fun w hs => ?_) ?_
     ·skip
      obtain ⟨JL3, hj3, hn3, hw3, hs⟩ := Sat.freeze (e := 24) (sz := 1) (S := A3) (n := x2.length) (cap := c3) (m := 2) hs (by kernel_rfl) hp3 rfl
      exact (armillarylaw22_optimum.calls k JL3 x2 A3 c3 _ hs.im hn3 hw3 t5 hA5).mono (fun e w' ⟨v, hv, hp⟩ => ⟨v, hv, JL3, hj3, hp⟩)
     rintro w v w' hs ⟨I', hle, J, rfl, hg⟩
     refine RL.resume (X' := [orow 24 1 A1 t2.length c1 cs1, orow 24 1 A2 x1.length c2 cs2, orow 24 1 A3 x2.length c3 cs3, orow 24 1 A4 x3.length c4 cs4, orow 24 1 A5 x4.length c5 cs5]) rfl (hs.call (hg.back hle)) ?_
     clear hs hg hle I' J
     generalize w'.heap.size = nx7
     clear w w'
     refine RL.simK (K' := [(125, .bool (t5 == t3)), (2, .int .u8 a2), (7, .bool t1), (8, .slice A1 t2.length c1), (9, .int .i64 t3), (12, .slice A4 x3.length c4), (13, .slice A5 x4.length c5)]) [] (RFacts.nil _ _ _) 4 [.no, .no, .no, .no] (by kernel_rfl) (by kernel_rfl) ?_
     refine RL.cases (t5 == t3) (fun hb => ?_) (fun hb => ?_)
     ·have hc := (beq_iff_eq.1 hb)
      rw [hb]
      rw [if_pos hc] at H; clear hb
      refine RL.simK (K' := [(126, .slice A1 t2.length c1), (125, .bool true), (2, .int .u8 a2), (7, .bool t1), (9, .int .i64 t3), (12, .slice A4 x3.length c4), (13, .slice A5 x4.length c5)]) [] (RFacts.nil _ _ _) 1 [.no] (by kernel_rfl) (by kernel_rfl) ?_
      refine RL.freeze (e := 24) (sz := 1) (S := A1) (n := t2.length) (cap := c1) 0 (by kernel_rfl) (Reps.ext hi3 hp1) rfl (fun I5 hi5 hl1 hr1 => ?_)
      skip
      obtain ⟨t6, hA6, H⟩ := Option.bind_eq_some_iff.mp H
      refine RL.callP 26 [.slice A1 t2.length c1] (some 127) (fun w => armillaryref22_Transpose.Post I5 w t6) (by kernel_rfl) (by kernel_rfl) (fun w hs => armillaryref22_Transpose.calls k I5 t2 A1 c1 w hs.im hl1 hr1 t6 hA6) ?_
      rintro w v w' hs ⟨I6, A6, c6, cs6, rfl, hg, hp6⟩
      have hi6 := hg.le
      refine RL.resume (X' := [orow 24 1 A2 x1.length c2 cs2, orow 24 1 A3 x2.length c3 cs3, orow 24 1 A4 x3.length c4 cs4, orow 24 1 A5 x4.length c5 cs5, orow 24 1 A6 t6.length c6 cs6]) rfl (hs.call hg) ?_
      clear hs hg
      generalize w'.heap.size = nx8
      clear w w'
      obtain ⟨t7, hA7, H⟩ := Option.bind_eq_some_iff.mp H
      refine RL.callP 25 [.slice A6 t6.length c6] (some 128) (fun w v w' => ∃ I', Imm.le I6 I' ∧ armillarylaw22_optimum.Post I' w t7 v w') (by kernel_rfl) (by kernel_rfl) (fun w hs => ?_) ?_
      ·skip
       obtain ⟨JL4, hj4, hn4, hw4, hs⟩ := Sat.freeze (e := 24) (sz := 1) (S := A6) (n := t6.length) (cap := c6) (m := 4) hs (by kernel_rfl) hp6 rfl
       exact (armillarylaw22_optimum.calls k JL4 t6 A6 c6 _ hs.im hn4 hw4 t7 hA7).mono (fun e w' ⟨v, hv, hp⟩ => ⟨v, hv, JL4, hj4, hp⟩)
      rintro w v w' hs ⟨I', hle, J, rfl, hg⟩
      refine RL.resume (X' := [orow 24 1 A2 x1.length c2 cs2, orow 24 1 A3 x2.length c3 cs3, orow 24 1 A4 x3.length c4 cs4, orow 24 1 A5 x4.length c5 cs5, orow 24 1 A6 t6.length c6 cs6]) rfl (hs.call (hg.back hle)) ?_
      clear hs hg hle I' J
      generalize w'.heap.size = nx9
      clear w w'
      refine RL.simK (K' := [(132, .bool (t7 == t3)), (2, .int .u8 a2), (7, .bool t1), (12, .slice A4 x3.length c4), (13, .slice A5 x4.length c5)]) [] (RFacts.nil _ _ _) 4 [.no, .no, .no, .no] (by kernel_rfl) (by kernel_rfl) ?_
      refine RL.cases (t7 == t3) (fun hb => ?_) (fun hb => ?_)
      ·have hc := (beq_iff_eq.1 hb)
       rw [hb]
       rw [if_pos hc] at H; clear hb
       refine RL.simK (K' := [(133, .slice A5 x4.length c5), (132, .bool true), (2, .int .u8 a2), (7, .bool t1), (12, .slice A4 x3.length c4)]) [] (RFacts.nil _ _ _) 1 [.no] (by kernel_rfl) (by kernel_rfl) ?_
       obtain ⟨t8, hA8, H⟩ := Option.bind_eq_some_iff.mp H
       refine RL.callP 25 [.slice A5 x4.length c5] (some 134) (fun w v w' => ∃ I', Imm.le I6 I' ∧ armillarylaw22_optimum.Post I' w t8 v w') (by kernel_rfl) (by kernel_rfl) (fun w hs => ?_) ?_
       ·skip
        obtain ⟨JL5, hj5, hn5, hw5, hs⟩ := Sat.freeze (e := 24) (sz := 1) (S := A5) (n := x4.length) (cap := c5) (m := 3) hs (by kernel_rfl) (Reps.ext (Imm.le_trans hi5 hi6) hp5) rfl
        exact (armillarylaw22_optimum.calls k JL5 x4 A5 c5 _ hs.im hn5 hw5 t8 hA8).mono (fun e w' ⟨v, hv, hp⟩ => ⟨v, hv, JL5, hj5, hp⟩)
       rintro w v w' hs ⟨I', hle, J, rfl, hg⟩
       refine RL.resume (X' := [orow 24 1 A2 x1.length c2 cs2, orow 24 1 A3 x2.length c3 cs3, orow 24 1 A4 x3.length c4 cs4, orow 24 1 A5 x4.length c5 cs5, orow 24 1 A6 t6.length c6 cs6]) rfl (hs.call (hg.back hle)) ?_
       clear hs hg hle I' J
       generalize w'.heap.size = nx10
       clear w w'
       refine RL.simK (K' := [(135, .slice A4 x3.length c4), (134, .int .i64 t8), (132, .bool true), (2, .int .u8 a2), (7, .bool t1)]) [] (RFacts.nil _ _ _) 1 [.no] (by kernel_rfl) (by kernel_rfl) ?_
       obtain ⟨t9, hA9, H⟩ := Option.bind_eq_some_iff.mp H
       refine RL.callP 25 [.slice A4 x3.length c4] (some 136) (fun w v w' => ∃ I', Imm.le I6 I' ∧ armillarylaw22_optimum.Post I' w t9 v w') (by kernel_rfl) (by kernel_rfl) (fun w hs => ?_) ?_
       ·skip
        obtain ⟨JL6, hj6, hn6, hw6, hs⟩ := Sat.freeze (e := 24) (sz := 1) (S := A4) (n := x3.length) (cap := c4) (m := 2) hs (by kernel_rfl) (Reps.ext (Imm.le_trans hi5 hi6) hp4) rfl
        exact (armillarylaw22_optimum.calls k JL6 x3 A4 c4 _ hs.im hn6 hw6 t9 hA9).mono (fun e w' ⟨v, hv, hp⟩ => ⟨v, hv, JL6, hj6, hp⟩)
       rintro w v w' hs ⟨I', hle, J, rfl, hg⟩
       refine RL.resume (X' := [orow 24 1 A2 x1.length c2 cs2, orow 24 1 A3 x2.length c3 cs3, orow 24 1 A4 x3.length c4 cs4, orow 24 1 A5 x4.length c5 cs5, orow 24 1 A6 t6.length c6 cs6]) rfl (hs.call (hg.back hle)) ?_
       clear hs hg hle I' J
       generalize w'.heap.size = nx11
       clear w w'
       refine RL.simK (K' := [(143, .bool (t8 == (W .i64 (t9 * (W .i64 (a2.tmod 16)))))), (7, .bool t1)]) [] (RFacts.nil _ _ _) 7 [.no, .no, .no, .no, .no, .no, .no] (by kernel_rfl) (by kernel_rfl) ?_
       refine RL.cases (t8 == (W .i64 (t9 * (W .i64 (a2.tmod 16))))) (fun hb => ?_) (fun hb => ?_)
       ·have hc := (beq_iff_eq.1 hb)
        rw [hb]
        rw [if_pos hc] at H; clear hb
        refine RL.simK (K' := [(6, .bool t1)]) [] (RFacts.nil _ _ _) 3 [.no, .no, .no] (by kernel_rfl) (by kernel_rfl) ?_
        refine RL.nil (by kernel_rfl) ?_
        obtain rfl := Option.some.inj H
        refine QN.sel (K' := [(6, .bool t1)]) (L' := []) [] (by kernel_rfl) (by kernel_rfl) .slnil ?_
        refine QN.norm (X' := []) rfl rfl rfl (by kernel_rfl) ?_
        exact hJ2 _ _ _ _ _ ⟨t1, rfl, rfl, rfl, (Imm.le_trans hi5 hi6), HK2⟩
       ·have hc := (beq_eq_false_iff_ne.1 hb)
        rw [hb]
        rw [if_neg hc] at H; clear hb
        refine RL.simK (K' := [(6, .bool false)]) [] (RFacts.nil _ _ _) 3 [.no, .no, .no] (by kernel_rfl) (by kernel_rfl) ?_
        refine RL.nil (by kernel_rfl) ?_
        obtain rfl := Option.some.inj H
        refine QN.sel (K' := [(6, .bool false)]) (L' := []) [] (by kernel_rfl) (by kernel_rfl) .slnil ?_
        refine QN.norm (X' := []) rfl rfl rfl (by kernel_rfl) ?_
        exact hJ2 _ _ _ _ _ ⟨false, rfl, rfl, rfl, (Imm.le_trans hi5 hi6), HK2⟩
      ·have hc := (beq_eq_false_iff_ne.1 hb)
       rw [hb]
       rw [if_neg hc] at H; clear hb
       refine RL.simK (K' := [(6, .bool false)]) [] (RFacts.nil _ _ _) 14 [.no, .no, .no, .no, .no, .no, .no, .no, .no, .no, .no, .no, .no, .no] (by kernel_rfl) (by kernel_rfl) ?_
       refine RL.nil (by kernel_rfl) ?_
       obtain rfl := Option.some.inj H
       refine QN.sel (K' := [(6, .bool false)]) (L' := []) [] (by kernel_rfl) (by kernel_rfl) .slnil ?_
       refine QN.norm (X' := []) rfl rfl rfl (by kernel_rfl) ?_
       exact hJ2 _ _ _ _ _ ⟨false, rfl, rfl, rfl, (Imm.le_trans hi5 hi6), HK2⟩
     ·have hc := (beq_eq_false_iff_ne.1 hb)
      rw [hb]
      rw [if_neg hc] at H; clear hb
      refine RL.simK (K' := [(6, .bool false)]) [] (RFacts.nil _ _ _) 21 [.no, .no, .no, .no, .no, .no, .no, .no, .no, .no, .no, .no, .no, .no, .no, .no, .no, .no, .no, .no, .no] (by kernel_rfl) (by kernel_rfl) ?_
      refine RL.nil (by kernel_rfl) ?_
      obtain rfl := Option.some.inj H
      refine QN.sel (K' := [(6, .bool false)]) (L' := []) [] (by kernel_rfl) (by kernel_rfl) .slnil ?_
      refine QN.norm (X' := []) rfl rfl rfl (by kernel_rfl) ?_
      exact hJ2 _ _ _ _ _ ⟨false, rfl, rfl, rfl, (Imm.le_refl _), HK2⟩
    ·have hc := (beq_eq_false_iff_ne.1 hb)
     rw [hb]
     rw [if_neg hc] at H; clear hb
     refine RL.simK (K' := [(6, .bool false)]) [] (RFacts.nil _ _ _) 27 [.no, .no, .no, .no, .no, .no, .no, .no, .no, .no, .no, .no, .no, .no, .no, .no, .no, .no, .no, .no, .no, .no, .no, .no, .no, .no, .no] (by kernel_rfl) (by kernel_rfl) ?_
     refine RL.nil (by kernel_rfl) ?_
     obtain rfl := Option.some.inj H
     refine QN.sel (K' := [(6, .bool false)]) (L' := []) [] (by kernel_rfl) (by kernel_rfl) .slnil ?_
     refine QN.norm (X' := []) rfl rfl rfl (by kernel_rfl) ?_
     exact hJ2 _ _ _ _ _ ⟨false, rfl, rfl, rfl, (Imm.le_refl _), HK2⟩
   ·have hc := (of_decide_eq_false hb)
    rw [hb]
    rw [if_neg hc] at H; clear hb
    refine RL.simK (K' := [(6, .bool false)]) [] (RFacts.nil _ _ _) 33 (.no :: .no :: .no :: .no :: .no :: .no :: .no :: .no :: .no :: .no :: .no :: .no :: .no :: .no :: .no :: .no :: .no :: .no :: .no :: .no :: .no :: .no :: .no :: .no :: .no :: .no :: .no :: .no :: .no :: .no :: .no :: .no :: .no :: []) (by kernel_rfl) (by kernel_rfl) ?_
    refine RL.nil (by kernel_rfl) ?_
    obtain rfl := Option.some.inj H
    refine QN.sel (K' := [(6, .bool false)]) (L' := []) [] (by kernel_rfl) (by kernel_rfl) .slnil ?_
    refine QN.norm (X' := []) rfl rfl rfl (by kernel_rfl) ?_
    exact hJ2 _ _ _ _ _ ⟨false, rfl, rfl, rfl, (Imm.le_refl _), HK2⟩
 ·intro Q_2 hJ1 hQ1
  obtain ⟨y1, H, HK1⟩ := Option.bind_eq_some_iff.mp H
  refine OK.block 0 K7_20 (by kernel_rfl) ?_
  refine OK.toRow (b := ⟨nx3, [], 24⟩) 0 0 1 (by kernel_rfl) (by kernel_rfl) (by decide) ?_
  have hp28 : Reps (Ty.slice (Ty.int .i64)) I2 ([] : List (List Int)) [] := rfl
  refine OK.norm (L' := [⟨nx3 + 1, [], 24⟩, ⟨nx3 + 2, [], 24⟩, ⟨nx3 + 3, [], 24⟩]) (X' := [orow 24 1 A1 t2.length c1 cs1, orow 24 1 (some ⟨nx3, 0, none⟩) (([] : List (List Int)).length) 0 []]) rfl rfl (by kernel_rfl) (by kernel_rfl) ?_
  refine OK.toRow (b := ⟨nx3 + 1, [], 24⟩) 0 0 1 (by kernel_rfl) (by kernel_rfl) (by decide) ?_
  have hp29 : Reps (Ty.slice (Ty.int .i64)) I2 ([] : List (List Int)) [] := rfl
  refine OK.norm (L' := [⟨nx3 + 2, [], 24⟩, ⟨nx3 + 3, [], 24⟩]) (X' := [orow 24 1 A1 t2.length c1 cs1, orow 24 1 (some ⟨nx3, 0, none⟩) (([] : List (List Int)).length) 0 [], orow 24 1 (some ⟨nx3 + 1, 0, none⟩) (([] : List (List Int)).length) 0 []]) rfl rfl (by kernel_rfl) (by kernel_rfl) ?_
  refine OK.toRow (b := ⟨nx3 + 2, [], 24⟩) 0 0 1 (by kernel_rfl) (by kernel_rfl) (by decide) ?_
  have hp30 : Reps (Ty.slice (Ty.int .i64)) I2 ([] : List (List Int)) [] := rfl
  refine OK.norm (L' := [⟨nx3 + 3, [], 24⟩]) (X' := [orow 24 1 A1 t2.length c1 cs1, orow 24 1 (some ⟨nx3, 0, none⟩) (([] : List (List Int)).length) 0 [], orow 24 1 (some ⟨nx3 + 1, 0, none⟩) (([] : List (List Int)).length) 0 [], orow 24 1 (some ⟨nx3 + 2, 0, none⟩) (([] : List (List Int)).length) 0 []]) rfl rfl (by kernel_rfl) (by kernel_rfl) ?_
  refine OK.toRow (b := ⟨nx3 + 3, [], 24⟩) 0 0 1 (by kernel_rfl) (by kernel_rfl) (by decide) ?_
  have hp31 : Reps (Ty.slice (Ty.int .i64)) I2 ([] : List (List Int)) [] := rfl
  refine OK.norm (L' := []) (X' := [orow 24 1 A1 t2.length c1 cs1, orow 24 1 (some ⟨nx3, 0, none⟩) (([] : List (List Int)).length) 0 [], orow 24 1 (some ⟨nx3 + 1, 0, none⟩) (([] : List (List Int)).length) 0 [], orow 24 1 (some ⟨nx3 + 2, 0, none⟩) (([] : List (List Int)).length) 0 [], orow 24 1 (some ⟨nx3 + 3, 0, none⟩) (([] : List (List Int)).length) 0 []]) rfl rfl (by kernel_rfl) (by kernel_rfl) ?_
  refine OK.sub (K' := [(1, .int .u8 a1), (2, .int .u8 a2), (7, .bool t1), (8, .slice A1 t2.length c1), (9, .int .i64 t3), (10, .slice (some ⟨nx3, 0, none⟩) 0 0), (11, .slice (some ⟨nx3 + 1, 0, none⟩) 0 0), (12, .slice (some ⟨nx3 + 2, 0, none⟩) 0 0), (13, .slice (some ⟨nx3 + 3, 0, none⟩) 0 0), (14, .int .i64 0)]) (L' := []) (by kernel_rfl) .slnil (.refl _) ?_
  refine OK.loopInv K7_21 (by kernel_rfl) (fun n_ K' I' _ L' X' => ∃ (x6 : List (List Int)) (x7 : List (List Int)) (x8 : List (List Int)) (x9 : List (List Int)) (x10 : Int) (A7 : Option Addr) (c7 : Nat) (cs7 : List Value) (A8 : Option Addr) (c8 : Nat) (cs8 : List Value) (A9 : Option Addr) (c9 : Nat) (cs9 : List Value) (A10 : Option Addr) (c10 : Nat) (cs10 : List Value), K' = [(1, .int .u8 a1), (2, .int .u8 a2), (7, .bool t1), (8, .slice A1 t2.length c1), (9, .int .i64 t3), (10, .slice A7 x6.length c7), (11, .slice A8 x7.length c8), (12, .slice A9 x8.length c9), (13, .slice A10 x9.length c10), (14, .int .i64 x10)] ∧ L' = [] ∧ X' = [orow 24 1 A1 t2.length c1 cs1, orow 24 1 A7 x6.length c7 cs7, orow 24 1 A8 x7.length c8 cs8, orow 24 1 A9 x8.length c9 cs9, orow 24 1 A10 x9.length c10 cs10] ∧ Imm.le I2 I' ∧ Reps (Ty.slice (Ty.int .i64)) I' x6 cs7 ∧ Reps (Ty.slice (Ty.int .i64)) I' x7 cs8 ∧ Reps (Ty.slice (Ty.int .i64)) I' x8 cs9 ∧ Reps (Ty.slice (Ty.int .i64)) I' x9 cs10 ∧ armillarylaw22_AssignInvariance.l1 a1 a2 t2 n_ x6 x7 x8 x9 x10 = some y1) k ⟨([] : List (List Int)), ([] : List (List Int)), ([] : List (List Int)), ([] : List (List Int)), 0, (some ⟨nx3, 0, none⟩), 0, [], (some ⟨nx3 + 1, 0, none⟩), 0, [], (some ⟨nx3 + 2, 0, none⟩), 0, [], (some ⟨nx3 + 3, 0, none⟩), 0, [], rfl, rfl, rfl, (Imm.le_refl _), hp28, hp29, hp30, hp31, H⟩ ?_ ?_
  ·rintro _ _ _ _ _ ⟨x6, x7, x8, x9, x10, A7, c7, cs7, A8, c8, cs8, A9, c9, cs9, A10, c10, cs10, rfl, rfl, rfl, _, hp7, hp8, hp9, hp10, H⟩
   cases H
  ·rintro kq1 _ I7 nx12 _ _ ⟨x6, x7, x8, x9, x10, A7, c7, cs7, A8, c8, cs8, A9, c9, cs9, A10, c10, cs10, rfl, rfl, rfl, hi7, hp7, hp8, hp9, hp10, H⟩ Q_l1 hJ3 hQ3
   replace H : (if x10 < (t2.length : Int) then ((if 0 ≤ (W .i64 ((W .i64 ((t2.length : Int) - 1)) - x10)) then (if (W .i64 ((W .i64 ((t2.length : Int) - 1)) - x10)) < (t2.length : Int) then (if (x6.length + [(t2.getD (W .i64 ((W .i64 ((t2.length : Int) - 1)) - x10)).toNat [])].length) * 24 ≤ 140737488355328 then (if 0 ≤ x10 then (if x10 < (t2.length : Int) then (if 0 ≤ ((t2.getD (x10).toNat []).length : Int) then (if ((t2.getD (x10).toNat []).length : Int) ≤ 35184372088832 then (if 0 ≤ ((t2.getD (x10).toNat []).length : Int) then (if ((t2.getD (x10).toNat []).length : Int) ≤ 35184372088832 then (if 0 ≤ ((t2.getD (x10).toNat []).length : Int) then (if ((t2.getD (x10).toNat []).length : Int) ≤ 35184372088832 then ((armillarylaw22_AssignInvariance.l2 a1 a2 t2 x10 kq1 (List.replicate (((t2.getD (x10).toNat []).length : Int)).toNat (0 : Int)) (List.replicate (((t2.getD (x10).toNat []).length : Int)).toNat (0 : Int)) (List.replicate (((t2.getD (x10).toNat []).length : Int)).toNat (0 : Int)) 0).bind (armillarylaw22_AssignInvariance.k4 t2 x6 x7 x8 x9 x10)) else none) else none) else none) else none) else none) else none) else none) else none) else none) else none) else none).bind (fun (x11, x12, x13, x14) => (armillarylaw22_AssignInvariance.l1 a1 a2 t2 kq1 x11 x12 x13 x14 (W .i64 (x10 + 1))))) else (some (x6, x7, x8, x9))) = some y1 := H
   refine OK.seq K7_22 K7_28 (by kernel_rfl) ?_
   refine OK.seq K7_23 K7_25 (by kernel_rfl) ?_
   refine OK.region 6 O7_23 (by kernel_rfl) ?_
   refine RL.simK (K' := [(32, .bool (decide (x10 < (t2.length : Int)))), (1, .int .u8 a1), (2, .int .u8 a2), (7, .bool t1), (8, .slice A1 t2.length c1), (9, .int .i64 t3), (10, .slice A7 x6.length c7), (11, .slice A8 x7.length c8), (12, .slice A9 x8.length c9), (13, .slice A10 x9.length c10), (14, .int .i64 x10)]) [] (RFacts.nil _ _ _) 4 [.no, .no, .no, .no] (by kernel_rfl) (by kernel_rfl) ?_
   refine RL.nil (by kernel_rfl) ?_
   refine QN.then_ ?_
   refine OK.cond (.tmp 32) K7_26 K7_27 (decide (x10 < (t2.length : Int))) (by kernel_rfl) (by kernel_rfl) (by kernel_rfl) (fun hb => ?_) (fun hb => ?_)
   ·skip
    have hc := (of_decide_eq_true hb)
    rw [if_pos hc] at H
    clear hb
    refine OK.skip (by kernel_rfl) ?_
    refine QN.then_ ?_
    refine OK.seq K7_29 K7_72 (by kernel_rfl) ?_
    refine OK.join (fun K' I' _ L' X' => ∃ (x11 : List (List Int)) (x12 : List (List Int)) (x13 : List (List Int)) (x14 : List (List Int)) (A11 : Option Addr) (c11 : Nat) (cs11 : List Value) (A12 : Option Addr) (c12 : Nat) (cs12 : List Value) (A13 : Option Addr) (c13 : Nat) (cs13 : List Value) (A14 : Option Addr) (c14 : Nat) (cs14 : List Value), K' = [(1, .int .u8 a1), (2, .int .u8 a2), (7, .bool t1), (8, .slice A1 t2.length c1), (9, .int .i64 t3), (10, .slice A11 x11.length c11), (11, .slice A12 x12.length c12), (12, .slice A13 x13.length c13), (13, .slice A14 x14.length c14), (14, .int .i64 x10)] ∧ L' = [] ∧ X' = [orow 24 1 A1 t2.length c1 cs1, orow 24 1 A11 x11.length c11 cs11, orow 24 1 A12 x12.length c12 cs12, orow 24 1 A13 x13.length c13 cs13, orow 24 1 A14 x14.length c14 cs14] ∧ Imm.le I7 I' ∧ Reps (Ty.slice (Ty.int .i64)) I' x11 cs11 ∧ Reps (Ty.slice (Ty.int .i64)) I' x12 cs12 ∧ Reps (Ty.slice (Ty.int .i64)) I' x13 cs13 ∧ Reps (Ty.slice (Ty.int .i64)) I' x14 cs14 ∧ (armillarylaw22_AssignInvariance.l1 a1 a2 t2 kq1 x11 x12 x13 x14 (W .i64 (x10 + 1))) = some y1) ?_ ?_
    ·rintro _ I8 nx13 _ _ ⟨x11, x12, x13, x14, A11, c11, cs11, A12, c12, cs12, A13, c13, cs13, A14, c14, cs14, rfl, rfl, rfl, hi8, hp11, hp12, hp13, hp14, H⟩
     replace H : (armillarylaw22_AssignInvariance.l1 a1 a2 t2 kq1 x11 x12 x13 x14 (W .i64 (x10 + 1))) = some y1 := H
     refine QN.then_ ?_
     refine OK.region 7 O7_72 (by kernel_rfl) ?_
     refine RL.simK (K' := [(14, .int .i64 (W .i64 (x10 + 1))), (1, .int .u8 a1), (2, .int .u8 a2), (7, .bool t1), (8, .slice A1 t2.length c1), (9, .int .i64 t3), (10, .slice A11 x11.length c11), (11, .slice A12 x12.length c12), (12, .slice A13 x13.length c13), (13, .slice A14 x14.length c14)]) [] (RFacts.nil _ _ _) 3 [.no, .no, .no] (by kernel_rfl) (by kernel_rfl) ?_
     refine RL.nil (by kernel_rfl) ?_
     refine QN.sub (K' := [(1, .int .u8 a1), (2, .int .u8 a2), (7, .bool t1), (8, .slice A1 t2.length c1), (9, .int .i64 t3), (10, .slice A11 x11.length c11), (11, .slice A12 x12.length c12), (12, .slice A13 x13.length c13), (13, .slice A14 x14.length c14), (14, .int .i64 (W .i64 (x10 + 1)))]) (L' := []) (by kernel_rfl) .slnil (.refl _) ?_
     exact hJ3 _ _ _ _ _ ⟨x11, x12, x13, x14, W .i64 (x10 + 1), A11, c11, cs11, A12, c12, cs12, A13, c13, cs13, A14, c14, cs14, rfl, rfl, rfl, (Imm.le_trans hi7 hi8), hp11, hp12, hp13, hp14, H⟩
    ·intro Q_3 hJ4 hQ4
     obtain ⟨y3, H, HK3⟩ := Option.bind_eq_some_iff.mp H
     refine OK.block 1 K7_30 (by kernel_rfl) ?_
     refine OK.seq K7_31 K7_33 (by kernel_rfl) ?_
     refine OK.region 8 O7_31 (by kernel_rfl) ?_
     refine RL.simK (K' := [(41, .int .i64 (W .i64 ((W .i64 ((t2.length : Int) - 1)) - x10))), (36, .slice A1 t2.length c1), (35, .slice A7 x6.length c7), (1, .int .u8 a1), (2, .int .u8 a2), (7, .bool t1), (8, .slice A1 t2.length c1), (9, .int .i64 t3), (10, .slice A7 x6.length c7), (11, .slice A8 x7.length c8), (12, .slice A9 x8.length c9), (13, .slice A10 x9.length c10), (14, .int .i64 x10)]) [] (RFacts.nil _ _ _) 7 [.no, .no, .no, .no, .no, .no, .no] (by kernel_rfl) (by kernel_rfl) ?_
     by_cases hib0 : 0 ≤ (W .i64 ((W .i64 ((t2.length : Int) - 1)) - x10))
     case neg => rw [if_neg hib0] at H; cases H
     rw [if_pos hib0] at H
     by_cases hib1 : (W .i64 ((W .i64 ((t2.length : Int) - 1)) - x10)) < (t2.length : Int)
     case neg => rw [if_neg hib1] at H; cases H
     rw [if_pos hib1] at H
     have hx01_ := hib0; have hx11_ := hib1
     refine RL.ownAddr (e := 24) (sz := 1) (S := A1) (n := t2.length) (cap := c1) (cs := cs1) 0 (by kernel_rfl) (by omega) (fun g1_ hA1_ => ?_)
     obtain ⟨A1_, c1_, hl1_, hr1_, hc1_⟩ := Ty.slice_own (Reps.ext hi7 hp1) (W .i64 ((W .i64 ((t2.length : Int) - 1)) - x10)) hib0 hib1
     refine RL.idx 1 .i64 (W .i64 ((W .i64 ((t2.length : Int) - 1)) - x10)) hA1_ t2.length c1 (some 42) (by kernel_rfl) (by kernel_rfl) (T := 22) (e := 24) (by kernel_rfl) (by kernel_rfl) hib0 hib1 (K' := [(42, .pointer (some ⟨g1_, 0 + (W .i64 ((W .i64 ((t2.length : Int) - 1)) - x10)).toNat * 1, none⟩)), (41, .int .i64 (W .i64 ((W .i64 ((t2.length : Int) - 1)) - x10))), (36, .slice A1 t2.length c1), (35, .slice A7 x6.length c7), (1, .int .u8 a1), (2, .int .u8 a2), (7, .bool t1), (8, .slice A1 t2.length c1), (9, .int .i64 t3), (10, .slice A7 x6.length c7), (11, .slice A8 x7.length c8), (12, .slice A9 x8.length c9), (13, .slice A10 x9.length c10), (14, .int .i64 x10)]) (by kernel_rfl) ?_
     refine RL.simP (K' := [(44, .slice (some ⟨nx12, 0, none⟩) 1 1), (35, .slice A7 x6.length c7), (1, .int .u8 a1), (2, .int .u8 a2), (7, .bool t1), (8, .slice A1 t2.length c1), (9, .int .i64 t3), (10, .slice A7 x6.length c7), (11, .slice A8 x7.length c8), (12, .slice A9 x8.length c9), (13, .slice A10 x9.length c10), (14, .int .i64 x10)]) (nx' := nx12 + 1) (L' := [⟨nx12, [.slice A1_ ((t2.getD (W .i64 ((W .i64 ((t2.length : Int) - 1)) - x10)).toNat []).length) c1_], 24⟩]) [(⟨g1_, 0 + (W .i64 ((W .i64 ((t2.length : Int) - 1)) - x10)).toNat * 1, none⟩, .slice A1_ ((t2.getD (W .i64 ((W .i64 ((t2.length : Int) - 1)) - x10)).toNat []).length) c1_)] (RFacts.ownQ (e := 24) (sz := 1) (S := A1) (n := t2.length) (cap := c1) (cs := cs1) 0 (by kernel_rfl) hA1_ (0 + (W .i64 ((W .i64 ((t2.length : Int) - 1)) - x10)).toNat * 1) ((W .i64 ((W .i64 ((t2.length : Int) - 1)) - x10)).toNat * 1 + 0) (by omega) (hc1_ 0 _ rfl) (RFacts.nil _ _ _)) 2 [.r 0, .no] (by kernel_rfl) (by kernel_rfl) ?_
     by_cases hz1 : (x6.length + [(t2.getD (W .i64 ((W .i64 ((t2.length : Int) - 1)) - x10)).toNat [])].length) * 24 ≤ 140737488355328
     case neg => rw [if_neg hz1] at H; cases H
     rw [if_pos hz1] at H
     refine RL.appendB (T := 22) (e := 24) (S := A7) 1 24 22 c7 0 1 nx12 24 cs7 [.slice A1_ ((t2.getD (W .i64 ((W .i64 ((t2.length : Int) - 1)) - x10)).toNat []).length) c1_] (Ty.slice (Ty.int .i64)) x6 [(t2.getD (W .i64 ((W .i64 ((t2.length : Int) - 1)) - x10)).toNat [])] 1 (some 45) (by kernel_rfl) (by kernel_rfl) (by kernel_rfl) (by kernel_rfl) (by kernel_rfl) (by decide) (by kernel_rfl) hp7 (by kernel_rfl) ⟨_, _, rfl, ⟨_, _, rfl, hl1_, hr1_⟩, rfl⟩ hz1 (by omega) (fun A15 c15 nx14 cs15 hp15 => ?_)
     refine RL.sub (K' := [(45, .slice A15 ((x6 ++ [(t2.getD (W .i64 ((W .i64 ((t2.length : Int) - 1)) - x10)).toNat [])]).length) c15), (44, .slice (some ⟨nx12, 0, none⟩) 1 1), (1, .int .u8 a1), (2, .int .u8 a2), (7, .bool t1), (8, .slice A1 t2.length c1), (9, .int .i64 t3), (11, .slice A8 x7.length c8), (12, .slice A9 x8.length c9), (13, .slice A10 x9.length c10), (14, .int .i64 x10)]) (L' := [⟨nx12, [.slice A1_ ((t2.getD (W .i64 ((W .i64 ((t2.length : Int) - 1)) - x10)).toNat []).length) c1_], 24⟩]) (X' := [orow 24 1 A1 t2.length c1 cs1, orow 24 1 A15 ((x6 ++ [(t2.getD (W .i64 ((W .i64 ((t2.length : Int) - 1)) - x10)).toNat [])]).length) c15 cs15, orow 24 1 A8 x7.length c8 cs8, orow 24 1 A9 x8.length c9 cs9, orow 24 1 A10 x9.length c10 cs10]) (by kernel_rfl) (.refl _) (.refl _) ?_
     refine RL.simK (K' := [(10, .slice A15 ((x6 ++ [(t2.getD (W .i64 ((W .i64 ((t2.length : Int) - 1)) - x10)).toNat [])]).length) c15), (1, .int .u8 a1), (2, .int .u8 a2), (7, .bool t1), (8, .slice A1 t2.length c1), (9, .int .i64 t3), (11, .slice A8 x7.length c8), (12, .slice A9 x8.length c9), (13, .slice A10 x9.length c10), (14, .int .i64 x10)]) [] (RFacts.nil _ _ _) 1 [.no] (by kernel_rfl) (by kernel_rfl) ?_
     refine RL.nil (by kernel_rfl) ?_
     refine QN.then_ ?_
     refine OK.seq K7_34 K7_36 (by kernel_rfl) ?_
     refine OK.region 9 O7_34 (by kernel_rfl) ?_
     refine RL.simK (K' := [(47, .int .i64 x10), (46, .slice A1 t2.length c1), (10, .slice A15 ((x6 ++ [(t2.getD (W .i64 ((W .i64 ((t2.length : Int) - 1)) - x10)).toNat [])]).length) c15), (1, .int .u8 a1), (2, .int .u8 a2), (7, .bool t1), (8, .slice A1 t2.length c1), (9, .int .i64 t3), (11, .slice A8 x7.length c8), (12, .slice A9 x8.length c9), (13, .slice A10 x9.length c10), (14, .int .i64 x10)]) [] (RFacts.nil _ _ _) 2 [.no, .no] (by kernel_rfl) (by kernel_rfl) ?_
     by_cases hib0 : 0 ≤ x10
     case neg => rw [if_neg hib0] at H; cases H
     rw [if_pos hib0] at H
     by_cases hib1 : x10 < (t2.length : Int)
     case neg => rw [if_neg hib1] at H; cases H
     rw [if_pos hib1] at H
     have hx02_ := hib0; have hx12_ := hib1
     refine RL.ownAddr (e := 24) (sz := 1) (S := A1) (n := t2.length) (cap := c1) (cs := cs1) 0 (by kernel_rfl) (by omega) (fun g2_ hA2_ => ?_)
     obtain ⟨A2_, c2_, hl2_, hr2_, hc2_⟩ := Ty.slice_own (Reps.ext hi7 hp1) x10 hib0 hib1
     refine RL.idx 1 .i64 x10 hA2_ t2.length c1 (some 48) (by kernel_rfl) (by kernel_rfl) (T := 22) (e := 24) (by kernel_rfl) (by kernel_rfl) hib0 hib1 (K' := [(48, .pointer (some ⟨g2_, 0 + (x10).toNat * 1, none⟩)), (47, .int .i64 x10), (46, .slice A1 t2.length c1), (10, .slice A15 ((x6 ++ [(t2.getD (W .i64 ((W .i64 ((t2.length : Int) - 1)) - x10)).toNat [])]).length) c15), (1, .int .u8 a1), (2, .int .u8 a2), (7, .bool t1), (8, .slice A1 t2.length c1), (9, .int .i64 t3), (11, .slice A8 x7.length c8), (12, .slice A9 x8.length c9), (13, .slice A10 x9.length c10), (14, .int .i64 x10)]) (by kernel_rfl) ?_
     refine RL.simK (K' := [(15, .int .i64 ((t2.getD (x10).toNat []).length : Int)), (10, .slice A15 ((x6 ++ [(t2.getD (W .i64 ((W .i64 ((t2.length : Int) - 1)) - x10)).toNat [])]).length) c15), (1, .int .u8 a1), (2, .int .u8 a2), (7, .bool t1), (8, .slice A1 t2.length c1), (9, .int .i64 t3), (11, .slice A8 x7.length c8), (12, .slice A9 x8.length c9), (13, .slice A10 x9.length c10), (14, .int .i64 x10)]) [(⟨g2_, 0 + (x10).toNat * 1, none⟩, .slice A2_ ((t2.getD (x10).toNat []).length) c2_)] (RFacts.ownQ (e := 24) (sz := 1) (S := A1) (n := t2.length) (cap := c1) (cs := cs1) 0 (by kernel_rfl) hA2_ (0 + (x10).toNat * 1) ((x10).toNat * 1 + 0) (by omega) (hc2_ 0 _ rfl) (RFacts.nil _ _ _)) 3 [.r 0, .no, .no] (by kernel_rfl) (by kernel_rfl) ?_
     refine RL.nil (by kernel_rfl) ?_
     refine QN.then_ ?_
     refine OK.seq K7_37 K7_39 (by kernel_rfl) ?_
     by_cases hm1 : 0 ≤ ((t2.getD (x10).toNat []).length : Int)
     case neg => rw [if_neg hm1] at H; cases H
     rw [if_pos hm1] at H
     by_cases hm2 : ((t2.getD (x10).toNat []).length : Int) ≤ 35184372088832
     case neg => rw [if_neg hm2] at H; cases H
     rw [if_pos hm2] at H
     by_cases hm3 : 0 ≤ ((t2.getD (x10).toNat []).length : Int)
     case neg => rw [if_neg hm3] at H; cases H
     rw [if_pos hm3] at H
     by_cases hm4 : ((t2.getD (x10).toNat []).length : Int) ≤ 35184372088832
     case neg => rw [if_neg hm4] at H; cases H
     rw [if_pos hm4] at H
     by_cases hm5 : 0 ≤ ((t2.getD (x10).toNat []).length : Int)
     case neg => rw [if_neg hm5] at H; cases H
     rw [if_pos hm5] at H
     by_cases hm6 : ((t2.getD (x10).toNat []).length : Int) ≤ 35184372088832
     case neg => rw [if_neg hm6] at H; cases H
     rw [if_pos hm6] at H
     refine OK.drawnC 10 8 O7_37 a7_37n (by kernel_rfl) (by kernel_rfl) (u7d1l t2 x10) u7d1g [] (RI.nil _) [.no, .no, .no, .no, .no, .no, .no, .no] a7_37 a7_37o (by kernel_rfl) (by kernel_rfl) (u7d1s t2 x10) (u7d1f a1 a2 t1 t2 A1 c1 t3 x6 x7 A8 c8 x8 A9 c9 x9 A10 c10 x10 A15 c15 8) (u7d1v a1 a2 t1 t2 A1 c1 t3 x6 x7 A8 c8 x8 A9 c9 x9 A10 c10 x10 nx12 A1_ c1_ A15 c15) (u7d1e a1 a2 t1 t2 A1 c1 t3 x6 x7 A8 c8 x8 A9 c9 x9 A10 c10 x10 nx12 A1_ c1_ A15 c15) [u7d1f a1 a2 t1 t2 A1 c1 t3 x6 x7 A8 c8 x8 A9 c9 x9 A10 c10 x10 A15 c15 1, u7d1f a1 a2 t1 t2 A1 c1 t3 x6 x7 A8 c8 x8 A9 c9 x9 A10 c10 x10 A15 c15 3, u7d1f a1 a2 t1 t2 A1 c1 t3 x6 x7 A8 c8 x8 A9 c9 x9 A10 c10 x10 A15 c15 5] (framesOk.cons (fun u => rfl) (framesOk.cons (fun u => rfl) (framesOk.cons (fun u => rfl) framesOk.nil))) ?_ [] framesOk.nil ?_ ?_
     ·refine LoudsG.cons ?_ (LoudsG.cons ?_ (LoudsG.cons ?_ (LoudsG.nil)))
      ·intro D u J w hp hJ hs hF
       refine (Does.makeL (T := 24) (e := 2) hs.im ((t2.getD (x10).toNat []).length : Int) .i64 .i64 (.int .i64 0) (0) (Ty.int .i64) 8 (by kernel_rfl) (by kernel_rfl) (by kernel_rfl) (by kernel_rfl) rfl hm1 (by omega) (by omega)).mono ?_
       rintro v w' ⟨rfl, hg, hp⟩
       exact ⟨fun _ => (_, _, _), J, rfl, hg, hp, trivial⟩
      ·intro D u J w hp hJ hs hF
       refine (Does.makeL (T := 24) (e := 2) hs.im ((t2.getD (x10).toNat []).length : Int) .i64 .i64 (.int .i64 0) (0) (Ty.int .i64) 8 (by kernel_rfl) (by kernel_rfl) (by kernel_rfl) (by kernel_rfl) rfl hm3 (by omega) (by omega)).mono ?_
       rintro v w' ⟨rfl, hg, hp⟩
       exact ⟨fun _ => (_, _, _), J, rfl, hg, hp, trivial⟩
      ·intro D u J w hp hJ hs hF
       refine (Does.makeL (T := 24) (e := 2) hs.im ((t2.getD (x10).toNat []).length : Int) .i64 .i64 (.int .i64 0) (0) (Ty.int .i64) 8 (by kernel_rfl) (by kernel_rfl) (by kernel_rfl) (by kernel_rfl) rfl hm5 (by omega) (by omega)).mono ?_
       rintro v w' ⟨rfl, hg, hp⟩
       exact ⟨fun _ => (_, _, _), J, rfl, hg, hp, trivial⟩
     ·refine Givens.nil
     intro u I9 nx15 hi9 hF
     have hf1 := ((hF.1 rfl).1)
     have hf2 := ((hF.2.1 rfl).1)
     have hf3 := ((hF.2.2.1 rfl).1)
     clear hF
     refine RL.norm (K' := [(17, .slice ((u 3 0).1) ((List.replicate (((t2.getD (x10).toNat []).length : Int)).toNat (0 : Int)).length) ((u 3 0).2.1)), (16, .slice ((u 1 0).1) ((List.replicate (((t2.getD (x10).toNat []).length : Int)).toNat (0 : Int)).length) ((u 1 0).2.1)), (56, .slice ((u 5 0).1) ((List.replicate (((t2.getD (x10).toNat []).length : Int)).toNat (0 : Int)).length) ((u 5 0).2.1)), (55, .int .i64 ((t2.getD (x10).toNat []).length : Int)), (54, .slice ((u 3 0).1) ((List.replicate (((t2.getD (x10).toNat []).length : Int)).toNat (0 : Int)).length) ((u 3 0).2.1)), (53, .int .i64 ((t2.getD (x10).toNat []).length : Int)), (52, .slice ((u 1 0).1) ((List.replicate (((t2.getD (x10).toNat []).length : Int)).toNat (0 : Int)).length) ((u 1 0).2.1)), (51, .int .i64 ((t2.getD (x10).toNat []).length : Int)), (15, .int .i64 ((t2.getD (x10).toNat []).length : Int)), (10, .slice A15 ((x6 ++ [(t2.getD (W .i64 ((W .i64 ((t2.length : Int) - 1)) - x10)).toNat [])]).length) c15), (1, .int .u8 a1), (2, .int .u8 a2), (7, .bool t1), (8, .slice A1 t2.length c1), (9, .int .i64 t3), (11, .slice A8 x7.length c8), (12, .slice A9 x8.length c9), (13, .slice A10 x9.length c10), (14, .int .i64 x10)]) (X' := [orow 24 1 A1 t2.length c1 cs1, orow 24 1 A15 ((x6 ++ [(t2.getD (W .i64 ((W .i64 ((t2.length : Int) - 1)) - x10)).toNat [])]).length) c15 cs15, orow 24 1 A8 x7.length c8 cs8, orow 24 1 A9 x8.length c9 cs9, orow 24 1 A10 x9.length c10 cs10, orow 2 1 (u 1 0).1 ((List.replicate (((t2.getD (x10).toNat []).length : Int)).toNat (0 : Int)).length) (u 1 0).2.1 (u 1 0).2.2, orow 2 1 (u 3 0).1 ((List.replicate (((t2.getD (x10).toNat []).length : Int)).toNat (0 : Int)).length) (u 3 0).2.1 (u 3 0).2.2, orow 2 1 (u 5 0).1 ((List.replicate (((t2.getD (x10).toNat []).length : Int)).toNat (0 : Int)).length) (u 5 0).2.1 (u 5 0).2.2]) (by kernel_rfl) rfl rfl rfl ?_
     revert hf1 hf2 hf3
     generalize (u 1 0).1 = A16
     generalize (u 1 0).2.1 = c16
     generalize (u 1 0).2.2 = cs16
     generalize (u 3 0).1 = A17
     generalize (u 3 0).2.1 = c17
     generalize (u 3 0).2.2 = cs17
     generalize (u 5 0).1 = A18
     generalize (u 5 0).2.1 = c18
     generalize (u 5 0).2.2 = cs18
     intro hf1 hf2 hf3
     clear u
     refine RL.simK (K' := [(18, .slice A18 ((List.replicate (((t2.getD (x10).toNat []).length : Int)).toNat (0 : Int)).length) c18), (17, .slice A17 ((List.replicate (((t2.getD (x10).toNat []).length : Int)).toNat (0 : Int)).length) c17), (16, .slice A16 ((List.replicate (((t2.getD (x10).toNat []).length : Int)).toNat (0 : Int)).length) c16), (15, .int .i64 ((t2.getD (x10).toNat []).length : Int)), (10, .slice A15 ((x6 ++ [(t2.getD (W .i64 ((W .i64 ((t2.length : Int) - 1)) - x10)).toNat [])]).length) c15), (1, .int .u8 a1), (2, .int .u8 a2), (7, .bool t1), (8, .slice A1 t2.length c1), (9, .int .i64 t3), (11, .slice A8 x7.length c8), (12, .slice A9 x8.length c9), (13, .slice A10 x9.length c10), (14, .int .i64 x10)]) [] (RFacts.nil _ _ _) 1 [.no] (by kernel_rfl) (by kernel_rfl) ?_
     refine RL.nil (by kernel_rfl) ?_
     refine QN.then_ ?_
     refine OK.seq K7_40 K7_64 (by kernel_rfl) ?_
     refine OK.seq K7_41 K7_43 (by kernel_rfl) ?_
     refine OK.region 11 O7_41 (by kernel_rfl) ?_
     refine RL.simK (K' := [(19, .int .i64 0), (18, .slice A18 ((List.replicate (((t2.getD (x10).toNat []).length : Int)).toNat (0 : Int)).length) c18), (17, .slice A17 ((List.replicate (((t2.getD (x10).toNat []).length : Int)).toNat (0 : Int)).length) c17), (16, .slice A16 ((List.replicate (((t2.getD (x10).toNat []).length : Int)).toNat (0 : Int)).length) c16), (15, .int .i64 ((t2.getD (x10).toNat []).length : Int)), (10, .slice A15 ((x6 ++ [(t2.getD (W .i64 ((W .i64 ((t2.length : Int) - 1)) - x10)).toNat [])]).length) c15), (1, .int .u8 a1), (2, .int .u8 a2), (7, .bool t1), (8, .slice A1 t2.length c1), (9, .int .i64 t3), (11, .slice A8 x7.length c8), (12, .slice A9 x8.length c9), (13, .slice A10 x9.length c10), (14, .int .i64 x10)]) [] (RFacts.nil _ _ _) 1 [.no] (by kernel_rfl) (by kernel_rfl) ?_
     refine RL.nil (by kernel_rfl) ?_
     refine QN.then_ ?_
     refine OK.join (fun K' I' _ L' X' => ∃ (x15 : List Int) (x16 : List Int) (x17 : List Int) (A19 : Option Addr) (c19 : Nat) (cs19 : List Value) (A20 : Option Addr) (c20 : Nat) (cs20 : List Value) (A21 : Option Addr) (c21 : Nat) (cs21 : List Value), K' = [(1, .int .u8 a1), (2, .int .u8 a2), (7, .bool t1), (8, .slice A1 t2.length c1), (9, .int .i64 t3), (10, .slice A15 ((x6 ++ [(t2.getD (W .i64 ((W .i64 ((t2.length : Int) - 1)) - x10)).toNat [])]).length) c15), (11, .slice A8 x7.length c8), (12, .slice A9 x8.length c9), (13, .slice A10 x9.length c10), (14, .int .i64 x10), (16, .slice A19 x15.length c19), (17, .slice A20 x16.length c20), (18, .slice A21 x17.length c21)] ∧ L' = [⟨nx12, [.slice A1_ ((t2.getD (W .i64 ((W .i64 ((t2.length : Int) - 1)) - x10)).toNat []).length) c1_], 24⟩] ∧ X' = [orow 24 1 A1 t2.length c1 cs1, orow 24 1 A15 ((x6 ++ [(t2.getD (W .i64 ((W .i64 ((t2.length : Int) - 1)) - x10)).toNat [])]).length) c15 cs15, orow 24 1 A8 x7.length c8 cs8, orow 24 1 A9 x8.length c9 cs9, orow 24 1 A10 x9.length c10 cs10, orow 2 1 A19 x15.length c19 cs19, orow 2 1 A20 x16.length c20 cs20, orow 2 1 A21 x17.length c21 cs21] ∧ Imm.le I9 I' ∧ Reps (Ty.int .i64) I' x15 cs19 ∧ Reps (Ty.int .i64) I' x16 cs20 ∧ Reps (Ty.int .i64) I' x17 cs21 ∧ armillarylaw22_AssignInvariance.k4 t2 x6 x7 x8 x9 x10 (x15, x16, x17) = some y3) ?_ ?_
     ·rintro _ I10 nx16 _ _ ⟨x15, x16, x17, A19, c19, cs19, A20, c20, cs20, A21, c21, cs21, rfl, rfl, rfl, hi10, hp16, hp17, hp18, H⟩
      replace H : (if (x7.length + [x15].length) * 24 ≤ 140737488355328 then (if (x8.length + [x16].length) * 24 ≤ 140737488355328 then (if (x9.length + [x17].length) * 24 ≤ 140737488355328 then (some ((x6 ++ [(t2.getD (W .i64 ((W .i64 ((t2.length : Int) - 1)) - x10)).toNat [])]), (x7 ++ [x15]), (x8 ++ [x16]), (x9 ++ [x17]))) else none) else none) else none) = some y3 := H
      refine QN.then_ ?_
      refine OK.seq K7_65 K7_67 (by kernel_rfl) ?_
      refine OK.region 17 O7_65 (by kernel_rfl) ?_
      refine RL.simP (K' := [(101, .slice (some ⟨nx16, 0, none⟩) 1 1), (99, .slice A8 x7.length c8), (1, .int .u8 a1), (2, .int .u8 a2), (7, .bool t1), (8, .slice A1 t2.length c1), (9, .int .i64 t3), (10, .slice A15 ((x6 ++ [(t2.getD (W .i64 ((W .i64 ((t2.length : Int) - 1)) - x10)).toNat [])]).length) c15), (11, .slice A8 x7.length c8), (12, .slice A9 x8.length c9), (13, .slice A10 x9.length c10), (14, .int .i64 x10), (17, .slice A20 x16.length c20), (18, .slice A21 x17.length c21)]) (nx' := nx16 + 1) (L' := [⟨nx12, [.slice A1_ ((t2.getD (W .i64 ((W .i64 ((t2.length : Int) - 1)) - x10)).toNat []).length) c1_], 24⟩, ⟨nx16, [.slice A19 x15.length c19], 24⟩]) [] (RFacts.nil _ _ _) 3 [.no, .no, .no] (by kernel_rfl) (by kernel_rfl) ?_
      refine RL.freeze (e := 2) (sz := 1) (S := A19) (n := x15.length) (cap := c19) 5 (by kernel_rfl) hp16 rfl (fun I11 hi11 hl2 hr2 => ?_)
      skip
      by_cases hz2 : (x7.length + [x15].length) * 24 ≤ 140737488355328
      case neg => rw [if_neg hz2] at H; cases H
      rw [if_pos hz2] at H
      refine RL.appendB (T := 22) (e := 24) (S := A8) 1 24 22 c8 1 1 nx16 24 cs8 [.slice A19 x15.length c19] (Ty.slice (Ty.int .i64)) x7 [x15] 2 (some 102) (by kernel_rfl) (by kernel_rfl) (by kernel_rfl) (by kernel_rfl) (by kernel_rfl) (by decide) (by kernel_rfl) (Reps.ext (Imm.le_trans (Imm.le_trans hi9 hi10) hi11) hp8) (by kernel_rfl) ⟨_, _, rfl, ⟨_, _, rfl, hl2, hr2⟩, rfl⟩ hz2 (by omega) (fun A22 c22 nx17 cs22 hp19 => ?_)
      refine RL.sub (K' := [(102, .slice A22 ((x7 ++ [x15]).length) c22), (101, .slice (some ⟨nx16, 0, none⟩) 1 1), (1, .int .u8 a1), (2, .int .u8 a2), (7, .bool t1), (8, .slice A1 t2.length c1), (9, .int .i64 t3), (10, .slice A15 ((x6 ++ [(t2.getD (W .i64 ((W .i64 ((t2.length : Int) - 1)) - x10)).toNat [])]).length) c15), (12, .slice A9 x8.length c9), (13, .slice A10 x9.length c10), (14, .int .i64 x10), (17, .slice A20 x16.length c20), (18, .slice A21 x17.length c21)]) (L' := [⟨nx12, [.slice A1_ ((t2.getD (W .i64 ((W .i64 ((t2.length : Int) - 1)) - x10)).toNat []).length) c1_], 24⟩, ⟨nx16, [.slice A19 x15.length c19], 24⟩]) (X' := [orow 24 1 A1 t2.length c1 cs1, orow 24 1 A15 ((x6 ++ [(t2.getD (W .i64 ((W .i64 ((t2.length : Int) - 1)) - x10)).toNat [])]).length) c15 cs15, orow 24 1 A22 ((x7 ++ [x15]).length) c22 cs22, orow 24 1 A9 x8.length c9 cs9, orow 24 1 A10 x9.length c10 cs10, orow 2 1 A20 x16.length c20 cs20, orow 2 1 A21 x17.length c21 cs21]) (by kernel_rfl) (.refl _) (.refl _) ?_
      refine RL.simK (K' := [(11, .slice A22 ((x7 ++ [x15]).length) c22), (1, .int .u8 a1), (2, .int .u8 a2), (7, .bool t1), (8, .slice A1 t2.length c1), (9, .int .i64 t3), (10, .slice A15 ((x6 ++ [(t2.getD (W .i64 ((W .i64 ((t2.length : Int) - 1)) - x10)).toNat [])]).length) c15), (12, .slice A9 x8.length c9), (13, .slice A10 x9.length c10), (14, .int .i64 x10), (17, .slice A20 x16.length c20), (18, .slice A21 x17.length c21)]) [] (RFacts.nil _ _ _) 1 [.no] (by kernel_rfl) (by kernel_rfl) ?_
      refine RL.nil (by kernel_rfl) ?_
      refine QN.then_ ?_
      refine OK.seq K7_68 K7_70 (by kernel_rfl) ?_
      refine OK.region 18 O7_68 (by kernel_rfl) ?_
      refine RL.simP (K' := [(105, .slice (some ⟨nx17, 0, none⟩) 1 1), (103, .slice A9 x8.length c9), (11, .slice A22 ((x7 ++ [x15]).length) c22), (1, .int .u8 a1), (2, .int .u8 a2), (7, .bool t1), (8, .slice A1 t2.length c1), (9, .int .i64 t3), (10, .slice A15 ((x6 ++ [(t2.getD (W .i64 ((W .i64 ((t2.length : Int) - 1)) - x10)).toNat [])]).length) c15), (12, .slice A9 x8.length c9), (13, .slice A10 x9.length c10), (14, .int .i64 x10), (18, .slice A21 x17.length c21)]) (nx' := nx17 + 1) (L' := [⟨nx12, [.slice A1_ ((t2.getD (W .i64 ((W .i64 ((t2.length : Int) - 1)) - x10)).toNat []).length) c1_], 24⟩, ⟨nx16, [.slice A19 x15.length c19], 24⟩, ⟨nx17, [.slice A20 x16.length c20], 24⟩]) [] (RFacts.nil _ _ _) 3 [.no, .no, .no] (by kernel_rfl) (by kernel_rfl) ?_
      refine RL.freeze (e := 2) (sz := 1) (S := A20) (n := x16.length) (cap := c20) 5 (by kernel_rfl) (Reps.ext hi11 hp17) rfl (fun I12 hi12 hl3 hr3 => ?_)
      skip
      by_cases hz3 : (x8.length + [x16].length) * 24 ≤ 140737488355328
      case neg => rw [if_neg hz3] at H; cases H
      rw [if_pos hz3] at H
      refine RL.appendB (T := 22) (e := 24) (S := A9) 1 24 22 c9 2 1 nx17 24 cs9 [.slice A20 x16.length c20] (Ty.slice (Ty.int .i64)) x8 [x16] 3 (some 106) (by kernel_rfl) (by kernel_rfl) (by kernel_rfl) (by kernel_rfl) (by kernel_rfl) (by decide) (by kernel_rfl) (Reps.ext (Imm.le_trans (Imm.le_trans (Imm.le_trans hi9 hi10) hi11) hi12) hp9) (by kernel_rfl) ⟨_, _, rfl, ⟨_, _, rfl, hl3, hr3⟩, rfl⟩ hz3 (by omega) (fun A23 c23 nx18 cs23 hp20 => ?_)
      refine RL.sub (K' := [(106, .slice A23 ((x8 ++ [x16]).length) c23), (105, .slice (some ⟨nx17, 0, none⟩) 1 1), (11, .slice A22 ((x7 ++ [x15]).length) c22), (1, .int .u8 a1), (2, .int .u8 a2), (7, .bool t1), (8, .slice A1 t2.length c1), (9, .int .i64 t3), (10, .slice A15 ((x6 ++ [(t2.getD (W .i64 ((W .i64 ((t2.length : Int) - 1)) - x10)).toNat [])]).length) c15), (13, .slice A10 x9.length c10), (14, .int .i64 x10), (18, .slice A21 x17.length c21)]) (L' := [⟨nx12, [.slice A1_ ((t2.getD (W .i64 ((W .i64 ((t2.length : Int) - 1)) - x10)).toNat []).length) c1_], 24⟩, ⟨nx16, [.slice A19 x15.length c19], 24⟩, ⟨nx17, [.slice A20 x16.length c20], 24⟩]) (X' := [orow 24 1 A1 t2.length c1 cs1, orow 24 1 A15 ((x6 ++ [(t2.getD (W .i64 ((W .i64 ((t2.length : Int) - 1)) - x10)).toNat [])]).length) c15 cs15, orow 24 1 A22 ((x7 ++ [x15]).length) c22 cs22, orow 24 1 A23 ((x8 ++ [x16]).length) c23 cs23, orow 24 1 A10 x9.length c10 cs10, orow 2 1 A21 x17.length c21 cs21]) (by kernel_rfl) (.refl _) (.refl _) ?_
      refine RL.simK (K' := [(12, .slice A23 ((x8 ++ [x16]).length) c23), (11, .slice A22 ((x7 ++ [x15]).length) c22), (1, .int .u8 a1), (2, .int .u8 a2), (7, .bool t1), (8, .slice A1 t2.length c1), (9, .int .i64 t3), (10, .slice A15 ((x6 ++ [(t2.getD (W .i64 ((W .i64 ((t2.length : Int) - 1)) - x10)).toNat [])]).length) c15), (13, .slice A10 x9.length c10), (14, .int .i64 x10), (18, .slice A21 x17.length c21)]) [] (RFacts.nil _ _ _) 1 [.no] (by kernel_rfl) (by kernel_rfl) ?_
      refine RL.nil (by kernel_rfl) ?_
      refine QN.then_ ?_
      refine OK.region 19 O7_70 (by kernel_rfl) ?_
      refine RL.simP (K' := [(109, .slice (some ⟨nx18, 0, none⟩) 1 1), (107, .slice A10 x9.length c10), (12, .slice A23 ((x8 ++ [x16]).length) c23), (11, .slice A22 ((x7 ++ [x15]).length) c22), (1, .int .u8 a1), (2, .int .u8 a2), (7, .bool t1), (8, .slice A1 t2.length c1), (9, .int .i64 t3), (10, .slice A15 ((x6 ++ [(t2.getD (W .i64 ((W .i64 ((t2.length : Int) - 1)) - x10)).toNat [])]).length) c15), (13, .slice A10 x9.length c10), (14, .int .i64 x10)]) (nx' := nx18 + 1) (L' := [⟨nx12, [.slice A1_ ((t2.getD (W .i64 ((W .i64 ((t2.length : Int) - 1)) - x10)).toNat []).length) c1_], 24⟩, ⟨nx16, [.slice A19 x15.length c19], 24⟩, ⟨nx17, [.slice A20 x16.length c20], 24⟩, ⟨nx18, [.slice A21 x17.length c21], 24⟩]) [] (RFacts.nil _ _ _) 3 [.no, .no, .no] (by kernel_rfl) (by kernel_rfl) ?_
      refine RL.freeze (e := 2) (sz := 1) (S := A21) (n := x17.length) (cap := c21) 5 (by kernel_rfl) (Reps.ext (Imm.le_trans hi11 hi12) hp18) rfl (fun I13 hi13 hl4 hr4 => ?_)
      skip
      by_cases hz4 : (x9.length + [x17].length) * 24 ≤ 140737488355328
      case neg => rw [if_neg hz4] at H; cases H
      rw [if_pos hz4] at H
      refine RL.appendB (T := 22) (e := 24) (S := A10) 1 24 22 c10 3 1 nx18 24 cs10 [.slice A21 x17.length c21] (Ty.slice (Ty.int .i64)) x9 [x17] 4 (some 110) (by kernel_rfl) (by kernel_rfl) (by kernel_rfl) (by kernel_rfl) (by kernel_rfl) (by decide) (by kernel_rfl) (Reps.ext (Imm.le_trans (Imm.le_trans (Imm.le_trans (Imm.le_trans hi9 hi10) hi11) hi12) hi13) hp10) (by kernel_rfl) ⟨_, _, rfl, ⟨_, _, rfl, hl4, hr4⟩, rfl⟩ hz4 (by omega) (fun A24 c24 nx19 cs24 hp21 => ?_)
      refine RL.sub (K' := [(110, .slice A24 ((x9 ++ [x17]).length) c24), (109, .slice (some ⟨nx18, 0, none⟩) 1 1), (12, .slice A23 ((x8 ++ [x16]).length) c23), (11, .slice A22 ((x7 ++ [x15]).length) c22), (1, .int .u8 a1), (2, .int .u8 a2), (7, .bool t1), (8, .slice A1 t2.length c1), (9, .int .i64 t3), (10, .slice A15 ((x6 ++ [(t2.getD (W .i64 ((W .i64 ((t2.length : Int) - 1)) - x10)).toNat [])]).length) c15), (14, .int .i64 x10)]) (L' := [⟨nx12, [.slice A1_ ((t2.getD (W .i64 ((W .i64 ((t2.length : Int) - 1)) - x10)).toNat []).length) c1_], 24⟩, ⟨nx16, [.slice A19 x15.length c19], 24⟩, ⟨nx17, [.slice A20 x16.length c20], 24⟩, ⟨nx18, [.slice A21 x17.length c21], 24⟩]) (X' := [orow 24 1 A1 t2.length c1 cs1, orow 24 1 A15 ((x6 ++ [(t2.getD (W .i64 ((W .i64 ((t2.length : Int) - 1)) - x10)).toNat [])]).length) c15 cs15, orow 24 1 A22 ((x7 ++ [x15]).length) c22 cs22, orow 24 1 A23 ((x8 ++ [x16]).length) c23 cs23, orow 24 1 A24 ((x9 ++ [x17]).length) c24 cs24]) (by kernel_rfl) (.refl _) (.refl _) ?_
      refine RL.simK (K' := [(13, .slice A24 ((x9 ++ [x17]).length) c24), (12, .slice A23 ((x8 ++ [x16]).length) c23), (11, .slice A22 ((x7 ++ [x15]).length) c22), (1, .int .u8 a1), (2, .int .u8 a2), (7, .bool t1), (8, .slice A1 t2.length c1), (9, .int .i64 t3), (10, .slice A15 ((x6 ++ [(t2.getD (W .i64 ((W .i64 ((t2.length : Int) - 1)) - x10)).toNat [])]).length) c15), (14, .int .i64 x10)]) [] (RFacts.nil _ _ _) 1 [.no] (by kernel_rfl) (by kernel_rfl) ?_
      refine RL.nil (by kernel_rfl) ?_
      refine QN.blkN ?_
      obtain rfl := Option.some.inj H
      refine QN.sub (K' := [(1, .int .u8 a1), (2, .int .u8 a2), (7, .bool t1), (8, .slice A1 t2.length c1), (9, .int .i64 t3), (10, .slice A15 ((x6 ++ [(t2.getD (W .i64 ((W .i64 ((t2.length : Int) - 1)) - x10)).toNat [])]).length) c15), (11, .slice A22 ((x7 ++ [x15]).length) c22), (12, .slice A23 ((x8 ++ [x16]).length) c23), (13, .slice A24 ((x9 ++ [x17]).length) c24), (14, .int .i64 x10)]) (L' := []) (by kernel_rfl) (.cons _ (.cons _ (.cons _ (.cons _ .slnil)))) (.refl _) ?_
      exact hJ4 _ _ _ _ _ ⟨(x6 ++ [(t2.getD (W .i64 ((W .i64 ((t2.length : Int) - 1)) - x10)).toNat [])]), (x7 ++ [x15]), (x8 ++ [x16]), (x9 ++ [x17]), A15, c15, cs15, A22, c22, cs22, A23, c23, cs23, A24, c24, cs24, rfl, rfl, rfl, (Imm.le_trans (Imm.le_trans (Imm.le_trans (Imm.le_trans hi9 hi10) hi11) hi12) hi13), (Reps.ext (Imm.le_trans (Imm.le_trans (Imm.le_trans (Imm.le_trans hi9 hi10) hi11) hi12) hi13) hp15), (Reps.ext (Imm.le_trans hi12 hi13) hp19), (Reps.ext hi13 hp20), hp21, HK3⟩
     ·intro Q_4 hJ5 hQ5
      obtain ⟨y4, H, HK4⟩ := Option.bind_eq_some_iff.mp H
      refine OK.block 2 K7_44 (by kernel_rfl) ?_
      refine OK.sub (K' := [(1, .int .u8 a1), (2, .int .u8 a2), (7, .bool t1), (8, .slice A1 t2.length c1), (9, .int .i64 t3), (10, .slice A15 ((x6 ++ [(t2.getD (W .i64 ((W .i64 ((t2.length : Int) - 1)) - x10)).toNat [])]).length) c15), (11, .slice A8 x7.length c8), (12, .slice A9 x8.length c9), (13, .slice A10 x9.length c10), (14, .int .i64 x10), (15, .int .i64 ((t2.getD (x10).toNat []).length : Int)), (16, .slice A16 ((List.replicate (((t2.getD (x10).toNat []).length : Int)).toNat (0 : Int)).length) c16), (17, .slice A17 ((List.replicate (((t2.getD (x10).toNat []).length : Int)).toNat (0 : Int)).length) c17), (18, .slice A18 ((List.replicate (((t2.getD (x10).toNat []).length : Int)).toNat (0 : Int)).length) c18), (19, .int .i64 0)]) (L' := [⟨nx12, [.slice A1_ ((t2.getD (W .i64 ((W .i64 ((t2.length : Int) - 1)) - x10)).toNat []).length) c1_], 24⟩]) (by kernel_rfl) (.cons_cons _ .slnil) (.refl _) ?_
      refine OK.loopInv K7_45 (by kernel_rfl) (fun n_ K' I' _ L' X' => ∃ (x18 : List Int) (x19 : List Int) (x20 : List Int) (x21 : Int) (A25 : Option Addr) (c25 : Nat) (cs25 : List Value) (A26 : Option Addr) (c26 : Nat) (cs26 : List Value) (A27 : Option Addr) (c27 : Nat) (cs27 : List Value), K' = [(1, .int .u8 a1), (2, .int .u8 a2), (7, .bool t1), (8, .slice A1 t2.length c1), (9, .int .i64 t3), (10, .slice A15 ((x6 ++ [(t2.getD (W .i64 ((W .i64 ((t2.length : Int) - 1)) - x10)).toNat [])]).length) c15), (11, .slice A8 x7.length c8), (12, .slice A9 x8.length c9), (13, .slice A10 x9.length c10), (14, .int .i64 x10), (15, .int .i64 ((t2.getD (x10).toNat []).length : Int)), (16, .slice A25 x18.length c25), (17, .slice A26 x19.length c26), (18, .slice A27 x20.length c27), (19, .int .i64 x21)] ∧ L' = [⟨nx12, [.slice A1_ ((t2.getD (W .i64 ((W .i64 ((t2.length : Int) - 1)) - x10)).toNat []).length) c1_], 24⟩] ∧ X' = [orow 24 1 A1 t2.length c1 cs1, orow 24 1 A15 ((x6 ++ [(t2.getD (W .i64 ((W .i64 ((t2.length : Int) - 1)) - x10)).toNat [])]).length) c15 cs15, orow 24 1 A8 x7.length c8 cs8, orow 24 1 A9 x8.length c9 cs9, orow 24 1 A10 x9.length c10 cs10, orow 2 1 A25 x18.length c25 cs25, orow 2 1 A26 x19.length c26 cs26, orow 2 1 A27 x20.length c27 cs27] ∧ Imm.le I9 I' ∧ Reps (Ty.int .i64) I' x18 cs25 ∧ Reps (Ty.int .i64) I' x19 cs26 ∧ Reps (Ty.int .i64) I' x20 cs27 ∧ armillarylaw22_AssignInvariance.l2 a1 a2 t2 x10 n_ x18 x19 x20 x21 = some y4) kq1 ⟨(List.replicate (((t2.getD (x10).toNat []).length : Int)).toNat (0 : Int)), (List.replicate (((t2.getD (x10).toNat []).length : Int)).toNat (0 : Int)), (List.replicate (((t2.getD (x10).toNat []).length : Int)).toNat (0 : Int)), 0, A16, c16, cs16, A17, c17, cs17, A18, c18, cs18, rfl, rfl, rfl, (Imm.le_refl _), hf1, hf2, hf3, H⟩ ?_ ?_
      ·rintro _ _ _ _ _ ⟨x18, x19, x20, x21, A25, c25, cs25, A26, c26, cs26, A27, c27, cs27, rfl, rfl, rfl, _, hp22, hp23, hp24, H⟩
       cases H
      ·rintro kq2 _ I14 nx20 _ _ ⟨x18, x19, x20, x21, A25, c25, cs25, A26, c26, cs26, A27, c27, cs27, rfl, rfl, rfl, hi14, hp22, hp23, hp24, H⟩ Q_l2 hJ6 hQ6
       replace H : (if x21 < ((t2.getD (x10).toNat []).length : Int) then (if 0 ≤ x10 then (if x10 < (t2.length : Int) then (if ((t2.getD (x10).toNat []).length : Int) = 0 then none else (if 0 ≤ ((W .i64 (x21 + (W .i64 (a1)))).tmod ((t2.getD (x10).toNat []).length : Int)) then (if ((W .i64 (x21 + (W .i64 (a1)))).tmod ((t2.getD (x10).toNat []).length : Int)) < ((t2.getD (x10).toNat []).length : Int) then (if 0 ≤ x21 then (if x21 < (x18.length : Int) then (if 0 ≤ x10 then (if x10 < (t2.length : Int) then (if 0 ≤ x21 then (if x21 < ((t2.getD (x10).toNat []).length : Int) then (if 0 ≤ x21 then (if x21 < (x19.length : Int) then (if 0 ≤ x21 then (if x21 < ((x19.set (x21).toNat (((t2.getD (x10).toNat []).getD (x21).toNat 0).tmod 67108864)).length : Int) then (if 0 ≤ x21 then (if x21 < (x20.length : Int) then (armillarylaw22_AssignInvariance.l2 a1 a2 t2 x10 kq2 (x18.set (x21).toNat ((t2.getD (x10).toNat []).getD ((W .i64 (x21 + (W .i64 (a1)))).tmod ((t2.getD (x10).toNat []).length : Int)).toNat 0)) (x19.set (x21).toNat (((t2.getD (x10).toNat []).getD (x21).toNat 0).tmod 67108864)) (x20.set (x21).toNat (W .i64 (((x19.set (x21).toNat (((t2.getD (x10).toNat []).getD (x21).toNat 0).tmod 67108864)).getD (x21).toNat 0) * (W .i64 (a2.tmod 16))))) (W .i64 (x21 + 1))) else none) else none) else none) else none) else none) else none) else none) else none) else none) else none) else none) else none) else none) else none)) else none) else none) else (some (x18, x19, x20))) = some y4 := H
       refine OK.seq K7_46 K7_52 (by kernel_rfl) ?_
       refine OK.seq K7_47 K7_49 (by kernel_rfl) ?_
       refine OK.region 12 O7_47 (by kernel_rfl) ?_
       refine RL.simK (K' := [(59, .bool (decide (x21 < ((t2.getD (x10).toNat []).length : Int)))), (1, .int .u8 a1), (2, .int .u8 a2), (7, .bool t1), (8, .slice A1 t2.length c1), (9, .int .i64 t3), (10, .slice A15 ((x6 ++ [(t2.getD (W .i64 ((W .i64 ((t2.length : Int) - 1)) - x10)).toNat [])]).length) c15), (11, .slice A8 x7.length c8), (12, .slice A9 x8.length c9), (13, .slice A10 x9.length c10), (14, .int .i64 x10), (15, .int .i64 ((t2.getD (x10).toNat []).length : Int)), (16, .slice A25 x18.length c25), (17, .slice A26 x19.length c26), (18, .slice A27 x20.length c27), (19, .int .i64 x21)]) [] (RFacts.nil _ _ _) 3 [.no, .no, .no] (by kernel_rfl) (by kernel_rfl) ?_
       refine RL.nil (by kernel_rfl) ?_
       refine QN.then_ ?_
       refine OK.cond (.tmp 59) K7_50 K7_51 (decide (x21 < ((t2.getD (x10).toNat []).length : Int))) (by kernel_rfl) (by kernel_rfl) (by kernel_rfl) (fun hb => ?_) (fun hb => ?_)
       ·skip
        have hc := (of_decide_eq_true hb)
        rw [if_pos hc] at H
        clear hb
        refine OK.skip (by kernel_rfl) ?_
        refine QN.then_ ?_
        refine OK.seq K7_53 K7_62 (by kernel_rfl) ?_
        refine OK.block 3 K7_54 (by kernel_rfl) ?_
        refine OK.seq K7_55 K7_57 (by kernel_rfl) ?_
        by_cases hi0_1 : 0 ≤ x10
        case neg => rw [if_neg hi0_1] at H; cases H
        rw [if_pos hi0_1] at H
        by_cases hi1_1 : x10 < (t2.length : Int)
        case neg => rw [if_neg hi1_1] at H; cases H
        rw [if_pos hi1_1] at H
        refine OK.ownAddr (e := 24) (sz := 1) (S := A1) (n := t2.length) (cap := c1) (cs := cs1) 0 (by kernel_rfl) (by omega) (fun g3_ hA3_ => ?_)
        obtain ⟨A3_, c3_, hl3_, hr3_, hc3_⟩ := Ty.slice_own (Reps.ext (Imm.le_trans (Imm.le_trans hi7 hi9) hi14) hp1) x10 hi0_1 hi1_1
        have hx03_ := hi0_1; have hx13_ := hi1_1
        by_cases hc1 : ((t2.getD (x10).toNat []).length : Int) = 0
        ·rw [if_pos hc1] at H; cases H
        rw [if_neg hc1] at H
        by_cases hi0_2 : 0 ≤ ((W .i64 (x21 + (W .i64 (a1)))).tmod ((t2.getD (x10).toNat []).length : Int))
        case neg => rw [if_neg hi0_2] at H; cases H
        rw [if_pos hi0_2] at H
        by_cases hi1_2 : ((W .i64 (x21 + (W .i64 (a1)))).tmod ((t2.getD (x10).toNat []).length : Int)) < ((t2.getD (x10).toNat []).length : Int)
        case neg => rw [if_neg hi1_2] at H; cases H
        rw [if_pos hi1_2] at H
        obtain ⟨g4_, o4_, hA4_, hc4_⟩ := Ty.int_at hr3_ ((W .i64 (x21 + (W .i64 (a1)))).tmod ((t2.getD (x10).toNat []).length : Int)) hi0_2 hi1_2
        refine OK.drawnC 14 14 O7_55 a7_55n (by kernel_rfl) (by kernel_rfl) u7d2l (u7d2g a1 t2 x10 x21 g3_ g4_ o4_) [(⟨g3_, 0 + (x10).toNat * 1, none⟩, .slice A3_ ((t2.getD (x10).toNat []).length) c3_), (⟨g4_, o4_ + ((W .i64 (x21 + (W .i64 (a1)))).tmod ((t2.getD (x10).toNat []).length : Int)).toNat * 1, none⟩, .int .i64 ((t2.getD (x10).toNat []).getD ((W .i64 (x21 + (W .i64 (a1)))).tmod ((t2.getD (x10).toNat []).length : Int)).toNat 0))] (RI.own (e := 24) (sz := 1) (S := A1) (n := t2.length) (cap := c1) (cs := cs1) 0 (by kernel_rfl) hA3_ (0 + (x10).toNat * 1) ((x10).toNat * 1 + 0) (by omega) (hc3_ 0 _ rfl) (RI.cons (hc4_ 0 _ rfl) (RI.nil _))) [.no, .no, .no, .no, .no, .r 0, .no, .no, .no, .no, .no, .no, .no, .r 1] a7_55 a7_55o (by kernel_rfl) (by kernel_rfl) (u7d2s a1 t2 A1 c1 x10 x18 A25 c25 x21 g3_ A3_ c3_ g4_ o4_) (u7d2f a1 a2 t1 t2 A1 c1 t3 x6 x7 A8 c8 x8 A9 c9 x9 A10 c10 x10 A15 c15 x18 A25 c25 x19 A26 c26 x20 A27 c27 x21 g3_ A3_ c3_ g4_ o4_ 14) (u7d2v a1 a2 t1 t2 A1 c1 t3 x6 x7 A8 c8 x8 A9 c9 x9 A10 c10 x10 nx12 A1_ c1_ A15 c15 x18 A25 c25 x19 A26 c26 x20 A27 c27 x21 g3_ A3_ c3_ g4_ o4_) (u7d2e a1 a2 t1 t2 A1 c1 t3 x6 x7 A8 c8 x8 A9 c9 x9 A10 c10 x10 nx12 A1_ c1_ A15 c15 x18 A25 c25 x19 A26 c26 x20 A27 c27 x21 g3_ A3_ c3_ g4_ o4_) [] framesOk.nil ?_ [u7d2f a1 a2 t1 t2 A1 c1 t3 x6 x7 A8 c8 x8 A9 c9 x9 A10 c10 x10 A15 c15 x18 A25 c25 x19 A26 c26 x20 A27 c27 x21 g3_ A3_ c3_ g4_ o4_ 4, u7d2f a1 a2 t1 t2 A1 c1 t3 x6 x7 A8 c8 x8 A9 c9 x9 A10 c10 x10 A15 c15 x18 A25 c25 x19 A26 c26 x20 A27 c27 x21 g3_ A3_ c3_ g4_ o4_ 11, u7d2f a1 a2 t1 t2 A1 c1 t3 x6 x7 A8 c8 x8 A9 c9 x9 A10 c10 x10 A15 c15 x18 A25 c25 x19 A26 c26 x20 A27 c27 x21 g3_ A3_ c3_ g4_ o4_ 12] (framesOk.cons (fun u => rfl) (framesOk.cons (fun u => rfl) (framesOk.cons (fun u => rfl) framesOk.nil))) ?_ ?_
        ·refine LoudsG.nil
        ·refine Givens.cons (fun u w =>  ?_) (fun _ _ _ => rfl) (Givens.cons (fun u w =>  ?_) (fun _ _ _ => rfl) (Givens.cons (fun u w =>  ?_) (fun _ _ _ => rfl) (Givens.nil)))
         ·exact giv_idx (T := 22) (e := 24) 1 .i64 x10 hA3_ t2.length c1 (by kernel_rfl) (by kernel_rfl) (by kernel_rfl) hi0_1 hi1_1 w
         ·exact giv_rem .i64 (W .i64 (x21 + (W .i64 (a1)))) ((t2.getD (x10).toNat []).length : Int) (by kernel_rfl) hc1 w
         ·exact giv_idx (T := 24) (e := 2) 1 .i64 ((W .i64 (x21 + (W .i64 (a1)))).tmod ((t2.getD (x10).toNat []).length : Int)) hA4_ ((t2.getD (x10).toNat []).length) c3_ (by kernel_rfl) (by kernel_rfl) (by kernel_rfl) hi0_2 hi1_2 w
        intro u I15 nx21 hi15 hF
        clear hF
        refine RL.norm (K' := ((75, .int .i64 ((t2.getD (x10).toNat []).getD ((W .i64 (x21 + (W .i64 (a1)))).tmod ((t2.getD (x10).toNat []).length : Int)).toNat 0)) :: (74, .pointer (some ⟨g4_, o4_ + ((W .i64 (x21 + (W .i64 (a1)))).tmod ((t2.getD (x10).toNat []).length : Int)).toNat * 1, none⟩)) :: (73, .int .i64 ((W .i64 (x21 + (W .i64 (a1)))).tmod ((t2.getD (x10).toNat []).length : Int))) :: (72, .int .i64 ((t2.getD (x10).toNat []).length : Int)) :: (71, .int .i64 (W .i64 (x21 + (W .i64 (a1))))) :: (70, .int .i64 (W .i64 (a1))) :: (69, .int .u8 a1) :: (68, .int .i64 x21) :: (67, .slice A3_ ((t2.getD (x10).toNat []).length) c3_) :: (66, .pointer (some ⟨g3_, 0 + (x10).toNat * 1, none⟩)) :: (65, .int .i64 x10) :: (64, .slice A1 t2.length c1) :: (63, .int .i64 x21) :: (62, .slice A25 x18.length c25) :: (59, .bool (decide (x21 < ((t2.getD (x10).toNat []).length : Int)))) :: (1, .int .u8 a1) :: (2, .int .u8 a2) :: (7, .bool t1) :: (8, .slice A1 t2.length c1) :: (9, .int .i64 t3) :: (10, .slice A15 ((x6 ++ [(t2.getD (W .i64 ((W .i64 ((t2.length : Int) - 1)) - x10)).toNat [])]).length) c15) :: (11, .slice A8 x7.length c8) :: (12, .slice A9 x8.length c9) :: (13, .slice A10 x9.length c10) :: (14, .int .i64 x10) :: (15, .int .i64 ((t2.getD (x10).toNat []).length : Int)) :: (16, .slice A25 x18.length c25) :: (17, .slice A26 x19.length c26) :: (18, .slice A27 x20.length c27) :: (19, .int .i64 x21) :: [])) (X' := [orow 24 1 A1 t2.length c1 cs1, orow 24 1 A15 ((x6 ++ [(t2.getD (W .i64 ((W .i64 ((t2.length : Int) - 1)) - x10)).toNat [])]).length) c15 cs15, orow 24 1 A8 x7.length c8 cs8, orow 24 1 A9 x8.length c9 cs9, orow 24 1 A10 x9.length c10 cs10, orow 2 1 A25 x18.length c25 cs25, orow 2 1 A26 x19.length c26 cs26, orow 2 1 A27 x20.length c27 cs27]) (by kernel_rfl) rfl rfl rfl ?_
        by_cases hib0 : 0 ≤ x21
        case neg => rw [if_neg hib0] at H; cases H
        rw [if_pos hib0] at H
        by_cases hib1 : x21 < (x18.length : Int)
        case neg => rw [if_neg hib1] at H; cases H
        rw [if_pos hib1] at H
        have hx05_ := hib0; have hx15_ := hib1
        refine RL.ownAddr (e := 2) (sz := 1) (S := A25) (n := x18.length) (cap := c25) (cs := cs25) 5 (by kernel_rfl) (by omega) (fun g5_ hA5_ => ?_)
        have hc5_ := Ty.int_own (Reps.ext hi15 hp22) x21 hib0 hib1
        refine RL.idx 1 .i64 x21 hA5_ x18.length c25 (some 76) (by kernel_rfl) (by kernel_rfl) (T := 24) (e := 2) (by kernel_rfl) (by kernel_rfl) hib0 hib1 (K' := ((76, .pointer (some ⟨g5_, 0 + (x21).toNat * 1, none⟩)) :: (75, .int .i64 ((t2.getD (x10).toNat []).getD ((W .i64 (x21 + (W .i64 (a1)))).tmod ((t2.getD (x10).toNat []).length : Int)).toNat 0)) :: (74, .pointer (some ⟨g4_, o4_ + ((W .i64 (x21 + (W .i64 (a1)))).tmod ((t2.getD (x10).toNat []).length : Int)).toNat * 1, none⟩)) :: (73, .int .i64 ((W .i64 (x21 + (W .i64 (a1)))).tmod ((t2.getD (x10).toNat []).length : Int))) :: (72, .int .i64 ((t2.getD (x10).toNat []).length : Int)) :: (71, .int .i64 (W .i64 (x21 + (W .i64 (a1))))) :: (70, .int .i64 (W .i64 (a1))) :: (69, .int .u8 a1) :: (68, .int .i64 x21) :: (67, .slice A3_ ((t2.getD (x10).toNat []).length) c3_) :: (66, .pointer (some ⟨g3_, 0 + (x10).toNat * 1, none⟩)) :: (65, .int .i64 x10) :: (64, .slice A1 t2.length c1) :: (63, .int .i64 x21) :: (62, .slice A25 x18.length c25) :: (59, .bool (decide (x21 < ((t2.getD (x10).toNat []).length : Int)))) :: (1, .int .u8 a1) :: (2, .int .u8 a2) :: (7, .bool t1) :: (8, .slice A1 t2.length c1) :: (9, .int .i64 t3) :: (10, .slice A15 ((x6 ++ [(t2.getD (W .i64 ((W .i64 ((t2.length : Int) - 1)) - x10)).toNat [])]).length) c15) :: (11, .slice A8 x7.length c8) :: (12, .slice A9 x8.length c9) :: (13, .slice A10 x9.length c10) :: (14, .int .i64 x10) :: (15, .int .i64 ((t2.getD (x10).toNat []).length : Int)) :: (16, .slice A25 x18.length c25) :: (17, .slice A26 x19.length c26) :: (18, .slice A27 x20.length c27) :: (19, .int .i64 x21) :: [])) (by kernel_rfl) ?_
        refine RL.storeL (T := 2) (e := 2) 1 5 hA5_ c25 x21 cs25 [.int .i64 ((t2.getD (x10).toNat []).getD ((W .i64 (x21 + (W .i64 (a1)))).tmod ((t2.getD (x10).toNat []).length : Int)).toNat 0)] (.int .i64 ((t2.getD (x10).toNat []).getD ((W .i64 (x21 + (W .i64 (a1)))).tmod ((t2.getD (x10).toNat []).length : Int)).toNat 0)) (Ty.int .i64) x18 ((t2.getD (x10).toNat []).getD ((W .i64 (x21 + (W .i64 (a1)))).tmod ((t2.getD (x10).toNat []).length : Int)).toNat 0) (by kernel_rfl) (by kernel_rfl) (by kernel_rfl) (by kernel_rfl) (by kernel_rfl) rfl (by kernel_rfl) (Reps.ext hi15 hp22) hx05_ hx15_ (fun cs28 hp25 => ?_)
        refine RL.sub (K' := ((75, .int .i64 ((t2.getD (x10).toNat []).getD ((W .i64 (x21 + (W .i64 (a1)))).tmod ((t2.getD (x10).toNat []).length : Int)).toNat 0)) :: (74, .pointer (some ⟨g4_, o4_ + ((W .i64 (x21 + (W .i64 (a1)))).tmod ((t2.getD (x10).toNat []).length : Int)).toNat * 1, none⟩)) :: (73, .int .i64 ((W .i64 (x21 + (W .i64 (a1)))).tmod ((t2.getD (x10).toNat []).length : Int))) :: (72, .int .i64 ((t2.getD (x10).toNat []).length : Int)) :: (71, .int .i64 (W .i64 (x21 + (W .i64 (a1))))) :: (70, .int .i64 (W .i64 (a1))) :: (69, .int .u8 a1) :: (68, .int .i64 x21) :: (67, .slice A3_ ((t2.getD (x10).toNat []).length) c3_) :: (66, .pointer (some ⟨g3_, 0 + (x10).toNat * 1, none⟩)) :: (65, .int .i64 x10) :: (64, .slice A1 t2.length c1) :: (63, .int .i64 x21) :: (62, .slice A25 x18.length c25) :: (59, .bool (decide (x21 < ((t2.getD (x10).toNat []).length : Int)))) :: (1, .int .u8 a1) :: (2, .int .u8 a2) :: (7, .bool t1) :: (8, .slice A1 t2.length c1) :: (9, .int .i64 t3) :: (10, .slice A15 ((x6 ++ [(t2.getD (W .i64 ((W .i64 ((t2.length : Int) - 1)) - x10)).toNat [])]).length) c15) :: (11, .slice A8 x7.length c8) :: (12, .slice A9 x8.length c9) :: (13, .slice A10 x9.length c10) :: (14, .int .i64 x10) :: (15, .int .i64 ((t2.getD (x10).toNat []).length : Int)) :: (16, .slice A25 x18.length c25) :: (17, .slice A26 x19.length c26) :: (18, .slice A27 x20.length c27) :: (19, .int .i64 x21) :: [])) (L' := [⟨nx12, [.slice A1_ ((t2.getD (W .i64 ((W .i64 ((t2.length : Int) - 1)) - x10)).toNat []).length) c1_], 24⟩]) (X' := [orow 24 1 A1 t2.length c1 cs1, orow 24 1 A15 ((x6 ++ [(t2.getD (W .i64 ((W .i64 ((t2.length : Int) - 1)) - x10)).toNat [])]).length) c15 cs15, orow 24 1 A8 x7.length c8 cs8, orow 24 1 A9 x8.length c9 cs9, orow 24 1 A10 x9.length c10 cs10, orow 2 1 A25 ((x18.set (x21).toNat ((t2.getD (x10).toNat []).getD ((W .i64 (x21 + (W .i64 (a1)))).tmod ((t2.getD (x10).toNat []).length : Int)).toNat 0)).length) c25 cs28, orow 2 1 A26 x19.length c26 cs26, orow 2 1 A27 x20.length c27 cs27]) (by kernel_rfl) (.refl _) (.refl _) ?_
        refine RL.norm (K' := ((75, .int .i64 ((t2.getD (x10).toNat []).getD ((W .i64 (x21 + (W .i64 (a1)))).tmod ((t2.getD (x10).toNat []).length : Int)).toNat 0)) :: (74, .pointer (some ⟨g4_, o4_ + ((W .i64 (x21 + (W .i64 (a1)))).tmod ((t2.getD (x10).toNat []).length : Int)).toNat * 1, none⟩)) :: (73, .int .i64 ((W .i64 (x21 + (W .i64 (a1)))).tmod ((t2.getD (x10).toNat []).length : Int))) :: (72, .int .i64 ((t2.getD (x10).toNat []).length : Int)) :: (71, .int .i64 (W .i64 (x21 + (W .i64 (a1))))) :: (70, .int .i64 (W .i64 (a1))) :: (69, .int .u8 a1) :: (68, .int .i64 x21) :: (67, .slice A3_ ((t2.getD (x10).toNat []).length) c3_) :: (66, .pointer (some ⟨g3_, 0 + (x10).toNat * 1, none⟩)) :: (65, .int .i64 x10) :: (64, .slice A1 t2.length c1) :: (63, .int .i64 x21) :: (62, .slice A25 ((x18.set (x21).toNat ((t2.getD (x10).toNat []).getD ((W .i64 (x21 + (W .i64 (a1)))).tmod ((t2.getD (x10).toNat []).length : Int)).toNat 0)).length) c25) :: (59, .bool (decide (x21 < ((t2.getD (x10).toNat []).length : Int)))) :: (1, .int .u8 a1) :: (2, .int .u8 a2) :: (7, .bool t1) :: (8, .slice A1 t2.length c1) :: (9, .int .i64 t3) :: (10, .slice A15 ((x6 ++ [(t2.getD (W .i64 ((W .i64 ((t2.length : Int) - 1)) - x10)).toNat [])]).length) c15) :: (11, .slice A8 x7.length c8) :: (12, .slice A9 x8.length c9) :: (13, .slice A10 x9.length c10) :: (14, .int .i64 x10) :: (15, .int .i64 ((t2.getD (x10).toNat []).length : Int)) :: (16, .slice A25 ((x18.set (x21).toNat ((t2.getD (x10).toNat []).getD ((W .i64 (x21 + (W .i64 (a1)))).tmod ((t2.getD (x10).toNat []).length : Int)).toNat 0)).length) c25) :: (17, .slice A26 x19.length c26) :: (18, .slice A27 x20.length c27) :: (19, .int .i64 x21) :: [])) (L' := [⟨nx12, [.slice A1_ ((t2.getD (W .i64 ((W .i64 ((t2.length : Int) - 1)) - x10)).toNat []).length) c1_], 24⟩]) (by simp only [List.length_set]) rfl (by first | rfl | simp only [List.length_set]) rfl ?_
        refine RL.nil (by kernel_rfl) ?_
        refine QN.sub (K' := [(1, .int .u8 a1), (2, .int .u8 a2), (7, .bool t1), (8, .slice A1 t2.length c1), (9, .int .i64 t3), (10, .slice A15 ((x6 ++ [(t2.getD (W .i64 ((W .i64 ((t2.length : Int) - 1)) - x10)).toNat [])]).length) c15), (11, .slice A8 x7.length c8), (12, .slice A9 x8.length c9), (13, .slice A10 x9.length c10), (14, .int .i64 x10), (15, .int .i64 ((t2.getD (x10).toNat []).length : Int)), (16, .slice A25 ((x18.set (x21).toNat ((t2.getD (x10).toNat []).getD ((W .i64 (x21 + (W .i64 (a1)))).tmod ((t2.getD (x10).toNat []).length : Int)).toNat 0)).length) c25), (17, .slice A26 x19.length c26), (18, .slice A27 x20.length c27), (19, .int .i64 x21)]) (L' := [⟨nx12, [.slice A1_ ((t2.getD (W .i64 ((W .i64 ((t2.length : Int) - 1)) - x10)).toNat []).length) c1_], 24⟩]) (by kernel_rfl) (.cons_cons _ .slnil) (.refl _) ?_
        refine QN.then_ ?_
        refine OK.seq K7_58 K7_60 (by kernel_rfl) ?_
        refine OK.region 15 O7_58 (by kernel_rfl) ?_
        refine RL.simK (K' := [(80, .int .i64 x10), (79, .slice A1 t2.length c1), (78, .int .i64 x21), (77, .slice A26 x19.length c26), (1, .int .u8 a1), (2, .int .u8 a2), (7, .bool t1), (8, .slice A1 t2.length c1), (9, .int .i64 t3), (10, .slice A15 ((x6 ++ [(t2.getD (W .i64 ((W .i64 ((t2.length : Int) - 1)) - x10)).toNat [])]).length) c15), (11, .slice A8 x7.length c8), (12, .slice A9 x8.length c9), (13, .slice A10 x9.length c10), (14, .int .i64 x10), (15, .int .i64 ((t2.getD (x10).toNat []).length : Int)), (16, .slice A25 ((x18.set (x21).toNat ((t2.getD (x10).toNat []).getD ((W .i64 (x21 + (W .i64 (a1)))).tmod ((t2.getD (x10).toNat []).length : Int)).toNat 0)).length) c25), (17, .slice A26 x19.length c26), (18, .slice A27 x20.length c27), (19, .int .i64 x21)]) [] (RFacts.nil _ _ _) 4 [.no, .no, .no, .no] (by kernel_rfl) (by kernel_rfl) ?_
        by_cases hib0 : 0 ≤ x10
        case neg => rw [if_neg hib0] at H; cases H
        rw [if_pos hib0] at H
        by_cases hib1 : x10 < (t2.length : Int)
        case neg => rw [if_neg hib1] at H; cases H
        rw [if_pos hib1] at H
        have hx06_ := hib0; have hx16_ := hib1
        refine RL.ownAddr (e := 24) (sz := 1) (S := A1) (n := t2.length) (cap := c1) (cs := cs1) 0 (by kernel_rfl) (by omega) (fun g6_ hA6_ => ?_)
        obtain ⟨A6_, c6_, hl6_, hr6_, hc6_⟩ := Ty.slice_own (Reps.ext (Imm.le_trans (Imm.le_trans (Imm.le_trans hi7 hi9) hi14) hi15) hp1) x10 hib0 hib1
        refine RL.idx 1 .i64 x10 hA6_ t2.length c1 (some 81) (by kernel_rfl) (by kernel_rfl) (T := 22) (e := 24) (by kernel_rfl) (by kernel_rfl) hib0 hib1 (K' := [(81, .pointer (some ⟨g6_, 0 + (x10).toNat * 1, none⟩)), (80, .int .i64 x10), (79, .slice A1 t2.length c1), (78, .int .i64 x21), (77, .slice A26 x19.length c26), (1, .int .u8 a1), (2, .int .u8 a2), (7, .bool t1), (8, .slice A1 t2.length c1), (9, .int .i64 t3), (10, .slice A15 ((x6 ++ [(t2.getD (W .i64 ((W .i64 ((t2.length : Int) - 1)) - x10)).toNat [])]).length) c15), (11, .slice A8 x7.length c8), (12, .slice A9 x8.length c9), (13, .slice A10 x9.length c10), (14, .int .i64 x10), (15, .int .i64 ((t2.getD (x10).toNat []).length : Int)), (16, .slice A25 ((x18.set (x21).toNat ((t2.getD (x10).toNat []).getD ((W .i64 (x21 + (W .i64 (a1)))).tmod ((t2.getD (x10).toNat []).length : Int)).toNat 0)).length) c25), (17, .slice A26 x19.length c26), (18, .slice A27 x20.length c27), (19, .int .i64 x21)]) (by kernel_rfl) ?_
        refine RL.simK (K' := [(83, .int .i64 x21), (82, .slice A6_ ((t2.getD (x10).toNat []).length) c6_), (78, .int .i64 x21), (77, .slice A26 x19.length c26), (1, .int .u8 a1), (2, .int .u8 a2), (7, .bool t1), (8, .slice A1 t2.length c1), (9, .int .i64 t3), (10, .slice A15 ((x6 ++ [(t2.getD (W .i64 ((W .i64 ((t2.length : Int) - 1)) - x10)).toNat [])]).length) c15), (11, .slice A8 x7.length c8), (12, .slice A9 x8.length c9), (13, .slice A10 x9.length c10), (14, .int .i64 x10), (15, .int .i64 ((t2.getD (x10).toNat []).length : Int)), (16, .slice A25 ((x18.set (x21).toNat ((t2.getD (x10).toNat []).getD ((W .i64 (x21 + (W .i64 (a1)))).tmod ((t2.getD (x10).toNat []).length : Int)).toNat 0)).length) c25), (17, .slice A26 x19.length c26), (18, .slice A27 x20.length c27), (19, .int .i64 x21)]) [(⟨g6_, 0 + (x10).toNat * 1, none⟩, .slice A6_ ((t2.getD (x10).toNat []).length) c6_)] (RFacts.ownQ (e := 24) (sz := 1) (S := A1) (n := t2.length) (cap := c1) (cs := cs1) 0 (by kernel_rfl) hA6_ (0 + (x10).toNat * 1) ((x10).toNat * 1 + 0) (by omega) (hc6_ 0 _ rfl) (RFacts.nil _ _ _)) 2 [.r 0, .no] (by kernel_rfl) (by kernel_rfl) ?_
        by_cases hib0 : 0 ≤ x21
        case neg => rw [if_neg hib0] at H; cases H
        rw [if_pos hib0] at H
        by_cases hib1 : x21 < ((t2.getD (x10).toNat []).length : Int)
        case neg => rw [if_neg hib1] at H; cases H
        rw [if_pos hib1] at H
        obtain ⟨g7_, o7_, hA7_, hc7_⟩ := Ty.int_at hr6_ x21 hib0 hib1
        refine RL.idx 1 .i64 x21 hA7_ ((t2.getD (x10).toNat []).length) c6_ (some 84) (by kernel_rfl) (by kernel_rfl) (T := 24) (e := 2) (by kernel_rfl) (by kernel_rfl) hib0 hib1 (K' := [(84, .pointer (some ⟨g7_, o7_ + (x21).toNat * 1, none⟩)), (83, .int .i64 x21), (82, .slice A6_ ((t2.getD (x10).toNat []).length) c6_), (78, .int .i64 x21), (77, .slice A26 x19.length c26), (1, .int .u8 a1), (2, .int .u8 a2), (7, .bool t1), (8, .slice A1 t2.length c1), (9, .int .i64 t3), (10, .slice A15 ((x6 ++ [(t2.getD (W .i64 ((W .i64 ((t2.length : Int) - 1)) - x10)).toNat [])]).length) c15), (11, .slice A8 x7.length c8), (12, .slice A9 x8.length c9), (13, .slice A10 x9.length c10), (14, .int .i64 x10), (15, .int .i64 ((t2.getD (x10).toNat []).length : Int)), (16, .slice A25 ((x18.set (x21).toNat ((t2.getD (x10).toNat []).getD ((W .i64 (x21 + (W .i64 (a1)))).tmod ((t2.getD (x10).toNat []).length : Int)).toNat 0)).length) c25), (17, .slice A26 x19.length c26), (18, .slice A27 x20.length c27), (19, .int .i64 x21)]) (by kernel_rfl) ?_
        refine RL.simK (K' := [(86, .int .i64 (((t2.getD (x10).toNat []).getD (x21).toNat 0).tmod 67108864)), (78, .int .i64 x21), (77, .slice A26 x19.length c26), (1, .int .u8 a1), (2, .int .u8 a2), (7, .bool t1), (8, .slice A1 t2.length c1), (9, .int .i64 t3), (10, .slice A15 ((x6 ++ [(t2.getD (W .i64 ((W .i64 ((t2.length : Int) - 1)) - x10)).toNat [])]).length) c15), (11, .slice A8 x7.length c8), (12, .slice A9 x8.length c9), (13, .slice A10 x9.length c10), (14, .int .i64 x10), (15, .int .i64 ((t2.getD (x10).toNat []).length : Int)), (16, .slice A25 ((x18.set (x21).toNat ((t2.getD (x10).toNat []).getD ((W .i64 (x21 + (W .i64 (a1)))).tmod ((t2.getD (x10).toNat []).length : Int)).toNat 0)).length) c25), (17, .slice A26 x19.length c26), (18, .slice A27 x20.length c27), (19, .int .i64 x21)]) [(⟨g7_, o7_ + (x21).toNat * 1, none⟩, .int .i64 ((t2.getD (x10).toNat []).getD (x21).toNat 0))] (RFacts.imm (hc7_ 0 _ rfl) (RFacts.nil _ _ _)) 2 [.r 0, .no] (by kernel_rfl) (by kernel_rfl) ?_
        by_cases hib0 : 0 ≤ x21
        case neg => rw [if_neg hib0] at H; cases H
        rw [if_pos hib0] at H
        by_cases hib1 : x21 < (x19.length : Int)
        case neg => rw [if_neg hib1] at H; cases H
        rw [if_pos hib1] at H
        have hx08_ := hib0; have hx18_ := hib1
        refine RL.ownAddr (e := 2) (sz := 1) (S := A26) (n := x19.length) (cap := c26) (cs := cs26) 6 (by kernel_rfl) (by omega) (fun g8_ hA8_ => ?_)
        have hc8_ := Ty.int_own (Reps.ext hi15 hp23) x21 hib0 hib1
        refine RL.idx 1 .i64 x21 hA8_ x19.length c26 (some 87) (by kernel_rfl) (by kernel_rfl) (T := 24) (e := 2) (by kernel_rfl) (by kernel_rfl) hib0 hib1 (K' := [(87, .pointer (some ⟨g8_, 0 + (x21).toNat * 1, none⟩)), (86, .int .i64 (((t2.getD (x10).toNat []).getD (x21).toNat 0).tmod 67108864)), (78, .int .i64 x21), (77, .slice A26 x19.length c26), (1, .int .u8 a1), (2, .int .u8 a2), (7, .bool t1), (8, .slice A1 t2.length c1), (9, .int .i64 t3), (10, .slice A15 ((x6 ++ [(t2.getD (W .i64 ((W .i64 ((t2.length : Int) - 1)) - x10)).toNat [])]).length) c15), (11, .slice A8 x7.length c8), (12, .slice A9 x8.length c9), (13, .slice A10 x9.length c10), (14, .int .i64 x10), (15, .int .i64 ((t2.getD (x10).toNat []).length : Int)), (16, .slice A25 ((x18.set (x21).toNat ((t2.getD (x10).toNat []).getD ((W .i64 (x21 + (W .i64 (a1)))).tmod ((t2.getD (x10).toNat []).length : Int)).toNat 0)).length) c25), (17, .slice A26 x19.length c26), (18, .slice A27 x20.length c27), (19, .int .i64 x21)]) (by kernel_rfl) ?_
        refine RL.storeL (T := 2) (e := 2) 1 6 hA8_ c26 x21 cs26 [.int .i64 (((t2.getD (x10).toNat []).getD (x21).toNat 0).tmod 67108864)] (.int .i64 (((t2.getD (x10).toNat []).getD (x21).toNat 0).tmod 67108864)) (Ty.int .i64) x19 (((t2.getD (x10).toNat []).getD (x21).toNat 0).tmod 67108864) (by kernel_rfl) (by kernel_rfl) (by kernel_rfl) (by kernel_rfl) (by kernel_rfl) rfl (by kernel_rfl) (Reps.ext hi15 hp23) hx08_ hx18_ (fun cs29 hp26 => ?_)
        refine RL.sub (K' := [(86, .int .i64 (((t2.getD (x10).toNat []).getD (x21).toNat 0).tmod 67108864)), (78, .int .i64 x21), (77, .slice A26 x19.length c26), (1, .int .u8 a1), (2, .int .u8 a2), (7, .bool t1), (8, .slice A1 t2.length c1), (9, .int .i64 t3), (10, .slice A15 ((x6 ++ [(t2.getD (W .i64 ((W .i64 ((t2.length : Int) - 1)) - x10)).toNat [])]).length) c15), (11, .slice A8 x7.length c8), (12, .slice A9 x8.length c9), (13, .slice A10 x9.length c10), (14, .int .i64 x10), (15, .int .i64 ((t2.getD (x10).toNat []).length : Int)), (16, .slice A25 ((x18.set (x21).toNat ((t2.getD (x10).toNat []).getD ((W .i64 (x21 + (W .i64 (a1)))).tmod ((t2.getD (x10).toNat []).length : Int)).toNat 0)).length) c25), (17, .slice A26 x19.length c26), (18, .slice A27 x20.length c27), (19, .int .i64 x21)]) (L' := [⟨nx12, [.slice A1_ ((t2.getD (W .i64 ((W .i64 ((t2.length : Int) - 1)) - x10)).toNat []).length) c1_], 24⟩]) (X' := [orow 24 1 A1 t2.length c1 cs1, orow 24 1 A15 ((x6 ++ [(t2.getD (W .i64 ((W .i64 ((t2.length : Int) - 1)) - x10)).toNat [])]).length) c15 cs15, orow 24 1 A8 x7.length c8 cs8, orow 24 1 A9 x8.length c9 cs9, orow 24 1 A10 x9.length c10 cs10, orow 2 1 A25 ((x18.set (x21).toNat ((t2.getD (x10).toNat []).getD ((W .i64 (x21 + (W .i64 (a1)))).tmod ((t2.getD (x10).toNat []).length : Int)).toNat 0)).length) c25 cs28, orow 2 1 A26 ((x19.set (x21).toNat (((t2.getD (x10).toNat []).getD (x21).toNat 0).tmod 67108864)).length) c26 cs29, orow 2 1 A27 x20.length c27 cs27]) (by kernel_rfl) (.refl _) (.refl _) ?_
        refine RL.norm (K' := [(86, .int .i64 (((t2.getD (x10).toNat []).getD (x21).toNat 0).tmod 67108864)), (78, .int .i64 x21), (77, .slice A26 ((x19.set (x21).toNat (((t2.getD (x10).toNat []).getD (x21).toNat 0).tmod 67108864)).length) c26), (1, .int .u8 a1), (2, .int .u8 a2), (7, .bool t1), (8, .slice A1 t2.length c1), (9, .int .i64 t3), (10, .slice A15 ((x6 ++ [(t2.getD (W .i64 ((W .i64 ((t2.length : Int) - 1)) - x10)).toNat [])]).length) c15), (11, .slice A8 x7.length c8), (12, .slice A9 x8.length c9), (13, .slice A10 x9.length c10), (14, .int .i64 x10), (15, .int .i64 ((t2.getD (x10).toNat []).length : Int)), (16, .slice A25 ((x18.set (x21).toNat ((t2.getD (x10).toNat []).getD ((W .i64 (x21 + (W .i64 (a1)))).tmod ((t2.getD (x10).toNat []).length : Int)).toNat 0)).length) c25), (17, .slice A26 ((x19.set (x21).toNat (((t2.getD (x10).toNat []).getD (x21).toNat 0).tmod 67108864)).length) c26), (18, .slice A27 x20.length c27), (19, .int .i64 x21)]) (L' := [⟨nx12, [.slice A1_ ((t2.getD (W .i64 ((W .i64 ((t2.length : Int) - 1)) - x10)).toNat []).length) c1_], 24⟩]) (by simp only [List.length_set]) rfl (by first | rfl | simp only [List.length_set]) rfl ?_
        refine RL.nil (by kernel_rfl) ?_
        refine QN.sub (K' := [(1, .int .u8 a1), (2, .int .u8 a2), (7, .bool t1), (8, .slice A1 t2.length c1), (9, .int .i64 t3), (10, .slice A15 ((x6 ++ [(t2.getD (W .i64 ((W .i64 ((t2.length : Int) - 1)) - x10)).toNat [])]).length) c15), (11, .slice A8 x7.length c8), (12, .slice A9 x8.length c9), (13, .slice A10 x9.length c10), (14, .int .i64 x10), (15, .int .i64 ((t2.getD (x10).toNat []).length : Int)), (16, .slice A25 ((x18.set (x21).toNat ((t2.getD (x10).toNat []).getD ((W .i64 (x21 + (W .i64 (a1)))).tmod ((t2.getD (x10).toNat []).length : Int)).toNat 0)).length) c25), (17, .slice A26 ((x19.set (x21).toNat (((t2.getD (x10).toNat []).getD (x21).toNat 0).tmod 67108864)).length) c26), (18, .slice A27 x20.length c27), (19, .int .i64 x21)]) (L' := [⟨nx12, [.slice A1_ ((t2.getD (W .i64 ((W .i64 ((t2.length : Int) - 1)) - x10)).toNat []).length) c1_], 24⟩]) (by kernel_rfl) (.cons_cons _ .slnil) (.refl _) ?_
        refine QN.then_ ?_
        refine OK.region 16 O7_60 (by kernel_rfl) ?_
        refine RL.simK (K' := [(91, .int .i64 x21), (90, .slice A26 ((x19.set (x21).toNat (((t2.getD (x10).toNat []).getD (x21).toNat 0).tmod 67108864)).length) c26), (89, .int .i64 x21), (88, .slice A27 x20.length c27), (1, .int .u8 a1), (2, .int .u8 a2), (7, .bool t1), (8, .slice A1 t2.length c1), (9, .int .i64 t3), (10, .slice A15 ((x6 ++ [(t2.getD (W .i64 ((W .i64 ((t2.length : Int) - 1)) - x10)).toNat [])]).length) c15), (11, .slice A8 x7.length c8), (12, .slice A9 x8.length c9), (13, .slice A10 x9.length c10), (14, .int .i64 x10), (15, .int .i64 ((t2.getD (x10).toNat []).length : Int)), (16, .slice A25 ((x18.set (x21).toNat ((t2.getD (x10).toNat []).getD ((W .i64 (x21 + (W .i64 (a1)))).tmod ((t2.getD (x10).toNat []).length : Int)).toNat 0)).length) c25), (17, .slice A26 ((x19.set (x21).toNat (((t2.getD (x10).toNat []).getD (x21).toNat 0).tmod 67108864)).length) c26), (18, .slice A27 x20.length c27), (19, .int .i64 x21)]) [] (RFacts.nil _ _ _) 4 [.no, .no, .no, .no] (by kernel_rfl) (by kernel_rfl) ?_
        by_cases hib0 : 0 ≤ x21
        case neg => rw [if_neg hib0] at H; cases H
        rw [if_pos hib0] at H
        by_cases hib1 : x21 < ((x19.set (x21).toNat (((t2.getD (x10).toNat []).getD (x21).toNat 0).tmod 67108864)).length : Int)
        case neg => rw [if_neg hib1] at H; cases H
        rw [if_pos hib1] at H
        have hx09_ := hib0; have hx19_ := hib1
        refine RL.ownAddr (e := 2) (sz := 1) (S := A26) (n := (x19.set (x21).toNat (((t2.getD (x10).toNat []).getD (x21).toNat 0).tmod 67108864)).length) (cap := c26) (cs := cs29) 6 (by kernel_rfl) (by omega) (fun g9_ hA9_ => ?_)
        have hc9_ := Ty.int_own hp26 x21 hib0 hib1
        refine RL.idx 1 .i64 x21 hA9_ ((x19.set (x21).toNat (((t2.getD (x10).toNat []).getD (x21).toNat 0).tmod 67108864)).length) c26 (some 92) (by kernel_rfl) (by kernel_rfl) (T := 24) (e := 2) (by kernel_rfl) (by kernel_rfl) hib0 hib1 (K' := [(92, .pointer (some ⟨g9_, 0 + (x21).toNat * 1, none⟩)), (91, .int .i64 x21), (90, .slice A26 ((x19.set (x21).toNat (((t2.getD (x10).toNat []).getD (x21).toNat 0).tmod 67108864)).length) c26), (89, .int .i64 x21), (88, .slice A27 x20.length c27), (1, .int .u8 a1), (2, .int .u8 a2), (7, .bool t1), (8, .slice A1 t2.length c1), (9, .int .i64 t3), (10, .slice A15 ((x6 ++ [(t2.getD (W .i64 ((W .i64 ((t2.length : Int) - 1)) - x10)).toNat [])]).length) c15), (11, .slice A8 x7.length c8), (12, .slice A9 x8.length c9), (13, .slice A10 x9.length c10), (14, .int .i64 x10), (15, .int .i64 ((t2.getD (x10).toNat []).length : Int)), (16, .slice A25 ((x18.set (x21).toNat ((t2.getD (x10).toNat []).getD ((W .i64 (x21 + (W .i64 (a1)))).tmod ((t2.getD (x10).toNat []).length : Int)).toNat 0)).length) c25), (17, .slice A26 ((x19.set (x21).toNat (((t2.getD (x10).toNat []).getD (x21).toNat 0).tmod 67108864)).length) c26), (18, .slice A27 x20.length c27), (19, .int .i64 x21)]) (by kernel_rfl) ?_
        refine RL.simK (K' := [(97, .int .i64 (W .i64 (((x19.set (x21).toNat (((t2.getD (x10).toNat []).getD (x21).toNat 0).tmod 67108864)).getD (x21).toNat 0) * (W .i64 (a2.tmod 16))))), (89, .int .i64 x21), (88, .slice A27 x20.length c27), (1, .int .u8 a1), (2, .int .u8 a2), (7, .bool t1), (8, .slice A1 t2.length c1), (9, .int .i64 t3), (10, .slice A15 ((x6 ++ [(t2.getD (W .i64 ((W .i64 ((t2.length : Int) - 1)) - x10)).toNat [])]).length) c15), (11, .slice A8 x7.length c8), (12, .slice A9 x8.length c9), (13, .slice A10 x9.length c10), (14, .int .i64 x10), (15, .int .i64 ((t2.getD (x10).toNat []).length : Int)), (16, .slice A25 ((x18.set (x21).toNat ((t2.getD (x10).toNat []).getD ((W .i64 (x21 + (W .i64 (a1)))).tmod ((t2.getD (x10).toNat []).length : Int)).toNat 0)).length) c25), (17, .slice A26 ((x19.set (x21).toNat (((t2.getD (x10).toNat []).getD (x21).toNat 0).tmod 67108864)).length) c26), (18, .slice A27 x20.length c27), (19, .int .i64 x21)]) [(⟨g9_, 0 + (x21).toNat * 1, none⟩, .int .i64 ((x19.set (x21).toNat (((t2.getD (x10).toNat []).getD (x21).toNat 0).tmod 67108864)).getD (x21).toNat 0))] (RFacts.ownQ (e := 2) (sz := 1) (S := A26) (n := (x19.set (x21).toNat (((t2.getD (x10).toNat []).getD (x21).toNat 0).tmod 67108864)).length) (cap := c26) (cs := cs29) 6 (by kernel_rfl) hA9_ (0 + (x21).toNat * 1) ((x21).toNat * 1 + 0) (by omega) (hc9_ 0 _ rfl) (RFacts.nil _ _ _)) 5 [.r 0, .no, .no, .no, .no] (by kernel_rfl) (by kernel_rfl) ?_
        by_cases hib0 : 0 ≤ x21
        case neg => rw [if_neg hib0] at H; cases H
        rw [if_pos hib0] at H
        by_cases hib1 : x21 < (x20.length : Int)
        case neg => rw [if_neg hib1] at H; cases H
        rw [if_pos hib1] at H
        have hx010_ := hib0; have hx110_ := hib1
        refine RL.ownAddr (e := 2) (sz := 1) (S := A27) (n := x20.length) (cap := c27) (cs := cs27) 7 (by kernel_rfl) (by omega) (fun g10_ hA10_ => ?_)
        have hc10_ := Ty.int_own (Reps.ext hi15 hp24) x21 hib0 hib1
        refine RL.idx 1 .i64 x21 hA10_ x20.length c27 (some 98) (by kernel_rfl) (by kernel_rfl) (T := 24) (e := 2) (by kernel_rfl) (by kernel_rfl) hib0 hib1 (K' := [(98, .pointer (some ⟨g10_, 0 + (x21).toNat * 1, none⟩)), (97, .int .i64 (W .i64 (((x19.set (x21).toNat (((t2.getD (x10).toNat []).getD (x21).toNat 0).tmod 67108864)).getD (x21).toNat 0) * (W .i64 (a2.tmod 16))))), (89, .int .i64 x21), (88, .slice A27 x20.length c27), (1, .int .u8 a1), (2, .int .u8 a2), (7, .bool t1), (8, .slice A1 t2.length c1), (9, .int .i64 t3), (10, .slice A15 ((x6 ++ [(t2.getD (W .i64 ((W .i64 ((t2.length : Int) - 1)) - x10)).toNat [])]).length) c15), (11, .slice A8 x7.length c8), (12, .slice A9 x8.length c9), (13, .slice A10 x9.length c10), (14, .int .i64 x10), (15, .int .i64 ((t2.getD (x10).toNat []).length : Int)), (16, .slice A25 ((x18.set (x21).toNat ((t2.getD (x10).toNat []).getD ((W .i64 (x21 + (W .i64 (a1)))).tmod ((t2.getD (x10).toNat []).length : Int)).toNat 0)).length) c25), (17, .slice A26 ((x19.set (x21).toNat (((t2.getD (x10).toNat []).getD (x21).toNat 0).tmod 67108864)).length) c26), (18, .slice A27 x20.length c27), (19, .int .i64 x21)]) (by kernel_rfl) ?_
        refine RL.storeL (T := 2) (e := 2) 1 7 hA10_ c27 x21 cs27 [.int .i64 (W .i64 (((x19.set (x21).toNat (((t2.getD (x10).toNat []).getD (x21).toNat 0).tmod 67108864)).getD (x21).toNat 0) * (W .i64 (a2.tmod 16))))] (.int .i64 (W .i64 (((x19.set (x21).toNat (((t2.getD (x10).toNat []).getD (x21).toNat 0).tmod 67108864)).getD (x21).toNat 0) * (W .i64 (a2.tmod 16))))) (Ty.int .i64) x20 (W .i64 (((x19.set (x21).toNat (((t2.getD (x10).toNat []).getD (x21).toNat 0).tmod 67108864)).getD (x21).toNat 0) * (W .i64 (a2.tmod 16)))) (by kernel_rfl) (by kernel_rfl) (by kernel_rfl) (by kernel_rfl) (by kernel_rfl) rfl (by kernel_rfl) (Reps.ext hi15 hp24) hx010_ hx110_ (fun cs30 hp27 => ?_)
        refine RL.sub (K' := [(97, .int .i64 (W .i64 (((x19.set (x21).toNat (((t2.getD (x10).toNat []).getD (x21).toNat 0).tmod 67108864)).getD (x21).toNat 0) * (W .i64 (a2.tmod 16))))), (89, .int .i64 x21), (88, .slice A27 x20.length c27), (1, .int .u8 a1), (2, .int .u8 a2), (7, .bool t1), (8, .slice A1 t2.length c1), (9, .int .i64 t3), (10, .slice A15 ((x6 ++ [(t2.getD (W .i64 ((W .i64 ((t2.length : Int) - 1)) - x10)).toNat [])]).length) c15), (11, .slice A8 x7.length c8), (12, .slice A9 x8.length c9), (13, .slice A10 x9.length c10), (14, .int .i64 x10), (15, .int .i64 ((t2.getD (x10).toNat []).length : Int)), (16, .slice A25 ((x18.set (x21).toNat ((t2.getD (x10).toNat []).getD ((W .i64 (x21 + (W .i64 (a1)))).tmod ((t2.getD (x10).toNat []).length : Int)).toNat 0)).length) c25), (17, .slice A26 ((x19.set (x21).toNat (((t2.getD (x10).toNat []).getD (x21).toNat 0).tmod 67108864)).length) c26), (18, .slice A27 x20.length c27), (19, .int .i64 x21)]) (L' := [⟨nx12, [.slice A1_ ((t2.getD (W .i64 ((W .i64 ((t2.length : Int) - 1)) - x10)).toNat []).length) c1_], 24⟩]) (X' := [orow 24 1 A1 t2.length c1 cs1, orow 24 1 A15 ((x6 ++ [(t2.getD (W .i64 ((W .i64 ((t2.length : Int) - 1)) - x10)).toNat [])]).length) c15 cs15, orow 24 1 A8 x7.length c8 cs8, orow 24 1 A9 x8.length c9 cs9, orow 24 1 A10 x9.length c10 cs10, orow 2 1 A25 ((x18.set (x21).toNat ((t2.getD (x10).toNat []).getD ((W .i64 (x21 + (W .i64 (a1)))).tmod ((t2.getD (x10).toNat []).length : Int)).toNat 0)).length) c25 cs28, orow 2 1 A26 ((x19.set (x21).toNat (((t2.getD (x10).toNat []).getD (x21).toNat 0).tmod 67108864)).length) c26 cs29, orow 2 1 A27 ((x20.set (x21).toNat (W .i64 (((x19.set (x21).toNat (((t2.getD (x10).toNat []).getD (x21).toNat 0).tmod 67108864)).getD (x21).toNat 0) * (W .i64 (a2.tmod 16))))).length) c27 cs30]) (by kernel_rfl) (.refl _) (.refl _) ?_
        refine RL.norm (K' := [(97, .int .i64 (W .i64 (((x19.set (x21).toNat (((t2.getD (x10).toNat []).getD (x21).toNat 0).tmod 67108864)).getD (x21).toNat 0) * (W .i64 (a2.tmod 16))))), (89, .int .i64 x21), (88, .slice A27 ((x20.set (x21).toNat (W .i64 (((x19.set (x21).toNat (((t2.getD (x10).toNat []).getD (x21).toNat 0).tmod 67108864)).getD (x21).toNat 0) * (W .i64 (a2.tmod 16))))).length) c27), (1, .int .u8 a1), (2, .int .u8 a2), (7, .bool t1), (8, .slice A1 t2.length c1), (9, .int .i64 t3), (10, .slice A15 ((x6 ++ [(t2.getD (W .i64 ((W .i64 ((t2.length : Int) - 1)) - x10)).toNat [])]).length) c15), (11, .slice A8 x7.length c8), (12, .slice A9 x8.length c9), (13, .slice A10 x9.length c10), (14, .int .i64 x10), (15, .int .i64 ((t2.getD (x10).toNat []).length : Int)), (16, .slice A25 ((x18.set (x21).toNat ((t2.getD (x10).toNat []).getD ((W .i64 (x21 + (W .i64 (a1)))).tmod ((t2.getD (x10).toNat []).length : Int)).toNat 0)).length) c25), (17, .slice A26 ((x19.set (x21).toNat (((t2.getD (x10).toNat []).getD (x21).toNat 0).tmod 67108864)).length) c26), (18, .slice A27 ((x20.set (x21).toNat (W .i64 (((x19.set (x21).toNat (((t2.getD (x10).toNat []).getD (x21).toNat 0).tmod 67108864)).getD (x21).toNat 0) * (W .i64 (a2.tmod 16))))).length) c27), (19, .int .i64 x21)]) (L' := [⟨nx12, [.slice A1_ ((t2.getD (W .i64 ((W .i64 ((t2.length : Int) - 1)) - x10)).toNat []).length) c1_], 24⟩]) (by simp only [List.length_set]) rfl (by first | rfl | simp only [List.length_set]) rfl ?_
        refine RL.nil (by kernel_rfl) ?_
        refine QN.sub (K' := [(1, .int .u8 a1), (2, .int .u8 a2), (7, .bool t1), (8, .slice A1 t2.length c1), (9, .int .i64 t3), (10, .slice A15 ((x6 ++ [(t2.getD (W .i64 ((W .i64 ((t2.length : Int) - 1)) - x10)).toNat [])]).length) c15), (11, .slice A8 x7.length c8), (12, .slice A9 x8.length c9), (13, .slice A10 x9.length c10), (14, .int .i64 x10), (15, .int .i64 ((t2.getD (x10).toNat []).length : Int)), (16, .slice A25 ((x18.set (x21).toNat ((t2.getD (x10).toNat []).getD ((W .i64 (x21 + (W .i64 (a1)))).tmod ((t2.getD (x10).toNat []).length : Int)).toNat 0)).length) c25), (17, .slice A26 ((x19.set (x21).toNat (((t2.getD (x10).toNat []).getD (x21).toNat 0).tmod 67108864)).length) c26), (18, .slice A27 ((x20.set (x21).toNat (W .i64 (((x19.set (x21).toNat (((t2.getD (x10).toNat []).getD (x21).toNat 0).tmod 67108864)).getD (x21).toNat 0) * (W .i64 (a2.tmod 16))))).length) c27), (19, .int .i64 x21)]) (L' := [⟨nx12, [.slice A1_ ((t2.getD (W .i64 ((W .i64 ((t2.length : Int) - 1)) - x10)).toNat []).length) c1_], 24⟩]) (by kernel_rfl) (.cons_cons _ .slnil) (.refl _) ?_
        refine QN.blkN ?_
        refine QN.then_ ?_
        refine OK.region 13 O7_62 (by kernel_rfl) ?_
        refine RL.simK (K' := [(19, .int .i64 (W .i64 (x21 + 1))), (1, .int .u8 a1), (2, .int .u8 a2), (7, .bool t1), (8, .slice A1 t2.length c1), (9, .int .i64 t3), (10, .slice A15 ((x6 ++ [(t2.getD (W .i64 ((W .i64 ((t2.length : Int) - 1)) - x10)).toNat [])]).length) c15), (11, .slice A8 x7.length c8), (12, .slice A9 x8.length c9), (13, .slice A10 x9.length c10), (14, .int .i64 x10), (15, .int .i64 ((t2.getD (x10).toNat []).length : Int)), (16, .slice A25 ((x18.set (x21).toNat ((t2.getD (x10).toNat []).getD ((W .i64 (x21 + (W .i64 (a1)))).tmod ((t2.getD (x10).toNat []).length : Int)).toNat 0)).length) c25), (17, .slice A26 ((x19.set (x21).toNat (((t2.getD (x10).toNat []).getD (x21).toNat 0).tmod 67108864)).length) c26), (18, .slice A27 ((x20.set (x21).toNat (W .i64 (((x19.set (x21).toNat (((t2.getD (x10).toNat []).getD (x21).toNat 0).tmod 67108864)).getD (x21).toNat 0) * (W .i64 (a2.tmod 16))))).length) c27)]) [] (RFacts.nil _ _ _) 3 [.no, .no, .no] (by kernel_rfl) (by kernel_rfl) ?_
        refine RL.nil (by kernel_rfl) ?_
        refine QN.sub (K' := [(1, .int .u8 a1), (2, .int .u8 a2), (7, .bool t1), (8, .slice A1 t2.length c1), (9, .int .i64 t3), (10, .slice A15 ((x6 ++ [(t2.getD (W .i64 ((W .i64 ((t2.length : Int) - 1)) - x10)).toNat [])]).length) c15), (11, .slice A8 x7.length c8), (12, .slice A9 x8.length c9), (13, .slice A10 x9.length c10), (14, .int .i64 x10), (15, .int .i64 ((t2.getD (x10).toNat []).length : Int)), (16, .slice A25 ((x18.set (x21).toNat ((t2.getD (x10).toNat []).getD ((W .i64 (x21 + (W .i64 (a1)))).tmod ((t2.getD (x10).toNat []).length : Int)).toNat 0)).length) c25), (17, .slice A26 ((x19.set (x21).toNat (((t2.getD (x10).toNat []).getD (x21).toNat 0).tmod 67108864)).length) c26), (18, .slice A27 ((x20.set (x21).toNat (W .i64 (((x19.set (x21).toNat (((t2.getD (x10).toNat []).getD (x21).toNat 0).tmod 67108864)).getD (x21).toNat 0) * (W .i64 (a2.tmod 16))))).length) c27), (19, .int .i64 (W .i64 (x21 + 1)))]) (L' := [⟨nx12, [.slice A1_ ((t2.getD (W .i64 ((W .i64 ((t2.length : Int) - 1)) - x10)).toNat []).length) c1_], 24⟩]) (by kernel_rfl) (.cons_cons _ .slnil) (.refl _) ?_
        exact hJ6 _ _ _ _ _ ⟨x18.set (x21).toNat ((t2.getD (x10).toNat []).getD ((W .i64 (x21 + (W .i64 (a1)))).tmod ((t2.getD (x10).toNat []).length : Int)).toNat 0), x19.set (x21).toNat (((t2.getD (x10).toNat []).getD (x21).toNat 0).tmod 67108864), x20.set (x21).toNat (W .i64 (((x19.set (x21).toNat (((t2.getD (x10).toNat []).getD (x21).toNat 0).tmod 67108864)).getD (x21).toNat 0) * (W .i64 (a2.tmod 16)))), W .i64 (x21 + 1), A25, c25, cs28, A26, c26, cs29, A27, c27, cs30, rfl, rfl, rfl, (Imm.le_trans hi14 hi15), hp25, hp26, hp27, H⟩
       ·skip
        have hc := (of_decide_eq_false hb)
        rw [if_neg hc] at H
        clear hb
        refine OK.exit 2 (by kernel_rfl) ?_
        refine QN.thenE ?_
        refine QN.outE hQ6 ?_
        refine QN.blkE ?_
        obtain rfl := Option.some.inj H
        refine QN.sub (K' := [(1, .int .u8 a1), (2, .int .u8 a2), (7, .bool t1), (8, .slice A1 t2.length c1), (9, .int .i64 t3), (10, .slice A15 ((x6 ++ [(t2.getD (W .i64 ((W .i64 ((t2.length : Int) - 1)) - x10)).toNat [])]).length) c15), (11, .slice A8 x7.length c8), (12, .slice A9 x8.length c9), (13, .slice A10 x9.length c10), (14, .int .i64 x10), (16, .slice A25 x18.length c25), (17, .slice A26 x19.length c26), (18, .slice A27 x20.length c27)]) (L' := [⟨nx12, [.slice A1_ ((t2.getD (W .i64 ((W .i64 ((t2.length : Int) - 1)) - x10)).toNat []).length) c1_], 24⟩]) (by kernel_rfl) (.cons_cons _ .slnil) (.refl _) ?_
        exact hJ5 _ _ _ _ _ ⟨x18, x19, x20, A25, c25, cs25, A26, c26, cs26, A27, c27, cs27, rfl, rfl, rfl, hi14, hp22, hp23, hp24, HK4⟩
   ·skip
    have hc := (of_decide_eq_false hb)
    rw [if_neg hc] at H
    clear hb
    refine OK.exit 0 (by kernel_rfl) ?_
    refine QN.thenE ?_
    refine QN.outE hQ3 ?_
    refine QN.blkE ?_
    obtain rfl := Option.some.inj H
    refine QN.sub (K' := [(2, .int .u8 a2), (7, .bool t1), (8, .slice A1 t2.length c1), (9, .int .i64 t3), (10, .slice A7 x6.length c7), (11, .slice A8 x7.length c8), (12, .slice A9 x8.length c9), (13, .slice A10 x9.length c10)]) (L' := []) (by kernel_rfl) .slnil (.refl _) ?_
    exact hJ1 _ _ _ _ _ ⟨x6, x7, x8, x9, A7, c7, cs7, A8, c8, cs8, A9, c9, cs9, A10, c10, cs10, rfl, rfl, rfl, hi7, hp7, hp8, hp9, hp10, HK1⟩

end Go.Proofs.Ytdmhbcgmimfjcaa
namespace Go.Proofs.Ytdmhbcgmimfjcaa.RW
open Go Go.RowKit

/-- The whole memory, as cells that never turn. -/
def wImm (W : World) : Imm := look W
theorem wImm_at (W : World) : (wImm W).at_ W := fun _ _ h => h
/-- What reads as a datum of type t is told by d, with p. -/
def Opens (P : Program) {α : Type} (d : Ty α) (t : TypeId) (p : α → Prop) : Prop :=
 ∀ {H : Type} {enc : TypeId × Value → H} (W : World) (base : Nat) (sp : Nat → Bool) (held : Bool) (fuel : Nat) (cs : List Value) (x : DataW H × List MemPlace), DataW.trod enc P W base sp held fuel t cs = some x → ∃ a, d.K (wImm W) a cs ∧ p a

section
variable {P : Program} {α β : Type} {d : Ty α} {t e : TypeId} {p : α → Prop}
theorem opens_int {k : IntKind} (ht : P.underlying t = some (.int k)) : Opens P (Ty.int k) t (fun n => (Lit.int k n).wf = true) := by
 intro H enc W base sp held fuel cs x h
 obtain ⟨n, rfl, _, hw⟩ := DataW.trod_int ht h
 exact ⟨n, rfl, hw⟩
theorem opens_bool (ht : P.underlying t = some .bool) : Opens P Ty.bool t (fun _ => True) := by
 intro H enc W base sp held fuel cs x h
 obtain ⟨b, rfl, _⟩ := DataW.trod_bool ht h
 exact ⟨b, rfl, trivial⟩
theorem opens_string (ht : P.underlying t = some .string) : Opens P Ty.string t (fun s => s.size ≤ maxLen) := by
 intro H enc W base sp held fuel cs x h
 obtain ⟨s, rfl, _, hs⟩ := DataW.trod_string ht h
 exact ⟨s, rfl, hs⟩
theorem add_add {a : Addr} (h : a.spot = none) (n m : Nat) : (a.add n).add m = ⟨a.block, a.off + n + m, none⟩ := by
 obtain ⟨b, o, s⟩ := a
 obtain rfl : s = none := h
 unfold Addr.add
 split <;> split <;> simp_all
theorem opens_slice (ho : Opens P d e p) (ht : P.underlying t = some (.slice e)) (hsz : P.cellsOf e = d.sz) (hpos : 0 < d.sz) : Opens P (Ty.slice d) t (fun l => ∀ x ∈ l, p x) := by
 intro H enc W base sp held fuel cs x h
 rcases DataW.trod_slice ht h with ⟨rfl, _⟩ | ⟨a, len, cap, elems, rest, n, _, rfl, _, hb, hl, hm, hlen, hel, _, _⟩
 ·exact ⟨[], ⟨none, 0, rfl, Nat.le_refl _, Rd.nil _ _ _⟩, fun x hx => by cases hx⟩
 ·have hsp0 : 0 < len → a.spot = none := by
   intro hi
   have h1 := hel 0 hi
   rw [List.getElem?_eq_getElem (by rw [hlen]; exact hi), Option.bind_eq_some_iff] at h1
   obtain ⟨c, hc, hy⟩ := h1
   obtain ⟨_, hcl, hcell⟩ := World.cells?_some hc
   have h2 := hcell 0 (by rw [hsz]; exact hpos)
   have hlt : 0 < c.length := by rw [hcl, hsz]; exact hpos
   rw [List.getElem?_eq_getElem hlt, show (a.add (0 * P.cellsOf e)).add 0 = a from by simp [Addr.add]] at h2
   cases hsp : a.spot with
   | none => rfl
   | some s =>
    exfalso
    unfold World.cell? at h2
    split at h2
    ·rw [hsp] at h2; simp at h2
    ·cases h2
  have each : ∀ i, i < len → ∃ v c, d.K (wImm W) v c ∧ p v ∧ a.spot = none ∧ ∀ q u, c[q]? = some u → wImm W ⟨a.block, a.off + i * d.sz + q, none⟩ = some u := by
   intro i hi
   have h1 := hel i hi
   rw [List.getElem?_eq_getElem (by rw [hlen]; exact hi), Option.bind_eq_some_iff] at h1
   obtain ⟨c, hc, hy⟩ := h1
   obtain ⟨v, hk, hp⟩ := ho W base sp held n c _ hy
   obtain ⟨_, hcl, hcell⟩ := World.cells?_some hc
   have hspot := hsp0 (by omega)
   refine ⟨v, c, hk, hp, hspot, fun q u hu => ?_⟩
   have hql : q < c.length := (List.getElem?_eq_some_iff.1 hu).1
   have h2 := hcell q (by rw [← hcl]; exact hql)
   rw [add_add hspot, hsz, hu] at h2
   exact h2
  have build : ∀ n, n ≤ len → ∃ l : List α, l.length = n ∧ (∀ x ∈ l, p x) ∧ ∀ (j : Nat) (v : α), l[j]? = some v → ∃ c, d.K (wImm W) v c ∧ a.spot = none ∧ ∀ q u, c[q]? = some u → wImm W ⟨a.block, a.off + j * d.sz + q, none⟩ = some u := by
   intro n
   induction n with
   | zero => intro _; exact ⟨[], rfl, (fun x hx => by cases hx), fun j v hj => by cases hj⟩
   | succ n ih =>
    intro hn
    obtain ⟨l, hl1, hl2, hl3⟩ := ih (by omega)
    obtain ⟨v, c, hk, hp, hs, hc⟩ := each n (by omega)
    refine ⟨l ++ [v], by simp [hl1], fun x hx => ?_, fun j w hj => ?_⟩
    ·rcases List.mem_append.1 hx with hx | hx
     ·exact hl2 x hx
     ·rw [List.mem_singleton.1 hx]; exact hp
    ·rcases Nat.lt_or_ge j l.length with hlt | hge
     ·rw [List.getElem?_append_left hlt] at hj
      exact hl3 j w hj
     ·rw [List.getElem?_append_right hge] at hj
      have hj0 : j - l.length = 0 := by
       rcases Nat.eq_zero_or_pos (j - l.length) with h0 | h0
       ·exact h0
       ·rw [List.getElem?_eq_none (by simp; omega)] at hj; cases hj
      rw [hj0] at hj
      simp only [List.getElem?_cons_zero, Option.some.injEq] at hj
      subst hj
      obtain rfl : j = n := by omega
      exact ⟨c, hk, hs, hc⟩
  obtain ⟨l, hl1, hl2, hl3⟩ := build len (Nat.le_refl _)
  refine ⟨l, ⟨some a, cap, by rw [hl1], by omega, ⟨by unfold maxLen at hm; omega, fun hne => ?_⟩⟩, hl2⟩
  have h0 : 0 < l.length := List.length_pos_iff.2 hne
  obtain ⟨_, _, hs, _⟩ := hl3 0 _ (List.getElem?_eq_getElem h0)
  refine ⟨a.block, a.off, by obtain ⟨b, o, s⟩ := a; simp_all, fun j v hj => ?_⟩
  obtain ⟨c, hk, _, hc⟩ := hl3 j v hj
  exact ⟨c, hk, hc⟩

/-- The fields of a struct, from cell 'off' on. -/
def offs : Nat → List (TypeId × Nat) → List (TypeId × Nat × Nat)
 | _, [] => []
 | o, (t, n) :: r => (t, o, n) :: offs (o + n) r
def total : List (TypeId × Nat) → Nat
 | [] => 0
 | (_, n) :: r => n + total r
def OpensF (P : Program) {α : Type} (d : Ty α) (fl : List (TypeId × Nat)) (p : α → Prop) : Prop :=
 ∀ {H : Type} {enc : TypeId × Value → H} (W : World) (base : Nat) (sp : Nat → Bool) (held : Bool) (fuel off : Nat) (cs : List Value),
  (∀ q ∈ offs off fl, ∃ x, DataW.trod enc P W base sp held fuel q.1 ((cs.drop q.2.1).take q.2.2) = some x) → cs.length = off + total fl → ∃ a, d.K (wImm W) a (cs.drop off) ∧ p a
theorem opensF_one (ho : Opens P d t p) (n : Nat) : OpensF P d [(t, n)] p := by
 intro H enc W base sp held fuel off cs h hl
 obtain ⟨x, hx⟩ := h _ List.mem_cons_self
 simp only [total, Nat.add_zero] at hl
 have e : (cs.drop off).take n = cs.drop off := List.take_of_length_le (by rw [List.length_drop]; omega)
 simp only at hx
 rw [e] at hx
 exact ho W base sp held fuel _ x hx
theorem opensF_cons {d2 : Ty β} {fl : List (TypeId × Nat)} {q : β → Prop} (n : Nat) (ho : Opens P d t p) (hr : OpensF P d2 fl q) : OpensF P (Ty.pair d d2) ((t, n) :: fl) (fun x => p x.1 ∧ q x.2) := by
 intro H enc W base sp held fuel off cs h hl
 simp only [total] at hl
 obtain ⟨x, hx⟩ := h _ List.mem_cons_self
 obtain ⟨a, hk, hp⟩ := ho W base sp held fuel _ x hx
 obtain ⟨b, hk2, hp2⟩ := hr (enc := enc) W base sp held fuel (off + n) cs (fun q hq => h q (List.mem_cons_of_mem _ hq)) (by omega)
 refine ⟨(a, b), ⟨_, _, ?_, hk, hk2⟩, hp, hp2⟩
 simp only
 rw [← List.drop_drop, List.take_append_drop]
theorem opens_struct {fl : List (TypeId × Nat)} (ho : OpensF P d fl p) (ht : P.underlying t = some (.struct (P.fieldsOf t))) (hf : (P.fieldsOf t).toList.map (fun f => (f.type, f.offset, P.cellsOf f.type)) = offs 0 fl) (hc : P.cellsOf t = total fl)
  (f : β → α) (g : α → β) (hg : ∀ y, f (g y) = y) : Opens P (Ty.iso d f) t (fun x => p (f x)) := by
 intro H enc W base sp held fuel cs x h
 obtain ⟨xs, n, _, _, hcl, hxl, hx⟩ := DataW.trod_struct ht h
 have hseg : ∀ q ∈ offs 0 fl, ∃ x, DataW.trod enc P W base sp held n q.1 ((cs.drop q.2.1).take q.2.2) = some x := by
  intro q hq
  rw [← hf] at hq
  obtain ⟨f, hfm, rfl⟩ := List.mem_map.1 hq
  obtain ⟨i, hi, hif⟩ := List.getElem_of_mem hfm
  have h1 := hx i f (by rw [← Array.getElem?_toList, List.getElem?_eq_getElem hi, hif])
  have h2 : i < xs.length := by rw [hxl]; simpa using hi
  rw [List.getElem?_eq_getElem h2] at h1
  exact ⟨_, h1⟩
 obtain ⟨a, hk, hp⟩ := ho W base sp held n 0 cs hseg (by rw [hcl, hc, Nat.zero_add])
 refine ⟨g a, ?_, by show p (f (g a)); rw [hg]; exact hp⟩
 show d.K (wImm W) (f (g a)) cs
 rw [hg]
 exact hk
theorem opens_array {n : Nat} {fl : List (TypeId × Nat)} (ho : OpensF P d fl p) (ht : P.underlying t = some (.array n e)) (hf : (List.range n).map (fun i => (e, i * P.cellsOf e, P.cellsOf e)) = offs 0 fl) (hc : P.cellsOf t = total fl)
  (f : β → α) (g : α → β) (hg : ∀ y, f (g y) = y) : Opens P (Ty.iso d f) t (fun x => p (f x)) := by
 intro H enc W base sp held fuel cs x h
 obtain ⟨xs, m, _, _, hcl, hxl, hx⟩ := DataW.trod_array ht h
 have hseg : ∀ q ∈ offs 0 fl, ∃ x, DataW.trod enc P W base sp held m q.1 ((cs.drop q.2.1).take q.2.2) = some x := by
  intro q hq
  rw [← hf] at hq
  obtain ⟨i, hi, rfl⟩ := List.mem_map.1 hq
  have hi' := List.mem_range.1 hi
  have h1 := hx i hi'
  rw [List.getElem?_eq_getElem (show i < xs.length by omega)] at h1
  exact ⟨_, h1⟩
 obtain ⟨a, hk, hp⟩ := ho W base sp held m 0 cs hseg (by rw [hcl, hc, Nat.zero_add])
 refine ⟨g a, ?_, by show p (f (g a)); rw [hg]; exact hp⟩
 show d.K (wImm W) (f (g a)) cs
 rw [hg]
 exact hk
end
end Go.Proofs.Ytdmhbcgmimfjcaa.RW
namespace Go.Proofs.Ytdmhbcgmimfjcaa
open Go Go.Proofs.Ytdmhbcgmimfjcaa.RW
set_option linter.unusedVariables false
set_option maxRecDepth 100000
set_option maxHeartbeats 8000000

-- p58: no reading of the kind array
def p26 (x : S26) : Prop := (fun l => ∀ x ∈ l, (fun n => (Lit.int .i64 n).wf = true) x) x.f0 ∧ (fun l => ∀ x ∈ l, (fun n => (Lit.int .i64 n).wf = true) x) x.f1
theorem o26 : Opens Try.prog t26 26 p26 :=
 opens_struct (fl := [(24, 1), (24, 1)]) (opensF_cons 1 (opens_slice (e := 2) (opens_int (by kernel_rfl)) (by kernel_rfl) (by kernel_rfl) (Nat.le_of_ble_eq_true (by kernel_rfl))) (opensF_one (opens_slice (e := 2) (opens_int (by kernel_rfl)) (by kernel_rfl) (by kernel_rfl) (Nat.le_of_ble_eq_true (by kernel_rfl))) 1)) (by kernel_rfl) (by kernel_rfl) (by kernel_rfl) (fun (x : S26) => (x.f0, x.f1)) (fun y => ⟨y.1, y.2⟩) (fun _ => rfl)
def p39 (x : S39) : Prop := (fun n => (Lit.int .i32 n).wf = true) x.f0 ∧ (fun n => (Lit.int .i32 n).wf = true) x.f1
theorem o39 : Opens Try.prog t39 39 p39 :=
 opens_array (n := 2) (e := 21) (fl := [(21, 1), (21, 1)]) (opensF_cons 1 (opens_int (by kernel_rfl)) (opensF_one (opens_int (by kernel_rfl)) 1)) (by kernel_rfl) (by kernel_rfl) (by kernel_rfl) (fun (x : S39) => (x.f0, x.f1)) (fun y => ⟨y.1, y.2⟩) (fun _ => rfl)

end Go.Proofs.Ytdmhbcgmimfjcaa
namespace Go.Proofs.Ytdmhbcgmimfjcaa
open Go Go.Proofs.Ytdmhbcgmimfjcaa.RW hun
set_option linter.unusedVariables false
set_option maxRecDepth 100000
set_option maxHeartbeats 4000000
namespace inva
section
variable {w : List (List Int)} {m : Nat} {a1 a2 : Int}
theorem at_ (ha : 0 ≤ a1 ∧ a1 ≤ 255) (hm : 0 < m ∧ m ≤ 12) {n : Nat} (hn : n < m) : (W .i64 ((n : Int) + W .i64 a1)).tmod (m : Int) = (((n + a1.toNat) % m : Nat) : Int) := by
  obtain ⟨s, rfl⟩ : ∃ s : Nat, a1 = (s : Int) := ⟨a1.toNat, by omega⟩
  rw [W64 (x := (s : Int)) (by omega) (by omega), W64 (by omega) (by omega), tn]
  rw [Int.tmod_eq_emod_of_nonneg (by omega)]
  rfl
theorem cols (h : Vw w m) (ha : 0 ≤ a1 ∧ a1 ≤ 255) (hb : 0 ≤ a2 ∧ a2 ≤ 255) {i : Nat} (hi : i < w.length) : ∀ (d k n : Nat) (x y z : List Int), d + n = m → d < k → x.length = m → y.length = m → z.length = m → (∀ j, j < n → g x j = we w i ((j + a1.toNat) % m)) → (∀ j, j < n → g y j = (we w i j).tmod 67108864) → (∀ j, j < n → g z j = a2.tmod 16 * (we w i j).tmod 67108864) →
    ∃ x' y' z', armillarylaw22_AssignInvariance.l2 a1 a2 w (i : Int) k x y z (n : Int) = some (x', y', z') ∧ x'.length = m ∧ y'.length = m ∧ z'.length = m ∧ (∀ j, j < m → g x' j = we w i ((j + a1.toNat) % m)) ∧ (∀ j, j < m → g y' j = (we w i j).tmod 67108864) ∧ (∀ j, j < m → g z' j = a2.tmod 16 * (we w i j).tmod 67108864) := by
  have hrl := h.rl i hi
  have hm := h.mr
  intro d
  induction d with
  | zero =>
    intro k n x y z hd hk hx hy hz h1 h2 h3
    obtain ⟨k, rfl⟩ : ∃ m, k = m + 1 := ⟨k - 1, by omega⟩
    obtain rfl : n = m := by omega
    refine ⟨x, y, z, ?_, hx, hy, hz, h1, h2, h3⟩
    simp only [armillarylaw22_AssignInvariance.l2, tn]
    rw [if_neg (by show ¬ (n : Int) < ((row w i).length : Int); omega)]
  | succ d ih =>
    intro k n x y z hd hk hx hy hz h1 h2 h3
    obtain ⟨k, rfl⟩ : ∃ m, k = m + 1 := ⟨k - 1, by omega⟩
    have hn : n < m := by omega
    have hmod : (n + a1.toNat) % m < m := Nat.mod_lt _ (by omega)
    have hl : ((w.getD i []).length : Int) = (m : Int) := by show ((row w i).length : Int) = _; omega
    have hz' : (w.getD i []).getD n 0 = we w i n := rfl
    have he := h.eb i n hi hn
    have ht : 0 ≤ (we w i n).tmod 67108864 ∧ (we w i n).tmod 67108864 < 67108864 := ⟨Int.tmod_nonneg _ he.1, Int.tmod_lt_of_pos _ (by omega)⟩
    have hc : 0 ≤ a2.tmod 16 ∧ a2.tmod 16 < 16 := ⟨Int.tmod_nonneg _ hb.1, Int.tmod_lt_of_pos _ (by omega)⟩
    simp only [armillarylaw22_AssignInvariance.l2, tn, hl, hz']
    rw [at_ ha ⟨by omega, hm⟩ hn]
    simp only [tn]
    rw [if_pos (by omega), if_pos (by omega), if_pos (by omega), if_neg (by omega), if_pos (by omega), if_pos (by omega), if_pos (by omega), if_pos (by omega), if_pos (by omega), if_pos (by omega), if_pos (by omega), if_pos (by omega), if_pos (by omega), if_pos (by omega), if_pos (by omega), if_pos (by rw [List.length_set]; omega), if_pos (by omega), if_pos (by omega), Wn (by omega)]
    have hg : (y.set n ((we w i n).tmod 67108864)).getD n 0 = (we w i n).tmod 67108864 := by
      show g (y.set n _) n = _
      rw [gset (by omega), if_pos rfl]
    have hp : (we w i n).tmod 67108864 * a2.tmod 16 = a2.tmod 16 * (we w i n).tmod 67108864 := Int.mul_comm _ _
    have hp1 : 0 ≤ a2.tmod 16 * (we w i n).tmod 67108864 := Int.mul_nonneg hc.1 ht.1
    have hp2 : a2.tmod 16 * (we w i n).tmod 67108864 ≤ 16 * 67108864 := Int.mul_le_mul (by omega) (by omega) ht.1 (by omega)
    rw [hg, W64 (x := a2.tmod 16) (by omega) (by omega), hp, W64 (by omega) (by omega)]
    refine ih k (n + 1) _ _ _ (by omega) (by omega) (by rw [List.length_set]; exact hx) (by rw [List.length_set]; exact hy) (by rw [List.length_set]; exact hz) (fun j hj => ?_) (fun j hj => ?_) (fun j hj => ?_)
    all_goals
      rw [gset (by omega)]
      by_cases e : j = n
      · subst e; rw [if_pos rfl]
      · rw [if_neg e]
        first | exact h1 j (by omega) | exact h2 j (by omega) | exact h3 j (by omega)
theorem rows (h : Vw w m) (ha : 0 ≤ a1 ∧ a1 ≤ 255) (hb : 0 ≤ a2 ∧ a2 ≤ 255) : ∀ (d k n : Nat) (p q r s : List (List Int)), d + n = w.length → d + 30 ≤ k →
    Mat n m (fun i j => we w (w.length - 1 - i) j) p → Mat n m (fun i j => we w i ((j + a1.toNat) % m)) q → Mat n m (fun i j => (we w i j).tmod 67108864) r → Mat n m (fun i j => a2.tmod 16 * (we w i j).tmod 67108864) s →
    ∃ p' q' r' s', armillarylaw22_AssignInvariance.l1 a1 a2 w k p q r s (n : Int) = some (p', q', r', s') ∧ Mat w.length m (fun i j => we w (w.length - 1 - i) j) p' ∧ Mat w.length m (fun i j => we w i ((j + a1.toNat) % m)) q' ∧ Mat w.length m (fun i j => (we w i j).tmod 67108864) r' ∧ Mat w.length m (fun i j => a2.tmod 16 * (we w i j).tmod 67108864) s' := by
  have hm := h.mr
  have hn12 := h.nr
  intro d
  induction d with
  | zero =>
    intro k n p q r s hd hk h1 h2 h3 h4
    obtain ⟨k, rfl⟩ : ∃ m, k = m + 1 := ⟨k - 1, by omega⟩
    obtain rfl : n = w.length := by omega
    refine ⟨p, q, r, s, ?_, h1, h2, h3, h4⟩
    simp only [armillarylaw22_AssignInvariance.l1]
    rw [if_neg (by omega)]
  | succ d ih =>
    intro k n p q r s hd hk h1 h2 h3 h4
    obtain ⟨k, rfl⟩ : ∃ m, k = m + 1 := ⟨k - 1, by omega⟩
    have hn : n < w.length := by omega
    have hrl := h.rl n hn
    have hl : ((w.getD n []).length : Int) = (m : Int) := by show ((row w n).length : Int) = _; omega
    obtain ⟨x, y, z, e, hx, hy, hz, g1, g2, g3⟩ := cols h ha hb hn m k 0 (List.replicate m 0) (List.replicate m 0) (List.replicate m 0) (by omega) (by omega) (by simp) (by simp) (by simp) (fun j hj => by omega) (fun j hj => by omega) (fun j hj => by omega)
    have hi : W .i64 (W .i64 ((w.length : Int) - 1) - (n : Int)) = ((w.length - 1 - n : Nat) : Int) := by
      rw [W64 (x := (w.length : Int) - 1) (by omega) (by omega), W64 (by omega) (by omega)]
      omega
    have hp := h1.len
    have hq := h2.len
    have hr := h3.len
    have hs := h4.len
    have len1 : ∀ {α : Type} (u : α), [u].length = 1 := fun _ => rfl
    simp only [armillarylaw22_AssignInvariance.l1, tn, hl, hi, len1]
    rw [if_pos (by omega), if_pos (by omega), if_pos (by omega), if_pos (by omega), if_pos (by omega), if_pos (by omega), if_pos (by omega), if_pos (by omega), if_pos (by omega), if_pos (by omega), if_pos (by omega), if_pos (by omega)]
    rw [show armillarylaw22_AssignInvariance.l2 a1 a2 w (n : Int) k (List.replicate m 0) (List.replicate m 0) (List.replicate m 0) 0 = some (x, y, z) from e, Option.bind_some]
    simp only [armillarylaw22_AssignInvariance.k4, len1]
    rw [if_pos (by omega), if_pos (by omega), if_pos (by omega), hi, tn, Option.bind_some, Wn (by omega)]
    exact ih k (n + 1) _ _ _ _ (by omega) (by omega) (h1.app (h.rl _ (by omega)) (fun j hj => rfl)) (h2.app hx g1) (h3.app hy g2) (h4.app hz g3)
theorem trow (h : Vw w m) {j : Nat} (hj : j < m) : ∀ (d k n : Nat) (x : List Int), d + n = w.length → d < k → x.length = n → (∀ i, i < n → g x i = we w i j) → ∃ x', armillaryref22_Transpose.l2 w (j : Int) k x (n : Int) = some x' ∧ x'.length = w.length ∧ ∀ i, i < w.length → g x' i = we w i j := by
  have hn12 := h.nr
  intro d
  induction d with
  | zero =>
    intro k n x hd hk hx h1
    obtain ⟨k, rfl⟩ : ∃ m, k = m + 1 := ⟨k - 1, by omega⟩
    obtain rfl : n = w.length := by omega
    refine ⟨x, ?_, hx, h1⟩
    simp only [armillaryref22_Transpose.l2]
    rw [if_neg (by omega)]
  | succ d ih =>
    intro k n x hd hk hx h1
    obtain ⟨k, rfl⟩ : ∃ m, k = m + 1 := ⟨k - 1, by omega⟩
    have hn : n < w.length := by omega
    have hrl := h.rl n hn
    have hl : ((w.getD n []).length : Int) = (m : Int) := by show ((row w n).length : Int) = _; omega
    have len1 : ∀ {α : Type} (u : α), [u].length = 1 := fun _ => rfl
    simp only [armillaryref22_Transpose.l2, tn, hl, len1]
    rw [if_pos (by omega), if_pos (by omega), if_pos (by omega), if_pos (by omega), if_pos (by omega), if_pos (by omega), Wn (by omega)]
    refine ih k (n + 1) _ (by omega) (by omega) (by simp [hx]) (fun i hi => ?_)
    rw [gapp, hx]
    by_cases e : i = n
    · subst e; rw [if_neg (by omega), if_pos rfl]
    · rw [if_pos (by omega)]; exact h1 i (by omega)
theorem trows (h : Vw w m) : ∀ (d k n : Nat) (p : List (List Int)), d + n = m → d + 30 ≤ k → Mat n w.length (fun j i => we w i j) p → ∃ p', armillaryref22_Transpose.l1 w k p (n : Int) = some p' ∧ Mat m w.length (fun j i => we w i j) p' := by
  have hm := h.mr
  have hn12 := h.nr
  intro d
  induction d with
  | zero =>
    intro k n p hd hk h1
    obtain ⟨k, rfl⟩ : ∃ m, k = m + 1 := ⟨k - 1, by omega⟩
    obtain rfl : n = m := by omega
    refine ⟨p, ?_, h1⟩
    simp only [armillaryref22_Transpose.l1]
    rw [columnsR h, Option.bind_some, if_neg (by omega)]
  | succ d ih =>
    intro k n p hd hk h1
    obtain ⟨k, rfl⟩ : ∃ m, k = m + 1 := ⟨k - 1, by omega⟩
    have hn : n < m := by omega
    obtain ⟨x, e, hx, g1⟩ := trow h hn w.length k 0 [] (by omega) (by omega) rfl (fun i hi => by omega)
    have hp := h1.len
    have len1 : ∀ {α : Type} (u : α), [u].length = 1 := fun _ => rfl
    simp only [armillaryref22_Transpose.l1]
    rw [columnsR h, Option.bind_some, if_pos (by omega), show armillaryref22_Transpose.l2 w (n : Int) k [] 0 = some x from e, Option.bind_some]
    simp only [armillaryref22_Transpose.k3, len1]
    rw [if_pos (by omega), Option.bind_some, Wn (by omega)]
    exact ih k (n + 1) _ (by omega) (by omega) (h1.app hx g1)
end
end inva
theorem armillarylaw22_AssignInvariance_holds (a0 : List (List Int)) (a1 a2 : Int) (hp0 : ∀ x ∈ a0, (fun l => ∀ y ∈ l, (fun n => (Lit.int .i64 n).wf = true) y) x) (hl : a0.length ≤ 9223372036854775807) (hp1 : (Lit.int .u8 a1).wf = true) (hp2 : (Lit.int .u8 a2).wf = true) : ∃ k, armillarylaw22_AssignInvariance.f k a0 a1 a2 = some true := by
  have ha : 0 ≤ a1 ∧ a1 ≤ 255 := by simpa [Lit.wf, IntKind.min, IntKind.max, IntKind.signed, IntKind.bits] using hp1
  have hb : 0 ≤ a2 ∧ a2 ≤ 255 := by simpa [Lit.wf, IntKind.min, IntKind.max, IntKind.signed, IntKind.bits] using hp2
  refine ⟨a0.length + 2000, ?_⟩
  obtain ⟨w, m, e1, h, _, _⟩ := made a0 12 12 (by omega) (by omega) hl (k := a0.length + 2000) (by omega)
  have hn := h.nr
  have hm := h.mr
  obtain ⟨p, q, r, s, e2, hp, hq, hr, hs⟩ := inva.rows h ha hb w.length (a0.length + 2000) 0 [] [] [] [] (by omega) (by omega) Mat.nil Mat.nil Mat.nil Mat.nil
  obtain ⟨t, e3, ht⟩ := inva.trows h m (a0.length + 2000) 0 [] (by omega) (by omega) Mat.nil
  have hc : 0 ≤ a2.tmod 16 ∧ a2.tmod 16 < 16 := ⟨Int.tmod_nonneg _ hb.1, Int.tmod_lt_of_pos _ (by omega)⟩
  have hsm : ∀ i j, i < w.length → j < m → 0 ≤ (we w i j).tmod 67108864 ∧ (we w i j).tmod 67108864 ≤ 67108863 := fun i j hi hj => by
    have he := h.eb i j hi hj
    have := Int.tmod_lt_of_pos (we w i j) (by omega : (0 : Int) < 67108864)
    exact ⟨Int.tmod_nonneg _ he.1, by omega⟩
  have vp : Vw p m := hp.vw hn hm h.z (fun i j hi hj => h.eb _ j (by omega) hj)
  have vq : Vw q m := hq.vw hn hm h.z (fun i j hi hj => h.eb i _ hi (Nat.mod_lt _ (by omega)))
  have vr : Vw r m := hr.vw hn hm h.z (fun i j hi hj => by have := hsm i j hi hj; omega)
  have vs : Vw s m := hs.vw hn hm h.z (fun i j hi hj => by
    have h1 := hsm i j hi hj
    have h2 : a2.tmod 16 * (we w i j).tmod 67108864 ≤ 15 * 67108863 := Int.mul_le_mul (by omega) (by omega) h1.1 (by omega)
    exact ⟨Int.mul_nonneg hc.1 h1.1, by omega⟩)
  obtain ⟨V, ev, ov, bv⟩ := optimum h (k := a0.length + 2000) (by omega)
  obtain ⟨Vp, ep, op, bp⟩ := optimum vp (k := a0.length + 2000) (by omega)
  obtain ⟨Vq, eq, oq, bq⟩ := optimum vq (k := a0.length + 2000) (by omega)
  obtain ⟨Vr, er, or, br⟩ := optimum vr (k := a0.length + 2000) (by omega)
  obtain ⟨Vs, es, os, bs⟩ := optimum vs (k := a0.length + 2000) (by omega)
  have hpl := hp.len
  have hql := hq.len
  have hrl := hr.len
  have hsl := hs.len
  -- rows reversed
  have hVp : Vp = V := by
    refine Int.le_antisymm (op.le ov (relabel (by omega) (fun i => w.length - 1 - i) id (fun i hi => by omega) (fun i i' hi hi' e => by omega) (fun j hj => hj) (fun j j' _ _ e => e) (fun i j hi hj => ?_))) (ov.le op (relabel (by omega) (fun i => w.length - 1 - i) id (fun i hi => by omega) (fun i i' hi hi' e => by omega) (fun j hj => hj) (fun j j' _ _ e => e) (fun i j hi hj => ?_)))
    · show we w i j = we p (w.length - 1 - i) j
      rw [hp.at_ _ j (by omega) hj]
      show _ = we w (w.length - 1 - (w.length - 1 - i)) j
      congr 1; omega
    · show we p i j = _
      rw [hp.at_ i j (by omega) hj]
  -- columns rotated
  have inj : ∀ c j j' : Nat, j < m → j' < m → (j + c) % m = (j' + c) % m → j = j' := fun c j j' hj hj' e => by
    have h1 := Nat.sub_mod_eq_zero_of_mod_eq e
    have h2 := Nat.sub_mod_eq_zero_of_mod_eq e.symm
    have h3 : (j + c) - (j' + c) = 0 := by
      have := Nat.mod_eq_of_lt (show (j + c) - (j' + c) < m by omega); omega
    have h4 : (j' + c) - (j + c) = 0 := by
      have := Nat.mod_eq_of_lt (show (j' + c) - (j + c) < m by omega); omega
    omega
  have hVq : Vq = V := by
    refine Int.le_antisymm (oq.le ov (relabel (by omega) id (fun j => (j + a1.toNat) % m) (fun i hi => hi) (fun i i' _ _ e => e) (fun j hj => Nat.mod_lt _ (by omega)) (inj _) (fun i j hi hj => ?_))) (ov.le oq (relabel (by omega) id (fun j => (j + (m - a1.toNat % m)) % m) (fun i hi => hi) (fun i i' _ _ e => e) (fun j hj => Nat.mod_lt _ (by omega)) (inj _) (fun i j hi hj => ?_)))
    · show we w i _ = we q i j
      rw [hq.at_ i j (by omega) hj]
    · show we q i _ = we w i j
      rw [hq.at_ i _ (by omega) (Nat.mod_lt _ (by omega))]
      show we w i (((j + (m - a1.toNat % m)) % m + a1.toNat) % m) = we w i j
      have hlt : a1.toNat % m < m := Nat.mod_lt _ (by omega)
      have : ((j + (m - a1.toNat % m)) % m + a1.toNat) % m = j := by
        rw [Nat.mod_add_mod, ← Nat.add_mod_mod, show j + (m - a1.toNat % m) + a1.toNat % m = j + m by omega, Nat.add_mod_right]
        exact Nat.mod_eq_of_lt hj
      rw [this]
  -- transposed
  have htl := ht.len
  obtain ⟨Vt, et, hVt⟩ : ∃ Vt, armillarylaw22_optimum.f (a0.length + 2000) t = some Vt ∧ Vt = V := by
    by_cases e0 : m = 0
    · have vt : Vw t 0 := ⟨by omega, by omega, fun _ => rfl, fun i hi => by omega, fun i j hi hj => by omega⟩
      obtain ⟨Vt, et, ot, bt⟩ := optimum vt (k := a0.length + 2000) (by omega)
      exact ⟨Vt, et, Int.le_antisymm (ot.le ov (transp vt (fun i j hi hj => by omega))) (ov.le ot (transp h (fun i j hi hj => by omega)))⟩
    · have vt : Vw t w.length := ht.vw hm hn (fun e => absurd e e0) (fun j i hj hi => h.eb i j hi hj)
      obtain ⟨Vt, et, ot, bt⟩ := optimum vt (k := a0.length + 2000) (by omega)
      refine ⟨Vt, et, Int.le_antisymm (ot.le ov (transp vt (fun j i hj hi => ⟨hi, by omega, ?_⟩))) (ov.le ot (transp h (fun i j hi hj => ⟨by omega, hi, ?_⟩)))⟩
      · rw [ht.at_ j i (by omega) hi]
      · rw [ht.at_ j i (by omega) hi]
  -- scaled
  have hVs : Vs = a2.tmod 16 * Vr := or.scale hc.1 (by omega) (fun i j hi hj => by rw [hs.at_ i j (by omega) hj, hr.at_ i j (by omega) hj]) os
  have hmul : W .i64 (Vr * W .i64 (a2.tmod 16)) = a2.tmod 16 * Vr := by
    rw [W64 (x := a2.tmod 16) (by omega) (by omega), Int.mul_comm]
    exact W64 (by omega) (by omega)
  unfold armillarylaw22_AssignInvariance.f
  rw [show armillarylaw22_sanity.f (a0.length + 2000) = some true from sane (a0.length + 1940), Option.bind_some]
  rw [show armillaryref22_Made.f (a0.length + 2000) a0 12 12 = some w from e1, Option.bind_some, ev, Option.bind_some]
  rw [show armillarylaw22_AssignInvariance.l1 a1 a2 w (a0.length + 2000) [] [] [] [] 0 = _ from e2, Option.bind_some]
  simp only [armillarylaw22_AssignInvariance.k2]
  rw [if_pos (by omega), ep, Option.bind_some, if_pos hVp, eq, Option.bind_some, if_pos hVq]
  unfold armillaryref22_Transpose.f
  rw [show armillaryref22_Transpose.l1 w (a0.length + 2000) [] 0 = _ from e3, Option.bind_some]
  simp only [armillaryref22_Transpose.k1]
  rw [Option.bind_some, et, Option.bind_some, if_pos hVt, es, Option.bind_some, er, Option.bind_some, hmul, if_pos hVs]
  rfl
end Go.Proofs.Ytdmhbcgmimfjcaa
