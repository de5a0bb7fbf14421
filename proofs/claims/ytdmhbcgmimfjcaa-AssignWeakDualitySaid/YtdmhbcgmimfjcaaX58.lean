/- Words of the walk, the functions' walks and plain laws, joined; no conditions beyond those that the theorems name. -/
import Derived.Test.YtdmhbcgmimfjcaaX52
import Derived.Test.YtdmhbcgmimfjcaaX57
import Derived.Test.YtdmhbcgmimfjcaaX55
import Derived.Test.YtdmhbcgmimfjcaaX56
import Derived.ChangeArms
import Derived.DataReads
import Derived.OpenShut
namespace Go.Proofs.Ytdmhbcgmimfjcaa
open Go Go.Proofs.Ytdmhbcgmimfjcaa.RW
set_option linter.unusedVariables false
set_option maxRecDepth 100000
set_option maxHeartbeats 8000000

/-! ### armillarylaw22_AssignWeakDuality: function 5, armillary/armillarylaw22.AssignWeakDuality -/
noncomputable def K5_0 : Code := cBody Try.f5
noncomputable def K5_1 : Code := cL K5_0
noncomputable def O5_1 : List Oper := cOps K5_1
noncomputable def K5_3 : Code := cR K5_0
noncomputable def K5_4 : Code := cL K5_3
noncomputable def O5_4 : List Oper := cOps K5_4
noncomputable def K5_6 : Code := cR K5_3
noncomputable def K5_7 : Code := cL K5_6
noncomputable def O5_7 : List Oper := cOps K5_7
noncomputable def K5_9 : Code := cR K5_6
noncomputable def K5_10 : Code := cL K5_9
noncomputable def O5_10 : List Oper := cOps K5_10
noncomputable def K5_12 : Code := cR K5_9
noncomputable def K5_13 : Code := cL K5_12
noncomputable def O5_13 : List Oper := cOps K5_13
noncomputable def K5_15 : Code := cR K5_12
noncomputable def K5_16 : Code := cL K5_15
noncomputable def O5_16 : List Oper := cOps K5_16
noncomputable def K5_18 : Code := cR K5_15
noncomputable def K5_19 : Code := cL K5_18
noncomputable def O5_19 : List Oper := cOps K5_19
noncomputable def K5_21 : Code := cR K5_18
noncomputable def K5_22 : Code := cL K5_21
noncomputable def K5_23 : Code := cL K5_22
noncomputable def O5_23 : List Oper := cOps K5_23
noncomputable def K5_25 : Code := cR K5_22
noncomputable def K5_26 : Code := cL K5_25
noncomputable def K5_27 : Code := cL K5_26
noncomputable def O5_27 : List Oper := cOps K5_27
noncomputable def K5_29 : Code := cR K5_26
noncomputable def K5_30 : Code := cR K5_25
noncomputable def K5_31 : Code := cR K5_21
noncomputable def K5_32 : Code := cL K5_31
noncomputable def K5_33 : Code := cL K5_32
noncomputable def O5_33 : List Oper := cOps K5_33
noncomputable def K5_35 : Code := cR K5_32
noncomputable def K5_36 : Code := cL K5_35
noncomputable def K5_37 : Code := cL K5_36
noncomputable def O5_37 : List Oper := cOps K5_37
noncomputable def K5_39 : Code := cR K5_36
noncomputable def K5_40 : Code := cL K5_39
noncomputable def O5_40 : List Oper := cOps K5_40
noncomputable def K5_42 : Code := cR K5_39
noncomputable def O5_42 : List Oper := cOps K5_42
noncomputable def K5_44 : Code := cR K5_35
noncomputable def K5_45 : Code := cR K5_31
noncomputable def K5_46 : Code := cL K5_45
noncomputable def K5_47 : Code := cL K5_46
noncomputable def O5_47 : List Oper := cOps K5_47
noncomputable def K5_49 : Code := cR K5_46
noncomputable def K5_50 : Code := cL K5_49
noncomputable def K5_51 : Code := cL K5_50
noncomputable def O5_51 : List Oper := cOps K5_51
noncomputable def K5_53 : Code := cR K5_50
noncomputable def K5_54 : Code := cL K5_53
noncomputable def O5_54 : List Oper := cOps K5_54
noncomputable def K5_56 : Code := cR K5_53
noncomputable def O5_56 : List Oper := cOps K5_56
noncomputable def K5_58 : Code := cR K5_49
noncomputable def K5_59 : Code := cR K5_45
noncomputable def K5_60 : Code := cL K5_59
noncomputable def K5_61 : Code := cL K5_60
noncomputable def O5_61 : List Oper := cOps K5_61
noncomputable def K5_63 : Code := cR K5_60
noncomputable def K5_64 : Code := cL K5_63
noncomputable def K5_65 : Code := cL K5_64
noncomputable def O5_65 : List Oper := cOps K5_65
noncomputable def K5_67 : Code := cR K5_64
noncomputable def K5_68 : Code := cR K5_63
noncomputable def K5_69 : Code := cR K5_59
noncomputable def K5_70 : Code := cL K5_69
noncomputable def O5_70 : List Oper := cOps K5_70
noncomputable def K5_72 : Code := cR K5_69
def armillarylaw22_AssignWeakDuality.k1 (t1 : Bool) (x4 : Bool) : Option (Bool) := (if x4 = true then (some false) else (some t1))
def armillarylaw22_AssignWeakDuality.k2 (k : Nat) (t1 : Bool) (t2 : List (List Int)) (t3 : List Int) (t5 : Int × Bool) (t6 : Int × Bool) (x2 : List Int) (x3 : List Int) : Option (Bool) := (((assign_VerifyDuals.f k t2 t3 (⟨x2, x3⟩ : S26)).bind fun t7 => (if t7 = true then (some (t6.1 != t5.1)) else (some false))).bind (armillarylaw22_AssignWeakDuality.k1 t1))
def armillarylaw22_AssignWeakDuality.k3 (k : Nat) (a2 : S39) (t1 : Bool) (t2 : List (List Int)) (t3 : List Int) (t4 : List Int × S26) (t5 : Int × Bool) (t6 : Int × Bool) (x2 : List Int) : Option (Bool) := ((if (t4.2.f1.length : Int) > 0 then (if (([] : List Int).length + t4.2.f1.length) * 8 ≤ 140737488355328 then (if ((([] : List Int) ++ t4.2.f1).length : Int) = 0 then none else (if 0 ≤ ((W .i64 (W .u32 (a2.f0))).tmod ((([] : List Int) ++ t4.2.f1).length : Int)) then (if ((W .i64 (W .u32 (a2.f0))).tmod ((([] : List Int) ++ t4.2.f1).length : Int)) < ((([] : List Int) ++ t4.2.f1).length : Int) then (if 0 ≤ ((W .i64 (W .u32 (a2.f0))).tmod ((([] : List Int) ++ t4.2.f1).length : Int)) then (if ((W .i64 (W .u32 (a2.f0))).tmod ((([] : List Int) ++ t4.2.f1).length : Int)) < ((([] : List Int) ++ t4.2.f1).length : Int) then (some ((([] : List Int) ++ t4.2.f1).set ((W .i64 (W .u32 (a2.f0))).tmod ((([] : List Int) ++ t4.2.f1).length : Int)).toNat (W .i64 (((([] : List Int) ++ t4.2.f1).getD ((W .i64 (W .u32 (a2.f0))).tmod ((([] : List Int) ++ t4.2.f1).length : Int)).toNat 0) - (W .i64 (a2.f1)))))) else none) else none) else none) else none)) else none) else (some t4.2.f1)).bind (armillarylaw22_AssignWeakDuality.k2 k t1 t2 t3 t5 t6 x2))
def armillarylaw22_AssignWeakDuality.k4 (k : Nat) (a2 : S39) (t1 : Bool) (t2 : List (List Int)) (t3 : List Int) (t4 : List Int × S26) (t5 : Int × Bool) (t6 : Int × Bool) (x1 : Bool) : Option (Bool) := (if x1 = true then (some false) else ((if (t4.2.f0.length : Int) > 0 then (if (([] : List Int).length + t4.2.f0.length) * 8 ≤ 140737488355328 then (if ((([] : List Int) ++ t4.2.f0).length : Int) = 0 then none else (if 0 ≤ ((W .i64 (W .u32 (a2.f0))).tmod ((([] : List Int) ++ t4.2.f0).length : Int)) then (if ((W .i64 (W .u32 (a2.f0))).tmod ((([] : List Int) ++ t4.2.f0).length : Int)) < ((([] : List Int) ++ t4.2.f0).length : Int) then (if 0 ≤ ((W .i64 (W .u32 (a2.f0))).tmod ((([] : List Int) ++ t4.2.f0).length : Int)) then (if ((W .i64 (W .u32 (a2.f0))).tmod ((([] : List Int) ++ t4.2.f0).length : Int)) < ((([] : List Int) ++ t4.2.f0).length : Int) then (some ((([] : List Int) ++ t4.2.f0).set ((W .i64 (W .u32 (a2.f0))).tmod ((([] : List Int) ++ t4.2.f0).length : Int)).toNat (W .i64 (((([] : List Int) ++ t4.2.f0).getD ((W .i64 (W .u32 (a2.f0))).tmod ((([] : List Int) ++ t4.2.f0).length : Int)).toNat 0) + (W .i64 (a2.f1)))))) else none) else none) else none) else none)) else none) else (some t4.2.f0)).bind (armillarylaw22_AssignWeakDuality.k3 k a2 t1 t2 t3 t4 t5 t6)))
def armillarylaw22_AssignWeakDuality.f (k : Nat) (a0 : List (List Int)) (a1 : List Int) (a2 : S39) : Option (Bool) := ((armillarylaw22_sanity.f k ).bind fun t1 => ((armillaryref22_Made.f k a0 12 12).bind fun t2 => ((armillaryref22_Assignment.f k t2 a1).bind fun t3 => ((assign_Solve.f k t2).bind fun t4 => ((assign_Value.f k t2 t4.1).bind fun t5 => ((assign_Value.f k t2 t3).bind fun t6 => ((if t6.2 = true then (some (decide (t6.1 > t5.1))) else (some true)).bind (armillarylaw22_AssignWeakDuality.k4 k a2 t1 t2 t3 t4 t5 t6))))))))
def armillarylaw22_AssignWeakDuality.Post (I : Imm) (w : World) (r : Bool) (v : Value) (w' : World) : Prop :=
 ∃ (J : Imm), v = .bool r ∧ Got w w' I J []
noncomputable def a5_56n : List Nat := [0, 1, 0, 0, 8, 0, 56, 120, 0, 256, 768, 2040, 4095, 8191]
theorem a5_56 : ancs O5_56 [] = a5_56n := by kernel_rfl
theorem a5_56o : drawOk O5_56 a5_56n 12 = true := by kernel_rfl
noncomputable def u5d1l  : List Ld :=
 []
noncomputable def u5d1g (a2 : S39) (t4 : List Int × S26) (g1_ : Nat) : List (Nat × ((Nat → Wt) → Value)) := [(6, fun u => .pointer (some ⟨g1_, 0 + ((W .i64 (W .u32 (a2.f0))).tmod ((([] : List Int) ++ t4.2.f1).length : Int)).toNat * 1, none⟩))]
noncomputable def u5d1q (a2 : S39) (nx0 : Nat) (t1 : Bool) (t2 : List (List Int)) (A1 : Option Addr) (c1 : Nat) (t3 : List Int) (A2 : Option Addr) (c2 : Nat) (t4 : List Int × S26) (nx4 : Nat) (t5 : Int × Bool) (t6 : Int × Bool) (x2 : List Int) (A6 : Option Addr) (c6 : Nat) (A8 : Option Addr) (c8 : Nat) (g1_ : Nat) (u : Nat → Wt) : Option (List Value × List (Nat × Value) × List (Nat × Nat)) := qSim Try.prog [(⟨g1_, 0 + ((W .i64 (W .u32 (a2.f0))).tmod ((([] : List Int) ++ t4.2.f1).length : Int)).toNat * 1, none⟩, .int .i64 ((([] : List Int) ++ t4.2.f1).getD ((W .i64 (W .u32 (a2.f0))).tmod ((([] : List Int) ++ t4.2.f1).length : Int)).toNat 0))] [⟨nx0, [.int .i32 a2.f0, .int .i32 a2.f1], 39⟩, ⟨nx4, [.slice A6 x2.length c6, .slice A8 ((([] : List Int) ++ t4.2.f1).length) c8], 26⟩] O5_56 ⟨118, []⟩ (Ld.vl u5d1l) (u5d1g a2 t4 g1_) u [.no, .l 1, .no, .no, .l 1, .no, .no, .r 0, .no, .l 0, .no, .no] 0 (O5_56.take 12) [(17, .int .i64 ((W .i64 (W .u32 (a2.f0))).tmod ((([] : List Int) ++ t4.2.f1).length : Int))), (5, .pointer (some ⟨nx0, 0, none⟩)), (7, .bool t1), (8, .slice A1 t2.length c1), (9, .slice A2 t3.length c2), (11, .pointer (some ⟨nx4, 0, none⟩)), (12, .int .i64 t5.1), (14, .int .i64 t6.1)]
noncomputable def u5d1s (a2 : S39) (nx0 : Nat) (t4 : List Int × S26) (nx4 : Nat) (A8 : Option Addr) (c8 : Nat) (g1_ : Nat) (u : Nat → Wt) : List Value := [.pointer (some ⟨nx4, 1, none⟩), .slice A8 ((([] : List Int) ++ t4.2.f1).length) c8, .int .i64 ((W .i64 (W .u32 (a2.f0))).tmod ((([] : List Int) ++ t4.2.f1).length : Int)), .pointer (some ⟨nx4, 1, none⟩), .slice A8 ((([] : List Int) ++ t4.2.f1).length) c8, .int .i64 ((W .i64 (W .u32 (a2.f0))).tmod ((([] : List Int) ++ t4.2.f1).length : Int)), .pointer (some ⟨g1_, 0 + ((W .i64 (W .u32 (a2.f0))).tmod ((([] : List Int) ++ t4.2.f1).length : Int)).toNat * 1, none⟩), .int .i64 ((([] : List Int) ++ t4.2.f1).getD ((W .i64 (W .u32 (a2.f0))).tmod ((([] : List Int) ++ t4.2.f1).length : Int)).toNat 0), .pointer (some ⟨nx0, 1, none⟩), .int .i32 a2.f1, .int .i64 (W .i64 (a2.f1)), .int .i64 (W .i64 (((([] : List Int) ++ t4.2.f1).getD ((W .i64 (W .u32 (a2.f0))).tmod ((([] : List Int) ++ t4.2.f1).length : Int)).toNat 0) - (W .i64 (a2.f1))))]
noncomputable def u5d1f (a2 : S39) (nx0 : Nat) (t1 : Bool) (t2 : List (List Int)) (A1 : Option Addr) (c1 : Nat) (t3 : List Int) (A2 : Option Addr) (c2 : Nat) (t4 : List Int × S26) (nx4 : Nat) (t5 : Int × Bool) (t6 : Int × Bool) (A8 : Option Addr) (c8 : Nat) (g1_ : Nat) (i : Nat) (u : Nat → Wt) : List (Nat × Value) := foldPut ⟨118, []⟩ [(17, .int .i64 ((W .i64 (W .u32 (a2.f0))).tmod ((([] : List Int) ++ t4.2.f1).length : Int))), (5, .pointer (some ⟨nx0, 0, none⟩)), (7, .bool t1), (8, .slice A1 t2.length c1), (9, .slice A2 t3.length c2), (11, .pointer (some ⟨nx4, 0, none⟩)), (12, .int .i64 t5.1), (14, .int .i64 t6.1)] (O5_56.take i) (((u5d1s a2 nx0 t4 nx4 A8 c8 g1_) u).take i)
theorem u5d1v (a2 : S39) (nx0 : Nat) (t1 : Bool) (t2 : List (List Int)) (A1 : Option Addr) (c1 : Nat) (t3 : List Int) (A2 : Option Addr) (c2 : Nat) (t4 : List Int × S26) (nx4 : Nat) (t5 : Int × Bool) (t6 : Int × Bool) (x2 : List Int) (A6 : Option Addr) (c6 : Nat) (A8 : Option Addr) (c8 : Nat) (g1_ : Nat) (u : Nat → Wt) : (u5d1q a2 nx0 t1 t2 A1 c1 t3 A2 c2 t4 nx4 t5 t6 x2 A6 c6 A8 c8 g1_ u).map (fun x => (x.1, x.2.1)) = some ((u5d1s a2 nx0 t4 nx4 A8 c8 g1_) u, (u5d1f a2 nx0 t1 t2 A1 c1 t3 A2 c2 t4 nx4 t5 t6 A8 c8 g1_ 12) u) := by kernel_rfl
theorem u5d1e (a2 : S39) (nx0 : Nat) (t1 : Bool) (t2 : List (List Int)) (A1 : Option Addr) (c1 : Nat) (t3 : List Int) (A2 : Option Addr) (c2 : Nat) (t4 : List Int × S26) (nx4 : Nat) (t5 : Int × Bool) (t6 : Int × Bool) (x2 : List Int) (A6 : Option Addr) (c6 : Nat) (A8 : Option Addr) (c8 : Nat) (g1_ : Nat) (u : Nat → Wt) : (u5d1q a2 nx0 t1 t2 A1 c1 t3 A2 c2 t4 nx4 t5 t6 x2 A6 c6 A8 c8 g1_ u).map (fun x => x.2.2.map (·.1)) = (u5d1q a2 nx0 t1 t2 A1 c1 t3 A2 c2 t4 nx4 t5 t6 x2 A6 c6 A8 c8 g1_ u).map (fun x => x.2.2.map (·.2)) := by kernel_rfl
noncomputable def a5_42n : List Nat := [0, 1, 0, 0, 8, 0, 56, 120, 0, 256, 768, 2040, 4095, 8191]
theorem a5_42 : ancs O5_42 [] = a5_42n := by kernel_rfl
theorem a5_42o : drawOk O5_42 a5_42n 12 = true := by kernel_rfl
noncomputable def u5d2l  : List Ld :=
 []
noncomputable def u5d2g (a2 : S39) (t4 : List Int × S26) (g3_ : Nat) : List (Nat × ((Nat → Wt) → Value)) := [(6, fun u => .pointer (some ⟨g3_, 0 + ((W .i64 (W .u32 (a2.f0))).tmod ((([] : List Int) ++ t4.2.f0).length : Int)).toNat * 1, none⟩))]
noncomputable def u5d2q (a2 : S39) (nx0 : Nat) (t1 : Bool) (t2 : List (List Int)) (A1 : Option Addr) (c1 : Nat) (t3 : List Int) (A2 : Option Addr) (c2 : Nat) (t4 : List Int × S26) (A5 : Option Addr) (c5 : Nat) (nx4 : Nat) (t5 : Int × Bool) (t6 : Int × Bool) (A9 : Option Addr) (c9 : Nat) (g3_ : Nat) (u : Nat → Wt) : Option (List Value × List (Nat × Value) × List (Nat × Nat)) := qSim Try.prog [(⟨g3_, 0 + ((W .i64 (W .u32 (a2.f0))).tmod ((([] : List Int) ++ t4.2.f0).length : Int)).toNat * 1, none⟩, .int .i64 ((([] : List Int) ++ t4.2.f0).getD ((W .i64 (W .u32 (a2.f0))).tmod ((([] : List Int) ++ t4.2.f0).length : Int)).toNat 0))] [⟨nx0, [.int .i32 a2.f0, .int .i32 a2.f1], 39⟩, ⟨nx4, [.slice A9 ((([] : List Int) ++ t4.2.f0).length) c9, .slice A5 t4.2.f1.length c5], 26⟩] O5_42 ⟨118, []⟩ (Ld.vl u5d2l) (u5d2g a2 t4 g3_) u [.no, .l 1, .no, .no, .l 1, .no, .no, .r 0, .no, .l 0, .no, .no] 0 (O5_42.take 12) [(16, .int .i64 ((W .i64 (W .u32 (a2.f0))).tmod ((([] : List Int) ++ t4.2.f0).length : Int))), (5, .pointer (some ⟨nx0, 0, none⟩)), (7, .bool t1), (8, .slice A1 t2.length c1), (9, .slice A2 t3.length c2), (11, .pointer (some ⟨nx4, 0, none⟩)), (12, .int .i64 t5.1), (14, .int .i64 t6.1)]
noncomputable def u5d2s (a2 : S39) (nx0 : Nat) (t4 : List Int × S26) (nx4 : Nat) (A9 : Option Addr) (c9 : Nat) (g3_ : Nat) (u : Nat → Wt) : List Value := [.pointer (some ⟨nx4, 0, none⟩), .slice A9 ((([] : List Int) ++ t4.2.f0).length) c9, .int .i64 ((W .i64 (W .u32 (a2.f0))).tmod ((([] : List Int) ++ t4.2.f0).length : Int)), .pointer (some ⟨nx4, 0, none⟩), .slice A9 ((([] : List Int) ++ t4.2.f0).length) c9, .int .i64 ((W .i64 (W .u32 (a2.f0))).tmod ((([] : List Int) ++ t4.2.f0).length : Int)), .pointer (some ⟨g3_, 0 + ((W .i64 (W .u32 (a2.f0))).tmod ((([] : List Int) ++ t4.2.f0).length : Int)).toNat * 1, none⟩), .int .i64 ((([] : List Int) ++ t4.2.f0).getD ((W .i64 (W .u32 (a2.f0))).tmod ((([] : List Int) ++ t4.2.f0).length : Int)).toNat 0), .pointer (some ⟨nx0, 1, none⟩), .int .i32 a2.f1, .int .i64 (W .i64 (a2.f1)), .int .i64 (W .i64 (((([] : List Int) ++ t4.2.f0).getD ((W .i64 (W .u32 (a2.f0))).tmod ((([] : List Int) ++ t4.2.f0).length : Int)).toNat 0) + (W .i64 (a2.f1))))]
noncomputable def u5d2f (a2 : S39) (nx0 : Nat) (t1 : Bool) (t2 : List (List Int)) (A1 : Option Addr) (c1 : Nat) (t3 : List Int) (A2 : Option Addr) (c2 : Nat) (t4 : List Int × S26) (nx4 : Nat) (t5 : Int × Bool) (t6 : Int × Bool) (A9 : Option Addr) (c9 : Nat) (g3_ : Nat) (i : Nat) (u : Nat → Wt) : List (Nat × Value) := foldPut ⟨118, []⟩ [(16, .int .i64 ((W .i64 (W .u32 (a2.f0))).tmod ((([] : List Int) ++ t4.2.f0).length : Int))), (5, .pointer (some ⟨nx0, 0, none⟩)), (7, .bool t1), (8, .slice A1 t2.length c1), (9, .slice A2 t3.length c2), (11, .pointer (some ⟨nx4, 0, none⟩)), (12, .int .i64 t5.1), (14, .int .i64 t6.1)] (O5_42.take i) (((u5d2s a2 nx0 t4 nx4 A9 c9 g3_) u).take i)
theorem u5d2v (a2 : S39) (nx0 : Nat) (t1 : Bool) (t2 : List (List Int)) (A1 : Option Addr) (c1 : Nat) (t3 : List Int) (A2 : Option Addr) (c2 : Nat) (t4 : List Int × S26) (A5 : Option Addr) (c5 : Nat) (nx4 : Nat) (t5 : Int × Bool) (t6 : Int × Bool) (A9 : Option Addr) (c9 : Nat) (g3_ : Nat) (u : Nat → Wt) : (u5d2q a2 nx0 t1 t2 A1 c1 t3 A2 c2 t4 A5 c5 nx4 t5 t6 A9 c9 g3_ u).map (fun x => (x.1, x.2.1)) = some ((u5d2s a2 nx0 t4 nx4 A9 c9 g3_) u, (u5d2f a2 nx0 t1 t2 A1 c1 t3 A2 c2 t4 nx4 t5 t6 A9 c9 g3_ 12) u) := by kernel_rfl
theorem u5d2e (a2 : S39) (nx0 : Nat) (t1 : Bool) (t2 : List (List Int)) (A1 : Option Addr) (c1 : Nat) (t3 : List Int) (A2 : Option Addr) (c2 : Nat) (t4 : List Int × S26) (A5 : Option Addr) (c5 : Nat) (nx4 : Nat) (t5 : Int × Bool) (t6 : Int × Bool) (A9 : Option Addr) (c9 : Nat) (g3_ : Nat) (u : Nat → Wt) : (u5d2q a2 nx0 t1 t2 A1 c1 t3 A2 c2 t4 A5 c5 nx4 t5 t6 A9 c9 g3_ u).map (fun x => x.2.2.map (·.1)) = (u5d2q a2 nx0 t1 t2 A1 c1 t3 A2 c2 t4 A5 c5 nx4 t5 t6 A9 c9 g3_ u).map (fun x => x.2.2.map (·.2)) := by kernel_rfl
theorem armillarylaw22_AssignWeakDuality.calls (k : Nat) (I0 : Imm) (a0 : List (List Int)) (Ap0 : Option Addr) (cp0 : Nat) (a1 : List Int) (Ap1 : Option Addr) (cp1 : Nat) (a2 : S39) (w : World) (hI : I0.at_ w) (hlp0 : a0.length ≤ cp0) (hrp0 : Rd (Ty.slice (Ty.int .i64)) I0 Ap0 a0) (hlp1 : a1.length ≤ cp1) (hrp1 : Rd (Ty.int .u8) I0 Ap1 a1) (r : Bool) (h : armillarylaw22_AssignWeakDuality.f k a0 a1 a2 = some r) :
  Calls Try.prog 5 [.slice Ap0 a0.length cp0, .slice Ap1 a1.length cp1, .agg #[.int .i32 a2.f0, .int .i32 a2.f1]].toArray w fun e w' => ∃ v, e = .returned v ∧ armillarylaw22_AssignWeakDuality.Post I0 w r v w' := by
 have H : ((armillarylaw22_sanity.f k ).bind fun t1 => ((armillaryref22_Made.f k a0 12 12).bind fun t2 => ((armillaryref22_Assignment.f k t2 a1).bind fun t3 => ((assign_Solve.f k t2).bind fun t4 => ((assign_Value.f k t2 t4.1).bind fun t5 => ((assign_Value.f k t2 t3).bind fun t6 => ((if t6.2 = true then (some (decide (t6.1 > t5.1))) else (some true)).bind (armillarylaw22_AssignWeakDuality.k4 k a2 t1 t2 t3 t4 t5 t6)))))))) = some r := h
 clear h
 refine calls_body Try.func5 (by kernel_rfl) 118 (by kernel_rfl) (by kernel_rfl) ⟨w, fun _ => False, I0⟩ I0 [] [(0, .slice Ap0 a0.length cp0), (1, .slice Ap1 a1.length cp1), (2, .agg #[.int .i32 a2.f0, .int .i32 a2.f1])] (by kernel_rfl) (Sat.start w _ I0 hI) ?_
 generalize w.heap.size = nx0
 show OK _ K5_0 _ _ _ _ _ _ _ _
 refine OK.seq K5_1 K5_3 (by kernel_rfl) ?_
 refine OK.region 0 O5_1 (by kernel_rfl) ?_
 refine RL.simP (K' := [(5, .pointer (some ⟨nx0, 0, none⟩)), (0, .slice Ap0 a0.length cp0), (1, .slice Ap1 a1.length cp1)]) (nx' := nx0 + 1) (L' := [⟨nx0, [.int .i32 a2.f0, .int .i32 a2.f1], 39⟩]) [] (RFacts.nil _ _ _) 2 [.no, .no] (by kernel_rfl) (by kernel_rfl) ?_
 refine RL.nil (by kernel_rfl) ?_
 refine QN.then_ ?_
 refine OK.seq K5_4 K5_6 (by kernel_rfl) ?_
 refine OK.region 1 O5_4 (by kernel_rfl) ?_
 obtain ⟨t1, hA1, H⟩ := Option.bind_eq_some_iff.mp H
 refine RL.callP 10 [] (some 18) (fun w => armillarylaw22_sanity.Post I0 w t1) (by kernel_rfl) (by kernel_rfl) (fun w hs => armillarylaw22_sanity.calls k I0  w hs.im  t1 hA1) ?_
 rintro w v w' hs ⟨I1, rfl, hg⟩
 have hi1 := hg.le
 refine RL.resume (X' := []) rfl (hs.call hg) ?_
 clear hs hg
 generalize w'.heap.size = nx1
 clear w w'
 refine RL.simK (K' := [(7, .bool t1), (5, .pointer (some ⟨nx0, 0, none⟩)), (0, .slice Ap0 a0.length cp0), (1, .slice Ap1 a1.length cp1)]) [] (RFacts.nil _ _ _) 1 [.no] (by kernel_rfl) (by kernel_rfl) ?_
 refine RL.nil (by kernel_rfl) ?_
 refine QN.then_ ?_
 refine OK.seq K5_7 K5_9 (by kernel_rfl) ?_
 refine OK.region 2 O5_7 (by kernel_rfl) ?_
 refine RL.simK (K' := [(19, .slice Ap0 a0.length cp0), (7, .bool t1), (5, .pointer (some ⟨nx0, 0, none⟩)), (1, .slice Ap1 a1.length cp1)]) [] (RFacts.nil _ _ _) 1 [.no] (by kernel_rfl) (by kernel_rfl) ?_
 obtain ⟨t2, hA2, H⟩ := Option.bind_eq_some_iff.mp H
 refine RL.callP 13 [.slice Ap0 a0.length cp0, .int .i64 12, .int .i64 12] (some 20) (fun w => armillaryref22_Made.Post I1 w t2) (by kernel_rfl) (by kernel_rfl) (fun w hs => armillaryref22_Made.calls k I1 a0 Ap0 cp0 12 12 w hs.im hlp0 (Rd.ext hi1 hrp0) t2 hA2) ?_
 rintro w v w' hs ⟨I2, A1, c1, cs1, rfl, hg, hp1⟩
 have hi2 := hg.le
 refine RL.resume (X' := [orow 24 1 A1 t2.length c1 cs1]) rfl (hs.call hg) ?_
 clear hs hg
 generalize w'.heap.size = nx2
 clear w w'
 refine RL.simK (K' := [(8, .slice A1 t2.length c1), (7, .bool t1), (5, .pointer (some ⟨nx0, 0, none⟩)), (1, .slice Ap1 a1.length cp1)]) [] (RFacts.nil _ _ _) 1 [.no] (by kernel_rfl) (by kernel_rfl) ?_
 refine RL.nil (by kernel_rfl) ?_
 refine QN.then_ ?_
 refine OK.seq K5_10 K5_12 (by kernel_rfl) ?_
 refine OK.region 3 O5_10 (by kernel_rfl) ?_
 refine RL.simK (K' := [(22, .slice Ap1 a1.length cp1), (21, .slice A1 t2.length c1), (8, .slice A1 t2.length c1), (7, .bool t1), (5, .pointer (some ⟨nx0, 0, none⟩))]) [] (RFacts.nil _ _ _) 2 [.no, .no] (by kernel_rfl) (by kernel_rfl) ?_
 refine RL.freeze (e := 24) (sz := 1) (S := A1) (n := t2.length) (cap := c1) 0 (by kernel_rfl) hp1 rfl (fun I3 hi3 hl1 hr1 => ?_)
 skip
 obtain ⟨t3, hA3, H⟩ := Option.bind_eq_some_iff.mp H
 refine RL.callP 22 [.slice A1 t2.length c1, .slice Ap1 a1.length cp1] (some 23) (fun w => armillaryref22_Assignment.Post I3 w t3) (by kernel_rfl) (by kernel_rfl) (fun w hs => armillaryref22_Assignment.calls k I3 t2 A1 c1 a1 Ap1 cp1 w hs.im hl1 hr1 hlp1 (Rd.ext (Imm.le_trans (Imm.le_trans hi1 hi2) hi3) hrp1) t3 hA3) ?_
 rintro w v w' hs ⟨I4, A2, c2, cs2, rfl, hg, hp2⟩
 have hi4 := hg.le
 refine RL.resume (X' := [orow 3 1 A2 t3.length c2 cs2]) rfl (hs.call hg) ?_
 clear hs hg
 generalize w'.heap.size = nx3
 clear w w'
 refine RL.simK (K' := [(9, .slice A2 t3.length c2), (8, .slice A1 t2.length c1), (7, .bool t1), (5, .pointer (some ⟨nx0, 0, none⟩))]) [] (RFacts.nil _ _ _) 1 [.no] (by kernel_rfl) (by kernel_rfl) ?_
 refine RL.nil (by kernel_rfl) ?_
 refine QN.then_ ?_
 refine OK.seq K5_13 K5_15 (by kernel_rfl) ?_
 refine OK.region 4 O5_13 (by kernel_rfl) ?_
 refine RL.simK (K' := [(25, .slice A1 t2.length c1), (9, .slice A2 t3.length c2), (8, .slice A1 t2.length c1), (7, .bool t1), (5, .pointer (some ⟨nx0, 0, none⟩))]) [] (RFacts.nil _ _ _) 1 [.no] (by kernel_rfl) (by kernel_rfl) ?_
 obtain ⟨t4, hA4, H⟩ := Option.bind_eq_some_iff.mp H
 refine RL.callP 14 [.slice A1 t2.length c1] (some 26) (fun w => assign_Solve.Post I4 w t4) (by kernel_rfl) (by kernel_rfl) (fun w hs => assign_Solve.calls k I4 t2 A1 c1 w hs.im hl1 (Rd.ext hi4 hr1) t4 hA4) ?_
 rintro w v w' hs ⟨I5, A3, c3, cs3, A4, c4, cs4, A5, c5, cs5, rfl, hg, hp3, hp4, hp5⟩
 have hi5 := hg.le
 refine RL.resume (X' := [orow 3 1 A2 t3.length c2 cs2, orow 3 1 A3 t4.1.length c3 cs3, orow 2 1 A4 t4.2.f0.length c4 cs4, orow 2 1 A5 t4.2.f1.length c5 cs5]) rfl (hs.call hg) ?_
 clear hs hg
 generalize w'.heap.size = nx4
 clear w w'
 refine RL.freeze (e := 2) (sz := 1) (S := A4) (n := t4.2.f0.length) (cap := c4) 2 (by kernel_rfl) hp4 rfl (fun I6 hi6 hl2 hr2 => ?_)
 skip
 refine RL.freeze (e := 2) (sz := 1) (S := A5) (n := t4.2.f1.length) (cap := c5) 2 (by kernel_rfl) (Reps.ext hi6 hp5) rfl (fun I7 hi7 hl3 hr3 => ?_)
 skip
 refine RL.simP (K' := [(10, .slice A3 t4.1.length c3), (11, .pointer (some ⟨nx4, 0, none⟩)), (9, .slice A2 t3.length c2), (8, .slice A1 t2.length c1), (7, .bool t1), (5, .pointer (some ⟨nx0, 0, none⟩))]) (nx' := nx4 + 1) (L' := [⟨nx0, [.int .i32 a2.f0, .int .i32 a2.f1], 39⟩, ⟨nx4, [.slice A4 t4.2.f0.length c4, .slice A5 t4.2.f1.length c5], 26⟩]) [] (RFacts.nil _ _ _) 6 [.no, .no, .no, .no, .no, .l 1] (by kernel_rfl) (by kernel_rfl) ?_
 refine RL.nil (by kernel_rfl) ?_
 refine QN.then_ ?_
 refine OK.seq K5_16 K5_18 (by kernel_rfl) ?_
 refine OK.region 5 O5_16 (by kernel_rfl) ?_
 refine RL.simK (K' := [(31, .slice A3 t4.1.length c3), (30, .slice A1 t2.length c1), (11, .pointer (some ⟨nx4, 0, none⟩)), (9, .slice A2 t3.length c2), (8, .slice A1 t2.length c1), (7, .bool t1), (5, .pointer (some ⟨nx0, 0, none⟩))]) [] (RFacts.nil _ _ _) 2 [.no, .no] (by kernel_rfl) (by kernel_rfl) ?_
 obtain ⟨t5, hA5, H⟩ := Option.bind_eq_some_iff.mp H
 refine RL.callP 15 [.slice A1 t2.length c1, .slice A3 t4.1.length c3] (some 32) (fun w v w' => ∃ I', Imm.le I7 I' ∧ assign_Value.Post I' w t5 v w') (by kernel_rfl) (by kernel_rfl) (fun w hs => ?_) ?_
 ·skip
  obtain ⟨JL1, hj1, hn1, hw1, hs⟩ := Sat.freeze (e := 3) (sz := 1) (S := A3) (n := t4.1.length) (cap := c3) (m := 1) hs (by kernel_rfl) (Reps.ext (Imm.le_trans hi6 hi7) hp3) rfl
  exact (assign_Value.calls k JL1 t2 A1 c1 t4.1 A3 c3 _ hs.im hl1 (Rd.ext hj1 (Rd.ext (Imm.le_trans (Imm.le_trans (Imm.le_trans hi4 hi5) hi6) hi7) hr1)) hn1 hw1 t5 hA5).mono (fun e w' ⟨v, hv, hp⟩ => ⟨v, hv, JL1, hj1, hp⟩)
 rintro w v w' hs ⟨I', hle, J, rfl, hg⟩
 refine RL.resume (X' := [orow 3 1 A2 t3.length c2 cs2, orow 3 1 A3 t4.1.length c3 cs3]) rfl (hs.call (hg.back hle)) ?_
 clear hs hg hle I' J
 generalize w'.heap.size = nx5
 clear w w'
 refine RL.simK (K' := [(12, .int .i64 t5.1), (11, .pointer (some ⟨nx4, 0, none⟩)), (9, .slice A2 t3.length c2), (8, .slice A1 t2.length c1), (7, .bool t1), (5, .pointer (some ⟨nx0, 0, none⟩))]) [] (RFacts.nil _ _ _) 5 [.no, .no, .no, .no, .no] (by kernel_rfl) (by kernel_rfl) ?_
 refine RL.nil (by kernel_rfl) ?_
 refine QN.then_ ?_
 refine OK.seq K5_19 K5_21 (by kernel_rfl) ?_
 refine OK.region 6 O5_19 (by kernel_rfl) ?_
 refine RL.simK (K' := [(37, .slice A2 t3.length c2), (36, .slice A1 t2.length c1), (12, .int .i64 t5.1), (11, .pointer (some ⟨nx4, 0, none⟩)), (9, .slice A2 t3.length c2), (8, .slice A1 t2.length c1), (7, .bool t1), (5, .pointer (some ⟨nx0, 0, none⟩))]) [] (RFacts.nil _ _ _) 2 [.no, .no] (by kernel_rfl) (by kernel_rfl) ?_
 obtain ⟨t6, hA6, H⟩ := Option.bind_eq_some_iff.mp H
 refine RL.callP 15 [.slice A1 t2.length c1, .slice A2 t3.length c2] (some 38) (fun w v w' => ∃ I', Imm.le I7 I' ∧ assign_Value.Post I' w t6 v w') (by kernel_rfl) (by kernel_rfl) (fun w hs => ?_) ?_
 ·skip
  obtain ⟨JL2, hj2, hn2, hw2, hs⟩ := Sat.freeze (e := 3) (sz := 1) (S := A2) (n := t3.length) (cap := c2) (m := 0) hs (by kernel_rfl) (Reps.ext (Imm.le_trans (Imm.le_trans hi5 hi6) hi7) hp2) rfl
  exact (assign_Value.calls k JL2 t2 A1 c1 t3 A2 c2 _ hs.im hl1 (Rd.ext hj2 (Rd.ext (Imm.le_trans (Imm.le_trans (Imm.le_trans hi4 hi5) hi6) hi7) hr1)) hn2 hw2 t6 hA6).mono (fun e w' ⟨v, hv, hp⟩ => ⟨v, hv, JL2, hj2, hp⟩)
 rintro w v w' hs ⟨I', hle, J, rfl, hg⟩
 refine RL.resume (X' := [orow 3 1 A2 t3.length c2 cs2, orow 3 1 A3 t4.1.length c3 cs3]) rfl (hs.call (hg.back hle)) ?_
 clear hs hg hle I' J
 generalize w'.heap.size = nx6
 clear w w'
 refine RL.simK (K' := [(15, .bool t6.2), (14, .int .i64 t6.1), (12, .int .i64 t5.1), (11, .pointer (some ⟨nx4, 0, none⟩)), (9, .slice A2 t3.length c2), (8, .slice A1 t2.length c1), (7, .bool t1), (5, .pointer (some ⟨nx0, 0, none⟩))]) [] (RFacts.nil _ _ _) 5 [.no, .no, .no, .no, .no] (by kernel_rfl) (by kernel_rfl) ?_
 refine RL.nil (by kernel_rfl) ?_
 refine QN.then_ ?_
 refine OK.seq K5_22 K5_31 (by kernel_rfl) ?_
 refine OK.seq K5_23 K5_25 (by kernel_rfl) ?_
 refine OK.join (fun K' I' _ L' X' => ∃ (x1 : Bool), K' = [(5, .pointer (some ⟨nx0, 0, none⟩)), (7, .bool t1), (8, .slice A1 t2.length c1), (9, .slice A2 t3.length c2), (11, .pointer (some ⟨nx4, 0, none⟩)), (12, .int .i64 t5.1), (14, .int .i64 t6.1), (47, .bool x1)] ∧ L' = [⟨nx0, [.int .i32 a2.f0, .int .i32 a2.f1], 39⟩, ⟨nx4, [.slice A4 t4.2.f0.length c4, .slice A5 t4.2.f1.length c5], 26⟩] ∧ X' = [orow 3 1 A2 t3.length c2 cs2] ∧ Imm.le I7 I' ∧ armillarylaw22_AssignWeakDuality.k4 k a2 t1 t2 t3 t4 t5 t6 x1 = some r) ?_ ?_
 ·rintro _ I8 nx7 _ _ ⟨x1, rfl, rfl, rfl, hi8, H⟩
  replace H : (if x1 = true then (some false) else ((if (t4.2.f0.length : Int) > 0 then (if (([] : List Int).length + t4.2.f0.length) * 8 ≤ 140737488355328 then (if ((([] : List Int) ++ t4.2.f0).length : Int) = 0 then none else (if 0 ≤ ((W .i64 (W .u32 (a2.f0))).tmod ((([] : List Int) ++ t4.2.f0).length : Int)) then (if ((W .i64 (W .u32 (a2.f0))).tmod ((([] : List Int) ++ t4.2.f0).length : Int)) < ((([] : List Int) ++ t4.2.f0).length : Int) then (if 0 ≤ ((W .i64 (W .u32 (a2.f0))).tmod ((([] : List Int) ++ t4.2.f0).length : Int)) then (if ((W .i64 (W .u32 (a2.f0))).tmod ((([] : List Int) ++ t4.2.f0).length : Int)) < ((([] : List Int) ++ t4.2.f0).length : Int) then (some ((([] : List Int) ++ t4.2.f0).set ((W .i64 (W .u32 (a2.f0))).tmod ((([] : List Int) ++ t4.2.f0).length : Int)).toNat (W .i64 (((([] : List Int) ++ t4.2.f0).getD ((W .i64 (W .u32 (a2.f0))).tmod ((([] : List Int) ++ t4.2.f0).length : Int)).toNat 0) + (W .i64 (a2.f1)))))) else none) else none) else none) else none)) else none) else (some t4.2.f0)).bind (armillarylaw22_AssignWeakDuality.k3 k a2 t1 t2 t3 t4 t5 t6))) = some r := H
  refine QN.then_ ?_
  refine OK.cond (.tmp 47) K5_26 K5_30 x1 (by kernel_rfl) (by kernel_rfl) (by kernel_rfl) (fun hb => ?_) (fun hb => ?_)
  ·skip
   have hc := hb
   rw [if_pos hc] at H
   clear hb
   refine OK.seq K5_27 K5_29 (by kernel_rfl) ?_
   refine OK.region 8 O5_27 (by kernel_rfl) ?_
   refine RL.simK (K' := [(6, .bool false)]) [] (RFacts.nil _ _ _) 1 [.no] (by kernel_rfl) (by kernel_rfl) ?_
   refine RL.nil (by kernel_rfl) ?_
   refine QN.then_ ?_
   refine OK.ret (by kernel_rfl) ?_
   refine QN.thenR ?_
   obtain rfl := Option.some.inj H
   refine QN.body rfl [] (RFacts.nil _ _ _) (.no) (.bool false) (by kernel_rfl) (by kernel_rfl) (by kernel_rfl) ?_ _ (.inr rfl)
   exact fun w' hs' => ⟨_, rfl, I8, rfl, hs'.got _ (.cons _ .slnil)⟩
  ·skip
   have hc := (Bool.eq_false_iff.1 hb)
   rw [if_neg hc] at H
   clear hb
   refine OK.skip (by kernel_rfl) ?_
   refine QN.then_ ?_
   refine OK.seq K5_32 K5_45 (by kernel_rfl) ?_
   refine OK.seq K5_33 K5_35 (by kernel_rfl) ?_
   refine OK.region 9 O5_33 (by kernel_rfl) ?_
   refine RL.simK (K' := [(51, .bool (decide ((t4.2.f0.length : Int) > 0))), (5, .pointer (some ⟨nx0, 0, none⟩)), (7, .bool t1), (8, .slice A1 t2.length c1), (9, .slice A2 t3.length c2), (11, .pointer (some ⟨nx4, 0, none⟩)), (12, .int .i64 t5.1), (14, .int .i64 t6.1)]) [] (RFacts.nil _ _ _) 4 [.no, .l 1, .no, .no] (by kernel_rfl) (by kernel_rfl) ?_
   refine RL.nil (by kernel_rfl) ?_
   refine QN.then_ ?_
   refine OK.join (fun K' I' _ L' X' => ∃ (x2 : List Int) (A6 : Option Addr) (c6 : Nat), K' = [(5, .pointer (some ⟨nx0, 0, none⟩)), (7, .bool t1), (8, .slice A1 t2.length c1), (9, .slice A2 t3.length c2), (11, .pointer (some ⟨nx4, 0, none⟩)), (12, .int .i64 t5.1), (14, .int .i64 t6.1)] ∧ L' = [⟨nx0, [.int .i32 a2.f0, .int .i32 a2.f1], 39⟩, ⟨nx4, [.slice A6 x2.length c6, .slice A5 t4.2.f1.length c5], 26⟩] ∧ X' = [orow 3 1 A2 t3.length c2 cs2] ∧ Imm.le I8 I' ∧ x2.length ≤ c6 ∧ Rd (Ty.int .i64) I' A6 x2 ∧ armillarylaw22_AssignWeakDuality.k3 k a2 t1 t2 t3 t4 t5 t6 x2 = some r) ?_ ?_
   ·rintro _ I9 nx8 _ _ ⟨x2, A6, c6, rfl, rfl, rfl, hi9, hl4, hr4, H⟩
    replace H : ((if (t4.2.f1.length : Int) > 0 then (if (([] : List Int).length + t4.2.f1.length) * 8 ≤ 140737488355328 then (if ((([] : List Int) ++ t4.2.f1).length : Int) = 0 then none else (if 0 ≤ ((W .i64 (W .u32 (a2.f0))).tmod ((([] : List Int) ++ t4.2.f1).length : Int)) then (if ((W .i64 (W .u32 (a2.f0))).tmod ((([] : List Int) ++ t4.2.f1).length : Int)) < ((([] : List Int) ++ t4.2.f1).length : Int) then (if 0 ≤ ((W .i64 (W .u32 (a2.f0))).tmod ((([] : List Int) ++ t4.2.f1).length : Int)) then (if ((W .i64 (W .u32 (a2.f0))).tmod ((([] : List Int) ++ t4.2.f1).length : Int)) < ((([] : List Int) ++ t4.2.f1).length : Int) then (some ((([] : List Int) ++ t4.2.f1).set ((W .i64 (W .u32 (a2.f0))).tmod ((([] : List Int) ++ t4.2.f1).length : Int)).toNat (W .i64 (((([] : List Int) ++ t4.2.f1).getD ((W .i64 (W .u32 (a2.f0))).tmod ((([] : List Int) ++ t4.2.f1).length : Int)).toNat 0) - (W .i64 (a2.f1)))))) else none) else none) else none) else none)) else none) else (some t4.2.f1)).bind (armillarylaw22_AssignWeakDuality.k2 k t1 t2 t3 t5 t6 x2)) = some r := H
    refine QN.then_ ?_
    refine OK.seq K5_46 K5_59 (by kernel_rfl) ?_
    refine OK.seq K5_47 K5_49 (by kernel_rfl) ?_
    refine OK.region 13 O5_47 (by kernel_rfl) ?_
    refine RL.simK (K' := [(81, .bool (decide ((t4.2.f1.length : Int) > 0))), (5, .pointer (some ⟨nx0, 0, none⟩)), (7, .bool t1), (8, .slice A1 t2.length c1), (9, .slice A2 t3.length c2), (11, .pointer (some ⟨nx4, 0, none⟩)), (12, .int .i64 t5.1), (14, .int .i64 t6.1)]) [] (RFacts.nil _ _ _) 4 [.no, .l 1, .no, .no] (by kernel_rfl) (by kernel_rfl) ?_
    refine RL.nil (by kernel_rfl) ?_
    refine QN.then_ ?_
    refine OK.join (fun K' I' _ L' X' => ∃ (x3 : List Int) (A7 : Option Addr) (c7 : Nat), K' = [(7, .bool t1), (8, .slice A1 t2.length c1), (9, .slice A2 t3.length c2), (11, .pointer (some ⟨nx4, 0, none⟩)), (12, .int .i64 t5.1), (14, .int .i64 t6.1)] ∧ L' = [⟨nx0, [.int .i32 a2.f0, .int .i32 a2.f1], 39⟩, ⟨nx4, [.slice A6 x2.length c6, .slice A7 x3.length c7], 26⟩] ∧ X' = [orow 3 1 A2 t3.length c2 cs2] ∧ Imm.le I9 I' ∧ x3.length ≤ c7 ∧ Rd (Ty.int .i64) I' A7 x3 ∧ armillarylaw22_AssignWeakDuality.k2 k t1 t2 t3 t5 t6 x2 x3 = some r) ?_ ?_
    ·rintro _ I10 nx9 _ _ ⟨x3, A7, c7, rfl, rfl, rfl, hi10, hl5, hr5, H⟩
     replace H : (((assign_VerifyDuals.f k t2 t3 (⟨x2, x3⟩ : S26)).bind fun t7 => (if t7 = true then (some (t6.1 != t5.1)) else (some false))).bind (armillarylaw22_AssignWeakDuality.k1 t1)) = some r := H
     refine QN.then_ ?_
     refine OK.seq K5_60 K5_69 (by kernel_rfl) ?_
     refine OK.seq K5_61 K5_63 (by kernel_rfl) ?_
     refine OK.join (fun K' I' _ L' X' => ∃ (x4 : Bool), K' = [(7, .bool t1), (116, .bool x4)] ∧ L' = [⟨nx0, [.int .i32 a2.f0, .int .i32 a2.f1], 39⟩, ⟨nx4, [.slice A6 x2.length c6, .slice A7 x3.length c7], 26⟩] ∧ X' = [] ∧ Imm.le I10 I' ∧ armillarylaw22_AssignWeakDuality.k1 t1 x4 = some r) ?_ ?_
     ·rintro _ I11 nx10 _ _ ⟨x4, rfl, rfl, rfl, hi11, H⟩
      replace H : (if x4 = true then (some false) else (some t1)) = some r := H
      refine QN.then_ ?_
      refine OK.cond (.tmp 116) K5_64 K5_68 x4 (by kernel_rfl) (by kernel_rfl) (by kernel_rfl) (fun hb => ?_) (fun hb => ?_)
      ·skip
       have hc := hb
       rw [if_pos hc] at H
       clear hb
       refine OK.seq K5_65 K5_67 (by kernel_rfl) ?_
       refine OK.region 18 O5_65 (by kernel_rfl) ?_
       refine RL.simK (K' := [(6, .bool false)]) [] (RFacts.nil _ _ _) 1 [.no] (by kernel_rfl) (by kernel_rfl) ?_
       refine RL.nil (by kernel_rfl) ?_
       refine QN.then_ ?_
       refine OK.ret (by kernel_rfl) ?_
       refine QN.thenR ?_
       obtain rfl := Option.some.inj H
       refine QN.body rfl [] (RFacts.nil _ _ _) (.no) (.bool false) (by kernel_rfl) (by kernel_rfl) (by kernel_rfl) ?_ _ (.inr rfl)
       exact fun w' hs' => ⟨_, rfl, I11, rfl, hs'.got _ .slnil⟩
      ·skip
       have hc := (Bool.eq_false_iff.1 hb)
       rw [if_neg hc] at H
       clear hb
       refine OK.skip (by kernel_rfl) ?_
       refine QN.then_ ?_
       refine OK.seq K5_70 K5_72 (by kernel_rfl) ?_
       refine OK.region 19 O5_70 (by kernel_rfl) ?_
       refine RL.simK (K' := [(6, .bool t1)]) [] (RFacts.nil _ _ _) 2 [.no, .no] (by kernel_rfl) (by kernel_rfl) ?_
       refine RL.nil (by kernel_rfl) ?_
       refine QN.then_ ?_
       refine OK.ret (by kernel_rfl) ?_
       obtain rfl := Option.some.inj H
       refine QN.body rfl [] (RFacts.nil _ _ _) (.no) (.bool t1) (by kernel_rfl) (by kernel_rfl) (by kernel_rfl) ?_ _ (.inr rfl)
       exact fun w' hs' => ⟨_, rfl, I11, rfl, hs'.got _ .slnil⟩
     ·intro Q_1 hJ4 hQ4
      obtain ⟨y4, H, HK4⟩ := Option.bind_eq_some_iff.mp H
      refine OK.region 17 O5_61 (by kernel_rfl) ?_
      refine RL.simK (K' := [(110, .agg #[.slice A6 x2.length c6, .slice A7 x3.length c7]), (109, .slice A2 t3.length c2), (108, .slice A1 t2.length c1), (7, .bool t1), (12, .int .i64 t5.1), (14, .int .i64 t6.1)]) [] (RFacts.nil _ _ _) 3 [.no, .no, .l 1] (by kernel_rfl) (by kernel_rfl) ?_
      obtain ⟨t7, hA7, H⟩ := Option.bind_eq_some_iff.mp H
      refine RL.callP 20 [.slice A1 t2.length c1, .slice A2 t3.length c2, .agg #[.slice A6 x2.length c6, .slice A7 x3.length c7]] (some 111) (fun w v w' => ∃ I', Imm.le I10 I' ∧ assign_VerifyDuals.Post I' w t7 v w') (by kernel_rfl) (by kernel_rfl) (fun w hs => ?_) ?_
      ·skip
       obtain ⟨JL3, hj3, hn3, hw3, hs⟩ := Sat.freeze (e := 3) (sz := 1) (S := A2) (n := t3.length) (cap := c2) (m := 0) hs (by kernel_rfl) (Reps.ext (Imm.le_trans (Imm.le_trans (Imm.le_trans (Imm.le_trans (Imm.le_trans hi5 hi6) hi7) hi8) hi9) hi10) hp2) rfl
       exact (assign_VerifyDuals.calls k JL3 t2 A1 c1 t3 A2 c2 (⟨x2, x3⟩ : S26) A6 c6 A7 c7 _ hs.im hl1 (Rd.ext hj3 (Rd.ext (Imm.le_trans (Imm.le_trans (Imm.le_trans (Imm.le_trans (Imm.le_trans (Imm.le_trans hi4 hi5) hi6) hi7) hi8) hi9) hi10) hr1)) hn3 hw3 hl4 (Rd.ext hj3 (Rd.ext hi10 hr4)) hl5 (Rd.ext hj3 hr5) t7 hA7).mono (fun e w' ⟨v, hv, hp⟩ => ⟨v, hv, JL3, hj3, hp⟩)
      rintro w v w' hs ⟨I', hle, J, rfl, hg⟩
      refine RL.resume (X' := [orow 3 1 A2 t3.length c2 cs2]) rfl (hs.call (hg.back hle)) ?_
      clear hs hg hle I' J
      generalize w'.heap.size = nx11
      clear w w'
      refine RL.simK (K' := [(112, .bool t7), (7, .bool t1), (12, .int .i64 t5.1), (14, .int .i64 t6.1)]) [] (RFacts.nil _ _ _) 1 [.no] (by kernel_rfl) (by kernel_rfl) ?_
      refine RL.cases t7 (fun hb => ?_) (fun hb => ?_)
      ·have hc := hb
       rw [hb]
       rw [if_pos hc] at H; clear hb
       refine RL.simK (K' := [(116, .bool (t6.1 != t5.1)), (7, .bool t1)]) [] (RFacts.nil _ _ _) 4 [.no, .no, .no, .no] (by kernel_rfl) (by kernel_rfl) ?_
       refine RL.nil (by kernel_rfl) ?_
       obtain rfl := Option.some.inj H
       refine QN.sel (K' := [(7, .bool t1), (116, .bool (t6.1 != t5.1))]) (L' := [⟨nx0, [.int .i32 a2.f0, .int .i32 a2.f1], 39⟩, ⟨nx4, [.slice A6 x2.length c6, .slice A7 x3.length c7], 26⟩]) [] (by kernel_rfl) (by kernel_rfl) (.cons_cons _ (.cons_cons _ .slnil)) ?_
       refine QN.norm (X' := []) rfl rfl rfl (by kernel_rfl) ?_
       exact hJ4 _ _ _ _ _ ⟨(t6.1 != t5.1), rfl, rfl, rfl, (Imm.le_refl _), HK4⟩
      ·have hc := (Bool.eq_false_iff.1 hb)
       rw [hb]
       rw [if_neg hc] at H; clear hb
       refine RL.simK (K' := [(116, .bool false), (7, .bool t1)]) [] (RFacts.nil _ _ _) 4 [.no, .no, .no, .no] (by kernel_rfl) (by kernel_rfl) ?_
       refine RL.nil (by kernel_rfl) ?_
       obtain rfl := Option.some.inj H
       refine QN.sel (K' := [(7, .bool t1), (116, .bool false)]) (L' := [⟨nx0, [.int .i32 a2.f0, .int .i32 a2.f1], 39⟩, ⟨nx4, [.slice A6 x2.length c6, .slice A7 x3.length c7], 26⟩]) [] (by kernel_rfl) (by kernel_rfl) (.cons_cons _ (.cons_cons _ .slnil)) ?_
       refine QN.norm (X' := []) rfl rfl rfl (by kernel_rfl) ?_
       exact hJ4 _ _ _ _ _ ⟨false, rfl, rfl, rfl, (Imm.le_refl _), HK4⟩
    ·intro Q_2 hJ3 hQ3
     obtain ⟨y3, H, HK3⟩ := Option.bind_eq_some_iff.mp H
     refine OK.cond (.tmp 81) K5_50 K5_58 (decide ((t4.2.f1.length : Int) > 0)) (by kernel_rfl) (by kernel_rfl) (by kernel_rfl) (fun hb => ?_) (fun hb => ?_)
     ·skip
      have hc := (of_decide_eq_true hb)
      rw [if_pos hc] at H
      clear hb
      refine OK.seq K5_51 K5_53 (by kernel_rfl) ?_
      refine OK.region 14 O5_51 (by kernel_rfl) ?_
      refine RL.simP (K' := [(84, .slice A5 t4.2.f1.length c5), (82, .slice (some ⟨nx8, 0, none⟩) 0 0), (5, .pointer (some ⟨nx0, 0, none⟩)), (7, .bool t1), (8, .slice A1 t2.length c1), (9, .slice A2 t3.length c2), (11, .pointer (some ⟨nx4, 0, none⟩)), (12, .int .i64 t5.1), (14, .int .i64 t6.1)]) (nx' := nx8 + 1) (L' := [⟨nx0, [.int .i32 a2.f0, .int .i32 a2.f1], 39⟩, ⟨nx4, [.slice A6 x2.length c6, .slice A5 t4.2.f1.length c5], 26⟩, ⟨nx8, [], 2⟩]) [] (RFacts.nil _ _ _) 3 [.no, .no, .l 1] (by kernel_rfl) (by kernel_rfl) ?_
      refine RL.toRow (b := ⟨nx8, [], 2⟩) 2 0 1 (by kernel_rfl) (by kernel_rfl) (by decide) ?_
      have hp6 : Reps (Ty.int .i64) I9 ([] : List Int) [] := rfl
      refine RL.norm (L' := [⟨nx0, [.int .i32 a2.f0, .int .i32 a2.f1], 39⟩, ⟨nx4, [.slice A6 x2.length c6, .slice A5 t4.2.f1.length c5], 26⟩]) (X' := [orow 3 1 A2 t3.length c2 cs2, orow 2 1 (some ⟨nx8, 0, none⟩) (([] : List Int).length) 0 []]) rfl rfl (by kernel_rfl) (by kernel_rfl) ?_
      by_cases hz1 : (([] : List Int).length + t4.2.f1.length) * 8 ≤ 140737488355328
      case neg => rw [if_neg hz1] at H; cases H
      rw [if_pos hz1] at H
      refine RL.appendR (T := 24) (e := 2) (S := (some ⟨nx8, 0, none⟩)) (S2 := A5) 1 8 24 0 c5 [] (Ty.int .i64) ([] : List Int) t4.2.f1 1 (some 85) (by kernel_rfl) (by kernel_rfl) (by kernel_rfl) (by kernel_rfl) (by kernel_rfl) (by decide) (by kernel_rfl) hp6 (Rd.ext (Imm.le_trans hi8 hi9) hr3) hz1 (by omega) (fun A8 c8 nx12 cs6 hp7 => ?_)
      refine RL.sub (K' := [(85, .slice A8 ((([] : List Int) ++ t4.2.f1).length) c8), (84, .slice A5 t4.2.f1.length c5), (82, .slice (some ⟨nx8, 0, none⟩) 0 0), (5, .pointer (some ⟨nx0, 0, none⟩)), (7, .bool t1), (8, .slice A1 t2.length c1), (9, .slice A2 t3.length c2), (11, .pointer (some ⟨nx4, 0, none⟩)), (12, .int .i64 t5.1), (14, .int .i64 t6.1)]) (L' := [⟨nx0, [.int .i32 a2.f0, .int .i32 a2.f1], 39⟩, ⟨nx4, [.slice A6 x2.length c6, .slice A5 t4.2.f1.length c5], 26⟩]) (X' := [orow 3 1 A2 t3.length c2 cs2, orow 2 1 A8 ((([] : List Int) ++ t4.2.f1).length) c8 cs6]) (by kernel_rfl) (.refl _) (.refl _) ?_
      refine RL.simP (K' := [(5, .pointer (some ⟨nx0, 0, none⟩)), (7, .bool t1), (8, .slice A1 t2.length c1), (9, .slice A2 t3.length c2), (11, .pointer (some ⟨nx4, 0, none⟩)), (12, .int .i64 t5.1), (14, .int .i64 t6.1)]) (nx' := nx12) (L' := [⟨nx0, [.int .i32 a2.f0, .int .i32 a2.f1], 39⟩, ⟨nx4, [.slice A6 x2.length c6, .slice A8 ((([] : List Int) ++ t4.2.f1).length) c8], 26⟩]) [] (RFacts.nil _ _ _) 2 [.no, .l 1] (by kernel_rfl) (by kernel_rfl) ?_
      refine RL.nil (by kernel_rfl) ?_
      refine QN.then_ ?_
      refine OK.seq K5_54 K5_56 (by kernel_rfl) ?_
      refine OK.region 15 O5_54 (by kernel_rfl) ?_
      refine RL.simK (K' := [(93, .int .i64 ((([] : List Int) ++ t4.2.f1).length : Int)), (90, .int .i64 (W .i64 (W .u32 (a2.f0)))), (5, .pointer (some ⟨nx0, 0, none⟩)), (7, .bool t1), (8, .slice A1 t2.length c1), (9, .slice A2 t3.length c2), (11, .pointer (some ⟨nx4, 0, none⟩)), (12, .int .i64 t5.1), (14, .int .i64 t6.1)]) [] (RFacts.nil _ _ _) 7 [.no, .l 0, .no, .no, .no, .l 1, .no] (by kernel_rfl) (by kernel_rfl) ?_
      by_cases hc : ((([] : List Int) ++ t4.2.f1).length : Int) = 0
      ·rw [if_pos hc] at H; cases H
      rw [if_neg hc] at H
      refine RL.rem .i64 (W .i64 (W .u32 (a2.f0))) ((([] : List Int) ++ t4.2.f1).length : Int) (some 94) (by kernel_rfl) (by kernel_rfl) hc (K' := [(94, .int .i64 ((W .i64 (W .u32 (a2.f0))).tmod ((([] : List Int) ++ t4.2.f1).length : Int))), (93, .int .i64 ((([] : List Int) ++ t4.2.f1).length : Int)), (90, .int .i64 (W .i64 (W .u32 (a2.f0)))), (5, .pointer (some ⟨nx0, 0, none⟩)), (7, .bool t1), (8, .slice A1 t2.length c1), (9, .slice A2 t3.length c2), (11, .pointer (some ⟨nx4, 0, none⟩)), (12, .int .i64 t5.1), (14, .int .i64 t6.1)]) (by kernel_rfl) ?_
      refine RL.simK (K' := [(17, .int .i64 ((W .i64 (W .u32 (a2.f0))).tmod ((([] : List Int) ++ t4.2.f1).length : Int))), (5, .pointer (some ⟨nx0, 0, none⟩)), (7, .bool t1), (8, .slice A1 t2.length c1), (9, .slice A2 t3.length c2), (11, .pointer (some ⟨nx4, 0, none⟩)), (12, .int .i64 t5.1), (14, .int .i64 t6.1)]) [] (RFacts.nil _ _ _) 1 [.no] (by kernel_rfl) (by kernel_rfl) ?_
      refine RL.nil (by kernel_rfl) ?_
      refine QN.then_ ?_
      by_cases hi0_1 : 0 ≤ ((W .i64 (W .u32 (a2.f0))).tmod ((([] : List Int) ++ t4.2.f1).length : Int))
      case neg => rw [if_neg hi0_1] at H; cases H
      rw [if_pos hi0_1] at H
      by_cases hi1_1 : ((W .i64 (W .u32 (a2.f0))).tmod ((([] : List Int) ++ t4.2.f1).length : Int)) < ((([] : List Int) ++ t4.2.f1).length : Int)
      case neg => rw [if_neg hi1_1] at H; cases H
      rw [if_pos hi1_1] at H
      refine OK.ownAddr (e := 2) (sz := 1) (S := A8) (n := (([] : List Int) ++ t4.2.f1).length) (cap := c8) (cs := cs6) 1 (by kernel_rfl) (by omega) (fun g1_ hA1_ => ?_)
      have hc1_ := Ty.int_own hp7 ((W .i64 (W .u32 (a2.f0))).tmod ((([] : List Int) ++ t4.2.f1).length : Int)) hi0_1 hi1_1
      have hx01_ := hi0_1; have hx11_ := hi1_1
      refine OK.drawnC 16 12 O5_56 a5_56n (by kernel_rfl) (by kernel_rfl) u5d1l (u5d1g a2 t4 g1_) [(⟨g1_, 0 + ((W .i64 (W .u32 (a2.f0))).tmod ((([] : List Int) ++ t4.2.f1).length : Int)).toNat * 1, none⟩, .int .i64 ((([] : List Int) ++ t4.2.f1).getD ((W .i64 (W .u32 (a2.f0))).tmod ((([] : List Int) ++ t4.2.f1).length : Int)).toNat 0))] (RI.own (e := 2) (sz := 1) (S := A8) (n := (([] : List Int) ++ t4.2.f1).length) (cap := c8) (cs := cs6) 1 (by kernel_rfl) hA1_ (0 + ((W .i64 (W .u32 (a2.f0))).tmod ((([] : List Int) ++ t4.2.f1).length : Int)).toNat * 1) (((W .i64 (W .u32 (a2.f0))).tmod ((([] : List Int) ++ t4.2.f1).length : Int)).toNat * 1 + 0) (by omega) (hc1_ 0 _ rfl) (RI.nil _)) [.no, .l 1, .no, .no, .l 1, .no, .no, .r 0, .no, .l 0, .no, .no] a5_56 a5_56o (by kernel_rfl) (by kernel_rfl) (u5d1s a2 nx0 t4 nx4 A8 c8 g1_) (u5d1f a2 nx0 t1 t2 A1 c1 t3 A2 c2 t4 nx4 t5 t6 A8 c8 g1_ 12) (u5d1v a2 nx0 t1 t2 A1 c1 t3 A2 c2 t4 nx4 t5 t6 x2 A6 c6 A8 c8 g1_) (u5d1e a2 nx0 t1 t2 A1 c1 t3 A2 c2 t4 nx4 t5 t6 x2 A6 c6 A8 c8 g1_) [] framesOk.nil ?_ [u5d1f a2 nx0 t1 t2 A1 c1 t3 A2 c2 t4 nx4 t5 t6 A8 c8 g1_ 6] (framesOk.cons (fun u => rfl) framesOk.nil) ?_ ?_
      ·refine LoudsG.nil
      ·refine Givens.cons (fun u w =>  ?_) (fun _ _ _ => rfl) (Givens.nil)
       ·exact giv_idx (T := 24) (e := 2) 1 .i64 ((W .i64 (W .u32 (a2.f0))).tmod ((([] : List Int) ++ t4.2.f1).length : Int)) hA1_ ((([] : List Int) ++ t4.2.f1).length) c8 (by kernel_rfl) (by kernel_rfl) (by kernel_rfl) hi0_1 hi1_1 w
      intro u I12 nx13 hi12 hF
      clear hF
      refine RL.norm (K' := [(106, .int .i64 (W .i64 (((([] : List Int) ++ t4.2.f1).getD ((W .i64 (W .u32 (a2.f0))).tmod ((([] : List Int) ++ t4.2.f1).length : Int)).toNat 0) - (W .i64 (a2.f1))))), (105, .int .i64 (W .i64 (a2.f1))), (104, .int .i32 a2.f1), (103, .pointer (some ⟨nx0, 1, none⟩)), (102, .int .i64 ((([] : List Int) ++ t4.2.f1).getD ((W .i64 (W .u32 (a2.f0))).tmod ((([] : List Int) ++ t4.2.f1).length : Int)).toNat 0)), (101, .pointer (some ⟨g1_, 0 + ((W .i64 (W .u32 (a2.f0))).tmod ((([] : List Int) ++ t4.2.f1).length : Int)).toNat * 1, none⟩)), (100, .int .i64 ((W .i64 (W .u32 (a2.f0))).tmod ((([] : List Int) ++ t4.2.f1).length : Int))), (99, .slice A8 ((([] : List Int) ++ t4.2.f1).length) c8), (98, .pointer (some ⟨nx4, 1, none⟩)), (97, .int .i64 ((W .i64 (W .u32 (a2.f0))).tmod ((([] : List Int) ++ t4.2.f1).length : Int))), (96, .slice A8 ((([] : List Int) ++ t4.2.f1).length) c8), (95, .pointer (some ⟨nx4, 1, none⟩)), (17, .int .i64 ((W .i64 (W .u32 (a2.f0))).tmod ((([] : List Int) ++ t4.2.f1).length : Int))), (5, .pointer (some ⟨nx0, 0, none⟩)), (7, .bool t1), (8, .slice A1 t2.length c1), (9, .slice A2 t3.length c2), (11, .pointer (some ⟨nx4, 0, none⟩)), (12, .int .i64 t5.1), (14, .int .i64 t6.1)]) (X' := [orow 3 1 A2 t3.length c2 cs2, orow 2 1 A8 ((([] : List Int) ++ t4.2.f1).length) c8 cs6]) (by kernel_rfl) rfl rfl rfl ?_
      by_cases hib0 : 0 ≤ ((W .i64 (W .u32 (a2.f0))).tmod ((([] : List Int) ++ t4.2.f1).length : Int))
      case neg => rw [if_neg hib0] at H; cases H
      rw [if_pos hib0] at H
      by_cases hib1 : ((W .i64 (W .u32 (a2.f0))).tmod ((([] : List Int) ++ t4.2.f1).length : Int)) < ((([] : List Int) ++ t4.2.f1).length : Int)
      case neg => rw [if_neg hib1] at H; cases H
      rw [if_pos hib1] at H
      have hx02_ := hib0; have hx12_ := hib1
      refine RL.ownAddr (e := 2) (sz := 1) (S := A8) (n := (([] : List Int) ++ t4.2.f1).length) (cap := c8) (cs := cs6) 1 (by kernel_rfl) (by omega) (fun g2_ hA2_ => ?_)
      have hc2_ := Ty.int_own (Reps.ext hi12 hp7) ((W .i64 (W .u32 (a2.f0))).tmod ((([] : List Int) ++ t4.2.f1).length : Int)) hib0 hib1
      refine RL.idx 1 .i64 ((W .i64 (W .u32 (a2.f0))).tmod ((([] : List Int) ++ t4.2.f1).length : Int)) hA2_ ((([] : List Int) ++ t4.2.f1).length) c8 (some 107) (by kernel_rfl) (by kernel_rfl) (T := 24) (e := 2) (by kernel_rfl) (by kernel_rfl) hib0 hib1 (K' := [(107, .pointer (some ⟨g2_, 0 + ((W .i64 (W .u32 (a2.f0))).tmod ((([] : List Int) ++ t4.2.f1).length : Int)).toNat * 1, none⟩)), (106, .int .i64 (W .i64 (((([] : List Int) ++ t4.2.f1).getD ((W .i64 (W .u32 (a2.f0))).tmod ((([] : List Int) ++ t4.2.f1).length : Int)).toNat 0) - (W .i64 (a2.f1))))), (105, .int .i64 (W .i64 (a2.f1))), (104, .int .i32 a2.f1), (103, .pointer (some ⟨nx0, 1, none⟩)), (102, .int .i64 ((([] : List Int) ++ t4.2.f1).getD ((W .i64 (W .u32 (a2.f0))).tmod ((([] : List Int) ++ t4.2.f1).length : Int)).toNat 0)), (101, .pointer (some ⟨g1_, 0 + ((W .i64 (W .u32 (a2.f0))).tmod ((([] : List Int) ++ t4.2.f1).length : Int)).toNat * 1, none⟩)), (100, .int .i64 ((W .i64 (W .u32 (a2.f0))).tmod ((([] : List Int) ++ t4.2.f1).length : Int))), (99, .slice A8 ((([] : List Int) ++ t4.2.f1).length) c8), (98, .pointer (some ⟨nx4, 1, none⟩)), (97, .int .i64 ((W .i64 (W .u32 (a2.f0))).tmod ((([] : List Int) ++ t4.2.f1).length : Int))), (96, .slice A8 ((([] : List Int) ++ t4.2.f1).length) c8), (95, .pointer (some ⟨nx4, 1, none⟩)), (17, .int .i64 ((W .i64 (W .u32 (a2.f0))).tmod ((([] : List Int) ++ t4.2.f1).length : Int))), (5, .pointer (some ⟨nx0, 0, none⟩)), (7, .bool t1), (8, .slice A1 t2.length c1), (9, .slice A2 t3.length c2), (11, .pointer (some ⟨nx4, 0, none⟩)), (12, .int .i64 t5.1), (14, .int .i64 t6.1)]) (by kernel_rfl) ?_
      refine RL.storeL (T := 2) (e := 2) 1 1 hA2_ c8 ((W .i64 (W .u32 (a2.f0))).tmod ((([] : List Int) ++ t4.2.f1).length : Int)) cs6 [.int .i64 (W .i64 (((([] : List Int) ++ t4.2.f1).getD ((W .i64 (W .u32 (a2.f0))).tmod ((([] : List Int) ++ t4.2.f1).length : Int)).toNat 0) - (W .i64 (a2.f1))))] (.int .i64 (W .i64 (((([] : List Int) ++ t4.2.f1).getD ((W .i64 (W .u32 (a2.f0))).tmod ((([] : List Int) ++ t4.2.f1).length : Int)).toNat 0) - (W .i64 (a2.f1))))) (Ty.int .i64) (([] : List Int) ++ t4.2.f1) (W .i64 (((([] : List Int) ++ t4.2.f1).getD ((W .i64 (W .u32 (a2.f0))).tmod ((([] : List Int) ++ t4.2.f1).length : Int)).toNat 0) - (W .i64 (a2.f1)))) (by kernel_rfl) (by kernel_rfl) (by kernel_rfl) (by kernel_rfl) (by kernel_rfl) rfl (by kernel_rfl) (Reps.ext hi12 hp7) hx02_ hx12_ (fun cs7 hp8 => ?_)
      refine RL.sub (K' := [(106, .int .i64 (W .i64 (((([] : List Int) ++ t4.2.f1).getD ((W .i64 (W .u32 (a2.f0))).tmod ((([] : List Int) ++ t4.2.f1).length : Int)).toNat 0) - (W .i64 (a2.f1))))), (105, .int .i64 (W .i64 (a2.f1))), (104, .int .i32 a2.f1), (103, .pointer (some ⟨nx0, 1, none⟩)), (102, .int .i64 ((([] : List Int) ++ t4.2.f1).getD ((W .i64 (W .u32 (a2.f0))).tmod ((([] : List Int) ++ t4.2.f1).length : Int)).toNat 0)), (100, .int .i64 ((W .i64 (W .u32 (a2.f0))).tmod ((([] : List Int) ++ t4.2.f1).length : Int))), (99, .slice A8 ((([] : List Int) ++ t4.2.f1).length) c8), (98, .pointer (some ⟨nx4, 1, none⟩)), (97, .int .i64 ((W .i64 (W .u32 (a2.f0))).tmod ((([] : List Int) ++ t4.2.f1).length : Int))), (96, .slice A8 ((([] : List Int) ++ t4.2.f1).length) c8), (95, .pointer (some ⟨nx4, 1, none⟩)), (17, .int .i64 ((W .i64 (W .u32 (a2.f0))).tmod ((([] : List Int) ++ t4.2.f1).length : Int))), (5, .pointer (some ⟨nx0, 0, none⟩)), (7, .bool t1), (8, .slice A1 t2.length c1), (9, .slice A2 t3.length c2), (11, .pointer (some ⟨nx4, 0, none⟩)), (12, .int .i64 t5.1), (14, .int .i64 t6.1)]) (L' := [⟨nx0, [.int .i32 a2.f0, .int .i32 a2.f1], 39⟩, ⟨nx4, [.slice A6 x2.length c6, .slice A8 ((([] : List Int) ++ t4.2.f1).length) c8], 26⟩]) (X' := [orow 3 1 A2 t3.length c2 cs2, orow 2 1 A8 (((([] : List Int) ++ t4.2.f1).set ((W .i64 (W .u32 (a2.f0))).tmod ((([] : List Int) ++ t4.2.f1).length : Int)).toNat (W .i64 (((([] : List Int) ++ t4.2.f1).getD ((W .i64 (W .u32 (a2.f0))).tmod ((([] : List Int) ++ t4.2.f1).length : Int)).toNat 0) - (W .i64 (a2.f1))))).length) c8 cs7]) (by kernel_rfl) (.refl _) (.refl _) ?_
      refine RL.norm (K' := [(106, .int .i64 (W .i64 (((([] : List Int) ++ t4.2.f1).getD ((W .i64 (W .u32 (a2.f0))).tmod ((([] : List Int) ++ t4.2.f1).length : Int)).toNat 0) - (W .i64 (a2.f1))))), (105, .int .i64 (W .i64 (a2.f1))), (104, .int .i32 a2.f1), (103, .pointer (some ⟨nx0, 1, none⟩)), (102, .int .i64 ((([] : List Int) ++ t4.2.f1).getD ((W .i64 (W .u32 (a2.f0))).tmod ((([] : List Int) ++ t4.2.f1).length : Int)).toNat 0)), (100, .int .i64 ((W .i64 (W .u32 (a2.f0))).tmod ((([] : List Int) ++ t4.2.f1).length : Int))), (99, .slice A8 (((([] : List Int) ++ t4.2.f1).set ((W .i64 (W .u32 (a2.f0))).tmod ((([] : List Int) ++ t4.2.f1).length : Int)).toNat (W .i64 (((([] : List Int) ++ t4.2.f1).getD ((W .i64 (W .u32 (a2.f0))).tmod ((([] : List Int) ++ t4.2.f1).length : Int)).toNat 0) - (W .i64 (a2.f1))))).length) c8), (98, .pointer (some ⟨nx4, 1, none⟩)), (97, .int .i64 ((W .i64 (W .u32 (a2.f0))).tmod ((([] : List Int) ++ t4.2.f1).length : Int))), (96, .slice A8 (((([] : List Int) ++ t4.2.f1).set ((W .i64 (W .u32 (a2.f0))).tmod ((([] : List Int) ++ t4.2.f1).length : Int)).toNat (W .i64 (((([] : List Int) ++ t4.2.f1).getD ((W .i64 (W .u32 (a2.f0))).tmod ((([] : List Int) ++ t4.2.f1).length : Int)).toNat 0) - (W .i64 (a2.f1))))).length) c8), (95, .pointer (some ⟨nx4, 1, none⟩)), (17, .int .i64 ((W .i64 (W .u32 (a2.f0))).tmod ((([] : List Int) ++ t4.2.f1).length : Int))), (5, .pointer (some ⟨nx0, 0, none⟩)), (7, .bool t1), (8, .slice A1 t2.length c1), (9, .slice A2 t3.length c2), (11, .pointer (some ⟨nx4, 0, none⟩)), (12, .int .i64 t5.1), (14, .int .i64 t6.1)]) (L' := [⟨nx0, [.int .i32 a2.f0, .int .i32 a2.f1], 39⟩, ⟨nx4, [.slice A6 x2.length c6, .slice A8 (((([] : List Int) ++ t4.2.f1).set ((W .i64 (W .u32 (a2.f0))).tmod ((([] : List Int) ++ t4.2.f1).length : Int)).toNat (W .i64 (((([] : List Int) ++ t4.2.f1).getD ((W .i64 (W .u32 (a2.f0))).tmod ((([] : List Int) ++ t4.2.f1).length : Int)).toNat 0) - (W .i64 (a2.f1))))).length) c8], 26⟩]) (by simp only [List.length_set]) rfl (by first | rfl | simp only [List.length_set]) rfl ?_
      refine RL.nil (by kernel_rfl) ?_
      refine QN.sub (K' := [(7, .bool t1), (8, .slice A1 t2.length c1), (9, .slice A2 t3.length c2), (11, .pointer (some ⟨nx4, 0, none⟩)), (12, .int .i64 t5.1), (14, .int .i64 t6.1)]) (L' := [⟨nx0, [.int .i32 a2.f0, .int .i32 a2.f1], 39⟩, ⟨nx4, [.slice A6 x2.length c6, .slice A8 (((([] : List Int) ++ t4.2.f1).set ((W .i64 (W .u32 (a2.f0))).tmod ((([] : List Int) ++ t4.2.f1).length : Int)).toNat (W .i64 (((([] : List Int) ++ t4.2.f1).getD ((W .i64 (W .u32 (a2.f0))).tmod ((([] : List Int) ++ t4.2.f1).length : Int)).toNat 0) - (W .i64 (a2.f1))))).length) c8], 26⟩]) (by kernel_rfl) (.cons_cons _ (.cons_cons _ .slnil)) (.refl _) ?_
      refine QN.freeze (e := 2) (sz := 1) (S := A8) (n := ((([] : List Int) ++ t4.2.f1).set ((W .i64 (W .u32 (a2.f0))).tmod ((([] : List Int) ++ t4.2.f1).length : Int)).toNat (W .i64 (((([] : List Int) ++ t4.2.f1).getD ((W .i64 (W .u32 (a2.f0))).tmod ((([] : List Int) ++ t4.2.f1).length : Int)).toNat 0) - (W .i64 (a2.f1))))).length) (cap := c8) 1 (by kernel_rfl) hp8 rfl (fun I13 hi13 hl6 hr6 => ?_)
      skip
      obtain rfl := Option.some.inj H
      refine QN.sub (K' := [(7, .bool t1), (8, .slice A1 t2.length c1), (9, .slice A2 t3.length c2), (11, .pointer (some ⟨nx4, 0, none⟩)), (12, .int .i64 t5.1), (14, .int .i64 t6.1)]) (L' := [⟨nx0, [.int .i32 a2.f0, .int .i32 a2.f1], 39⟩, ⟨nx4, [.slice A6 x2.length c6, .slice A8 (((([] : List Int) ++ t4.2.f1).set ((W .i64 (W .u32 (a2.f0))).tmod ((([] : List Int) ++ t4.2.f1).length : Int)).toNat (W .i64 (((([] : List Int) ++ t4.2.f1).getD ((W .i64 (W .u32 (a2.f0))).tmod ((([] : List Int) ++ t4.2.f1).length : Int)).toNat 0) - (W .i64 (a2.f1))))).length) c8], 26⟩]) (by kernel_rfl) (.cons_cons _ (.cons_cons _ .slnil)) (.refl _) ?_
      exact hJ3 _ _ _ _ _ ⟨(([] : List Int) ++ t4.2.f1).set ((W .i64 (W .u32 (a2.f0))).tmod ((([] : List Int) ++ t4.2.f1).length : Int)).toNat (W .i64 (((([] : List Int) ++ t4.2.f1).getD ((W .i64 (W .u32 (a2.f0))).tmod ((([] : List Int) ++ t4.2.f1).length : Int)).toNat 0) - (W .i64 (a2.f1)))), A8, c8, rfl, rfl, rfl, (Imm.le_trans hi12 hi13), hl6, hr6, HK3⟩
     ·skip
      have hc := (of_decide_eq_false hb)
      rw [if_neg hc] at H
      clear hb
      refine OK.skip (by kernel_rfl) ?_
      obtain rfl := Option.some.inj H
      refine QN.sub (K' := [(7, .bool t1), (8, .slice A1 t2.length c1), (9, .slice A2 t3.length c2), (11, .pointer (some ⟨nx4, 0, none⟩)), (12, .int .i64 t5.1), (14, .int .i64 t6.1)]) (L' := [⟨nx0, [.int .i32 a2.f0, .int .i32 a2.f1], 39⟩, ⟨nx4, [.slice A6 x2.length c6, .slice A5 t4.2.f1.length c5], 26⟩]) (by kernel_rfl) (.cons_cons _ (.cons_cons _ .slnil)) (.refl _) ?_
      exact hJ3 _ _ _ _ _ ⟨t4.2.f1, A5, c5, rfl, rfl, rfl, (Imm.le_refl _), hl3, (Rd.ext (Imm.le_trans hi8 hi9) hr3), HK3⟩
   ·intro Q_3 hJ2 hQ2
    obtain ⟨y2, H, HK2⟩ := Option.bind_eq_some_iff.mp H
    refine OK.cond (.tmp 51) K5_36 K5_44 (decide ((t4.2.f0.length : Int) > 0)) (by kernel_rfl) (by kernel_rfl) (by kernel_rfl) (fun hb => ?_) (fun hb => ?_)
    ·skip
     have hc := (of_decide_eq_true hb)
     rw [if_pos hc] at H
     clear hb
     refine OK.seq K5_37 K5_39 (by kernel_rfl) ?_
     refine OK.region 10 O5_37 (by kernel_rfl) ?_
     refine RL.simP (K' := [(54, .slice A4 t4.2.f0.length c4), (52, .slice (some ⟨nx7, 0, none⟩) 0 0), (5, .pointer (some ⟨nx0, 0, none⟩)), (7, .bool t1), (8, .slice A1 t2.length c1), (9, .slice A2 t3.length c2), (11, .pointer (some ⟨nx4, 0, none⟩)), (12, .int .i64 t5.1), (14, .int .i64 t6.1)]) (nx' := nx7 + 1) (L' := [⟨nx0, [.int .i32 a2.f0, .int .i32 a2.f1], 39⟩, ⟨nx4, [.slice A4 t4.2.f0.length c4, .slice A5 t4.2.f1.length c5], 26⟩, ⟨nx7, [], 2⟩]) [] (RFacts.nil _ _ _) 3 [.no, .no, .l 1] (by kernel_rfl) (by kernel_rfl) ?_
     refine RL.toRow (b := ⟨nx7, [], 2⟩) 2 0 1 (by kernel_rfl) (by kernel_rfl) (by decide) ?_
     have hp9 : Reps (Ty.int .i64) I8 ([] : List Int) [] := rfl
     refine RL.norm (L' := [⟨nx0, [.int .i32 a2.f0, .int .i32 a2.f1], 39⟩, ⟨nx4, [.slice A4 t4.2.f0.length c4, .slice A5 t4.2.f1.length c5], 26⟩]) (X' := [orow 3 1 A2 t3.length c2 cs2, orow 2 1 (some ⟨nx7, 0, none⟩) (([] : List Int).length) 0 []]) rfl rfl (by kernel_rfl) (by kernel_rfl) ?_
     by_cases hz2 : (([] : List Int).length + t4.2.f0.length) * 8 ≤ 140737488355328
     case neg => rw [if_neg hz2] at H; cases H
     rw [if_pos hz2] at H
     refine RL.appendR (T := 24) (e := 2) (S := (some ⟨nx7, 0, none⟩)) (S2 := A4) 1 8 24 0 c4 [] (Ty.int .i64) ([] : List Int) t4.2.f0 1 (some 55) (by kernel_rfl) (by kernel_rfl) (by kernel_rfl) (by kernel_rfl) (by kernel_rfl) (by decide) (by kernel_rfl) hp9 (Rd.ext (Imm.le_trans hi7 hi8) hr2) hz2 (by omega) (fun A9 c9 nx14 cs8 hp10 => ?_)
     refine RL.sub (K' := [(55, .slice A9 ((([] : List Int) ++ t4.2.f0).length) c9), (54, .slice A4 t4.2.f0.length c4), (52, .slice (some ⟨nx7, 0, none⟩) 0 0), (5, .pointer (some ⟨nx0, 0, none⟩)), (7, .bool t1), (8, .slice A1 t2.length c1), (9, .slice A2 t3.length c2), (11, .pointer (some ⟨nx4, 0, none⟩)), (12, .int .i64 t5.1), (14, .int .i64 t6.1)]) (L' := [⟨nx0, [.int .i32 a2.f0, .int .i32 a2.f1], 39⟩, ⟨nx4, [.slice A4 t4.2.f0.length c4, .slice A5 t4.2.f1.length c5], 26⟩]) (X' := [orow 3 1 A2 t3.length c2 cs2, orow 2 1 A9 ((([] : List Int) ++ t4.2.f0).length) c9 cs8]) (by kernel_rfl) (.refl _) (.refl _) ?_
     refine RL.simP (K' := [(5, .pointer (some ⟨nx0, 0, none⟩)), (7, .bool t1), (8, .slice A1 t2.length c1), (9, .slice A2 t3.length c2), (11, .pointer (some ⟨nx4, 0, none⟩)), (12, .int .i64 t5.1), (14, .int .i64 t6.1)]) (nx' := nx14) (L' := [⟨nx0, [.int .i32 a2.f0, .int .i32 a2.f1], 39⟩, ⟨nx4, [.slice A9 ((([] : List Int) ++ t4.2.f0).length) c9, .slice A5 t4.2.f1.length c5], 26⟩]) [] (RFacts.nil _ _ _) 2 [.no, .l 1] (by kernel_rfl) (by kernel_rfl) ?_
     refine RL.nil (by kernel_rfl) ?_
     refine QN.then_ ?_
     refine OK.seq K5_40 K5_42 (by kernel_rfl) ?_
     refine OK.region 11 O5_40 (by kernel_rfl) ?_
     refine RL.simK (K' := [(63, .int .i64 ((([] : List Int) ++ t4.2.f0).length : Int)), (60, .int .i64 (W .i64 (W .u32 (a2.f0)))), (5, .pointer (some ⟨nx0, 0, none⟩)), (7, .bool t1), (8, .slice A1 t2.length c1), (9, .slice A2 t3.length c2), (11, .pointer (some ⟨nx4, 0, none⟩)), (12, .int .i64 t5.1), (14, .int .i64 t6.1)]) [] (RFacts.nil _ _ _) 7 [.no, .l 0, .no, .no, .no, .l 1, .no] (by kernel_rfl) (by kernel_rfl) ?_
     by_cases hc : ((([] : List Int) ++ t4.2.f0).length : Int) = 0
     ·rw [if_pos hc] at H; cases H
     rw [if_neg hc] at H
     refine RL.rem .i64 (W .i64 (W .u32 (a2.f0))) ((([] : List Int) ++ t4.2.f0).length : Int) (some 64) (by kernel_rfl) (by kernel_rfl) hc (K' := [(64, .int .i64 ((W .i64 (W .u32 (a2.f0))).tmod ((([] : List Int) ++ t4.2.f0).length : Int))), (63, .int .i64 ((([] : List Int) ++ t4.2.f0).length : Int)), (60, .int .i64 (W .i64 (W .u32 (a2.f0)))), (5, .pointer (some ⟨nx0, 0, none⟩)), (7, .bool t1), (8, .slice A1 t2.length c1), (9, .slice A2 t3.length c2), (11, .pointer (some ⟨nx4, 0, none⟩)), (12, .int .i64 t5.1), (14, .int .i64 t6.1)]) (by kernel_rfl) ?_
     refine RL.simK (K' := [(16, .int .i64 ((W .i64 (W .u32 (a2.f0))).tmod ((([] : List Int) ++ t4.2.f0).length : Int))), (5, .pointer (some ⟨nx0, 0, none⟩)), (7, .bool t1), (8, .slice A1 t2.length c1), (9, .slice A2 t3.length c2), (11, .pointer (some ⟨nx4, 0, none⟩)), (12, .int .i64 t5.1), (14, .int .i64 t6.1)]) [] (RFacts.nil _ _ _) 1 [.no] (by kernel_rfl) (by kernel_rfl) ?_
     refine RL.nil (by kernel_rfl) ?_
     refine QN.then_ ?_
     by_cases hi0_2 : 0 ≤ ((W .i64 (W .u32 (a2.f0))).tmod ((([] : List Int) ++ t4.2.f0).length : Int))
     case neg => rw [if_neg hi0_2] at H; cases H
     rw [if_pos hi0_2] at H
     by_cases hi1_2 : ((W .i64 (W .u32 (a2.f0))).tmod ((([] : List Int) ++ t4.2.f0).length : Int)) < ((([] : List Int) ++ t4.2.f0).length : Int)
     case neg => rw [if_neg hi1_2] at H; cases H
     rw [if_pos hi1_2] at H
     refine OK.ownAddr (e := 2) (sz := 1) (S := A9) (n := (([] : List Int) ++ t4.2.f0).length) (cap := c9) (cs := cs8) 1 (by kernel_rfl) (by omega) (fun g3_ hA3_ => ?_)
     have hc3_ := Ty.int_own hp10 ((W .i64 (W .u32 (a2.f0))).tmod ((([] : List Int) ++ t4.2.f0).length : Int)) hi0_2 hi1_2
     have hx03_ := hi0_2; have hx13_ := hi1_2
     refine OK.drawnC 12 12 O5_42 a5_42n (by kernel_rfl) (by kernel_rfl) u5d2l (u5d2g a2 t4 g3_) [(⟨g3_, 0 + ((W .i64 (W .u32 (a2.f0))).tmod ((([] : List Int) ++ t4.2.f0).length : Int)).toNat * 1, none⟩, .int .i64 ((([] : List Int) ++ t4.2.f0).getD ((W .i64 (W .u32 (a2.f0))).tmod ((([] : List Int) ++ t4.2.f0).length : Int)).toNat 0))] (RI.own (e := 2) (sz := 1) (S := A9) (n := (([] : List Int) ++ t4.2.f0).length) (cap := c9) (cs := cs8) 1 (by kernel_rfl) hA3_ (0 + ((W .i64 (W .u32 (a2.f0))).tmod ((([] : List Int) ++ t4.2.f0).length : Int)).toNat * 1) (((W .i64 (W .u32 (a2.f0))).tmod ((([] : List Int) ++ t4.2.f0).length : Int)).toNat * 1 + 0) (by omega) (hc3_ 0 _ rfl) (RI.nil _)) [.no, .l 1, .no, .no, .l 1, .no, .no, .r 0, .no, .l 0, .no, .no] a5_42 a5_42o (by kernel_rfl) (by kernel_rfl) (u5d2s a2 nx0 t4 nx4 A9 c9 g3_) (u5d2f a2 nx0 t1 t2 A1 c1 t3 A2 c2 t4 nx4 t5 t6 A9 c9 g3_ 12) (u5d2v a2 nx0 t1 t2 A1 c1 t3 A2 c2 t4 A5 c5 nx4 t5 t6 A9 c9 g3_) (u5d2e a2 nx0 t1 t2 A1 c1 t3 A2 c2 t4 A5 c5 nx4 t5 t6 A9 c9 g3_) [] framesOk.nil ?_ [u5d2f a2 nx0 t1 t2 A1 c1 t3 A2 c2 t4 nx4 t5 t6 A9 c9 g3_ 6] (framesOk.cons (fun u => rfl) framesOk.nil) ?_ ?_
     ·refine LoudsG.nil
     ·refine Givens.cons (fun u w =>  ?_) (fun _ _ _ => rfl) (Givens.nil)
      ·exact giv_idx (T := 24) (e := 2) 1 .i64 ((W .i64 (W .u32 (a2.f0))).tmod ((([] : List Int) ++ t4.2.f0).length : Int)) hA3_ ((([] : List Int) ++ t4.2.f0).length) c9 (by kernel_rfl) (by kernel_rfl) (by kernel_rfl) hi0_2 hi1_2 w
     intro u I14 nx15 hi14 hF
     clear hF
     refine RL.norm (K' := [(76, .int .i64 (W .i64 (((([] : List Int) ++ t4.2.f0).getD ((W .i64 (W .u32 (a2.f0))).tmod ((([] : List Int) ++ t4.2.f0).length : Int)).toNat 0) + (W .i64 (a2.f1))))), (75, .int .i64 (W .i64 (a2.f1))), (74, .int .i32 a2.f1), (73, .pointer (some ⟨nx0, 1, none⟩)), (72, .int .i64 ((([] : List Int) ++ t4.2.f0).getD ((W .i64 (W .u32 (a2.f0))).tmod ((([] : List Int) ++ t4.2.f0).length : Int)).toNat 0)), (71, .pointer (some ⟨g3_, 0 + ((W .i64 (W .u32 (a2.f0))).tmod ((([] : List Int) ++ t4.2.f0).length : Int)).toNat * 1, none⟩)), (70, .int .i64 ((W .i64 (W .u32 (a2.f0))).tmod ((([] : List Int) ++ t4.2.f0).length : Int))), (69, .slice A9 ((([] : List Int) ++ t4.2.f0).length) c9), (68, .pointer (some ⟨nx4, 0, none⟩)), (67, .int .i64 ((W .i64 (W .u32 (a2.f0))).tmod ((([] : List Int) ++ t4.2.f0).length : Int))), (66, .slice A9 ((([] : List Int) ++ t4.2.f0).length) c9), (65, .pointer (some ⟨nx4, 0, none⟩)), (16, .int .i64 ((W .i64 (W .u32 (a2.f0))).tmod ((([] : List Int) ++ t4.2.f0).length : Int))), (5, .pointer (some ⟨nx0, 0, none⟩)), (7, .bool t1), (8, .slice A1 t2.length c1), (9, .slice A2 t3.length c2), (11, .pointer (some ⟨nx4, 0, none⟩)), (12, .int .i64 t5.1), (14, .int .i64 t6.1)]) (X' := [orow 3 1 A2 t3.length c2 cs2, orow 2 1 A9 ((([] : List Int) ++ t4.2.f0).length) c9 cs8]) (by kernel_rfl) rfl rfl rfl ?_
     by_cases hib0 : 0 ≤ ((W .i64 (W .u32 (a2.f0))).tmod ((([] : List Int) ++ t4.2.f0).length : Int))
     case neg => rw [if_neg hib0] at H; cases H
     rw [if_pos hib0] at H
     by_cases hib1 : ((W .i64 (W .u32 (a2.f0))).tmod ((([] : List Int) ++ t4.2.f0).length : Int)) < ((([] : List Int) ++ t4.2.f0).length : Int)
     case neg => rw [if_neg hib1] at H; cases H
     rw [if_pos hib1] at H
     have hx04_ := hib0; have hx14_ := hib1
     refine RL.ownAddr (e := 2) (sz := 1) (S := A9) (n := (([] : List Int) ++ t4.2.f0).length) (cap := c9) (cs := cs8) 1 (by kernel_rfl) (by omega) (fun g4_ hA4_ => ?_)
     have hc4_ := Ty.int_own (Reps.ext hi14 hp10) ((W .i64 (W .u32 (a2.f0))).tmod ((([] : List Int) ++ t4.2.f0).length : Int)) hib0 hib1
     refine RL.idx 1 .i64 ((W .i64 (W .u32 (a2.f0))).tmod ((([] : List Int) ++ t4.2.f0).length : Int)) hA4_ ((([] : List Int) ++ t4.2.f0).length) c9 (some 77) (by kernel_rfl) (by kernel_rfl) (T := 24) (e := 2) (by kernel_rfl) (by kernel_rfl) hib0 hib1 (K' := [(77, .pointer (some ⟨g4_, 0 + ((W .i64 (W .u32 (a2.f0))).tmod ((([] : List Int) ++ t4.2.f0).length : Int)).toNat * 1, none⟩)), (76, .int .i64 (W .i64 (((([] : List Int) ++ t4.2.f0).getD ((W .i64 (W .u32 (a2.f0))).tmod ((([] : List Int) ++ t4.2.f0).length : Int)).toNat 0) + (W .i64 (a2.f1))))), (75, .int .i64 (W .i64 (a2.f1))), (74, .int .i32 a2.f1), (73, .pointer (some ⟨nx0, 1, none⟩)), (72, .int .i64 ((([] : List Int) ++ t4.2.f0).getD ((W .i64 (W .u32 (a2.f0))).tmod ((([] : List Int) ++ t4.2.f0).length : Int)).toNat 0)), (71, .pointer (some ⟨g3_, 0 + ((W .i64 (W .u32 (a2.f0))).tmod ((([] : List Int) ++ t4.2.f0).length : Int)).toNat * 1, none⟩)), (70, .int .i64 ((W .i64 (W .u32 (a2.f0))).tmod ((([] : List Int) ++ t4.2.f0).length : Int))), (69, .slice A9 ((([] : List Int) ++ t4.2.f0).length) c9), (68, .pointer (some ⟨nx4, 0, none⟩)), (67, .int .i64 ((W .i64 (W .u32 (a2.f0))).tmod ((([] : List Int) ++ t4.2.f0).length : Int))), (66, .slice A9 ((([] : List Int) ++ t4.2.f0).length) c9), (65, .pointer (some ⟨nx4, 0, none⟩)), (16, .int .i64 ((W .i64 (W .u32 (a2.f0))).tmod ((([] : List Int) ++ t4.2.f0).length : Int))), (5, .pointer (some ⟨nx0, 0, none⟩)), (7, .bool t1), (8, .slice A1 t2.length c1), (9, .slice A2 t3.length c2), (11, .pointer (some ⟨nx4, 0, none⟩)), (12, .int .i64 t5.1), (14, .int .i64 t6.1)]) (by kernel_rfl) ?_
     refine RL.storeL (T := 2) (e := 2) 1 1 hA4_ c9 ((W .i64 (W .u32 (a2.f0))).tmod ((([] : List Int) ++ t4.2.f0).length : Int)) cs8 [.int .i64 (W .i64 (((([] : List Int) ++ t4.2.f0).getD ((W .i64 (W .u32 (a2.f0))).tmod ((([] : List Int) ++ t4.2.f0).length : Int)).toNat 0) + (W .i64 (a2.f1))))] (.int .i64 (W .i64 (((([] : List Int) ++ t4.2.f0).getD ((W .i64 (W .u32 (a2.f0))).tmod ((([] : List Int) ++ t4.2.f0).length : Int)).toNat 0) + (W .i64 (a2.f1))))) (Ty.int .i64) (([] : List Int) ++ t4.2.f0) (W .i64 (((([] : List Int) ++ t4.2.f0).getD ((W .i64 (W .u32 (a2.f0))).tmod ((([] : List Int) ++ t4.2.f0).length : Int)).toNat 0) + (W .i64 (a2.f1)))) (by kernel_rfl) (by kernel_rfl) (by kernel_rfl) (by kernel_rfl) (by kernel_rfl) rfl (by kernel_rfl) (Reps.ext hi14 hp10) hx04_ hx14_ (fun cs9 hp11 => ?_)
     refine RL.sub (K' := [(76, .int .i64 (W .i64 (((([] : List Int) ++ t4.2.f0).getD ((W .i64 (W .u32 (a2.f0))).tmod ((([] : List Int) ++ t4.2.f0).length : Int)).toNat 0) + (W .i64 (a2.f1))))), (75, .int .i64 (W .i64 (a2.f1))), (74, .int .i32 a2.f1), (73, .pointer (some ⟨nx0, 1, none⟩)), (72, .int .i64 ((([] : List Int) ++ t4.2.f0).getD ((W .i64 (W .u32 (a2.f0))).tmod ((([] : List Int) ++ t4.2.f0).length : Int)).toNat 0)), (70, .int .i64 ((W .i64 (W .u32 (a2.f0))).tmod ((([] : List Int) ++ t4.2.f0).length : Int))), (69, .slice A9 ((([] : List Int) ++ t4.2.f0).length) c9), (68, .pointer (some ⟨nx4, 0, none⟩)), (67, .int .i64 ((W .i64 (W .u32 (a2.f0))).tmod ((([] : List Int) ++ t4.2.f0).length : Int))), (66, .slice A9 ((([] : List Int) ++ t4.2.f0).length) c9), (65, .pointer (some ⟨nx4, 0, none⟩)), (16, .int .i64 ((W .i64 (W .u32 (a2.f0))).tmod ((([] : List Int) ++ t4.2.f0).length : Int))), (5, .pointer (some ⟨nx0, 0, none⟩)), (7, .bool t1), (8, .slice A1 t2.length c1), (9, .slice A2 t3.length c2), (11, .pointer (some ⟨nx4, 0, none⟩)), (12, .int .i64 t5.1), (14, .int .i64 t6.1)]) (L' := [⟨nx0, [.int .i32 a2.f0, .int .i32 a2.f1], 39⟩, ⟨nx4, [.slice A9 ((([] : List Int) ++ t4.2.f0).length) c9, .slice A5 t4.2.f1.length c5], 26⟩]) (X' := [orow 3 1 A2 t3.length c2 cs2, orow 2 1 A9 (((([] : List Int) ++ t4.2.f0).set ((W .i64 (W .u32 (a2.f0))).tmod ((([] : List Int) ++ t4.2.f0).length : Int)).toNat (W .i64 (((([] : List Int) ++ t4.2.f0).getD ((W .i64 (W .u32 (a2.f0))).tmod ((([] : List Int) ++ t4.2.f0).length : Int)).toNat 0) + (W .i64 (a2.f1))))).length) c9 cs9]) (by kernel_rfl) (.refl _) (.refl _) ?_
     refine RL.norm (K' := [(76, .int .i64 (W .i64 (((([] : List Int) ++ t4.2.f0).getD ((W .i64 (W .u32 (a2.f0))).tmod ((([] : List Int) ++ t4.2.f0).length : Int)).toNat 0) + (W .i64 (a2.f1))))), (75, .int .i64 (W .i64 (a2.f1))), (74, .int .i32 a2.f1), (73, .pointer (some ⟨nx0, 1, none⟩)), (72, .int .i64 ((([] : List Int) ++ t4.2.f0).getD ((W .i64 (W .u32 (a2.f0))).tmod ((([] : List Int) ++ t4.2.f0).length : Int)).toNat 0)), (70, .int .i64 ((W .i64 (W .u32 (a2.f0))).tmod ((([] : List Int) ++ t4.2.f0).length : Int))), (69, .slice A9 (((([] : List Int) ++ t4.2.f0).set ((W .i64 (W .u32 (a2.f0))).tmod ((([] : List Int) ++ t4.2.f0).length : Int)).toNat (W .i64 (((([] : List Int) ++ t4.2.f0).getD ((W .i64 (W .u32 (a2.f0))).tmod ((([] : List Int) ++ t4.2.f0).length : Int)).toNat 0) + (W .i64 (a2.f1))))).length) c9), (68, .pointer (some ⟨nx4, 0, none⟩)), (67, .int .i64 ((W .i64 (W .u32 (a2.f0))).tmod ((([] : List Int) ++ t4.2.f0).length : Int))), (66, .slice A9 (((([] : List Int) ++ t4.2.f0).set ((W .i64 (W .u32 (a2.f0))).tmod ((([] : List Int) ++ t4.2.f0).length : Int)).toNat (W .i64 (((([] : List Int) ++ t4.2.f0).getD ((W .i64 (W .u32 (a2.f0))).tmod ((([] : List Int) ++ t4.2.f0).length : Int)).toNat 0) + (W .i64 (a2.f1))))).length) c9), (65, .pointer (some ⟨nx4, 0, none⟩)), (16, .int .i64 ((W .i64 (W .u32 (a2.f0))).tmod ((([] : List Int) ++ t4.2.f0).length : Int))), (5, .pointer (some ⟨nx0, 0, none⟩)), (7, .bool t1), (8, .slice A1 t2.length c1), (9, .slice A2 t3.length c2), (11, .pointer (some ⟨nx4, 0, none⟩)), (12, .int .i64 t5.1), (14, .int .i64 t6.1)]) (L' := [⟨nx0, [.int .i32 a2.f0, .int .i32 a2.f1], 39⟩, ⟨nx4, [.slice A9 (((([] : List Int) ++ t4.2.f0).set ((W .i64 (W .u32 (a2.f0))).tmod ((([] : List Int) ++ t4.2.f0).length : Int)).toNat (W .i64 (((([] : List Int) ++ t4.2.f0).getD ((W .i64 (W .u32 (a2.f0))).tmod ((([] : List Int) ++ t4.2.f0).length : Int)).toNat 0) + (W .i64 (a2.f1))))).length) c9, .slice A5 t4.2.f1.length c5], 26⟩]) (by simp only [List.length_set]) rfl (by first | rfl | simp only [List.length_set]) rfl ?_
     refine RL.nil (by kernel_rfl) ?_
     refine QN.sub (K' := [(5, .pointer (some ⟨nx0, 0, none⟩)), (7, .bool t1), (8, .slice A1 t2.length c1), (9, .slice A2 t3.length c2), (11, .pointer (some ⟨nx4, 0, none⟩)), (12, .int .i64 t5.1), (14, .int .i64 t6.1)]) (L' := [⟨nx0, [.int .i32 a2.f0, .int .i32 a2.f1], 39⟩, ⟨nx4, [.slice A9 (((([] : List Int) ++ t4.2.f0).set ((W .i64 (W .u32 (a2.f0))).tmod ((([] : List Int) ++ t4.2.f0).length : Int)).toNat (W .i64 (((([] : List Int) ++ t4.2.f0).getD ((W .i64 (W .u32 (a2.f0))).tmod ((([] : List Int) ++ t4.2.f0).length : Int)).toNat 0) + (W .i64 (a2.f1))))).length) c9, .slice A5 t4.2.f1.length c5], 26⟩]) (by kernel_rfl) (.cons_cons _ (.cons_cons _ .slnil)) (.refl _) ?_
     refine QN.freeze (e := 2) (sz := 1) (S := A9) (n := ((([] : List Int) ++ t4.2.f0).set ((W .i64 (W .u32 (a2.f0))).tmod ((([] : List Int) ++ t4.2.f0).length : Int)).toNat (W .i64 (((([] : List Int) ++ t4.2.f0).getD ((W .i64 (W .u32 (a2.f0))).tmod ((([] : List Int) ++ t4.2.f0).length : Int)).toNat 0) + (W .i64 (a2.f1))))).length) (cap := c9) 1 (by kernel_rfl) hp11 rfl (fun I15 hi15 hl7 hr7 => ?_)
     skip
     obtain rfl := Option.some.inj H
     refine QN.sub (K' := [(5, .pointer (some ⟨nx0, 0, none⟩)), (7, .bool t1), (8, .slice A1 t2.length c1), (9, .slice A2 t3.length c2), (11, .pointer (some ⟨nx4, 0, none⟩)), (12, .int .i64 t5.1), (14, .int .i64 t6.1)]) (L' := [⟨nx0, [.int .i32 a2.f0, .int .i32 a2.f1], 39⟩, ⟨nx4, [.slice A9 (((([] : List Int) ++ t4.2.f0).set ((W .i64 (W .u32 (a2.f0))).tmod ((([] : List Int) ++ t4.2.f0).length : Int)).toNat (W .i64 (((([] : List Int) ++ t4.2.f0).getD ((W .i64 (W .u32 (a2.f0))).tmod ((([] : List Int) ++ t4.2.f0).length : Int)).toNat 0) + (W .i64 (a2.f1))))).length) c9, .slice A5 t4.2.f1.length c5], 26⟩]) (by kernel_rfl) (.cons_cons _ (.cons_cons _ .slnil)) (.refl _) ?_
     exact hJ2 _ _ _ _ _ ⟨(([] : List Int) ++ t4.2.f0).set ((W .i64 (W .u32 (a2.f0))).tmod ((([] : List Int) ++ t4.2.f0).length : Int)).toNat (W .i64 (((([] : List Int) ++ t4.2.f0).getD ((W .i64 (W .u32 (a2.f0))).tmod ((([] : List Int) ++ t4.2.f0).length : Int)).toNat 0) + (W .i64 (a2.f1)))), A9, c9, rfl, rfl, rfl, (Imm.le_trans hi14 hi15), hl7, hr7, HK2⟩
    ·skip
     have hc := (of_decide_eq_false hb)
     rw [if_neg hc] at H
     clear hb
     refine OK.skip (by kernel_rfl) ?_
     obtain rfl := Option.some.inj H
     refine QN.sub (K' := [(5, .pointer (some ⟨nx0, 0, none⟩)), (7, .bool t1), (8, .slice A1 t2.length c1), (9, .slice A2 t3.length c2), (11, .pointer (some ⟨nx4, 0, none⟩)), (12, .int .i64 t5.1), (14, .int .i64 t6.1)]) (L' := [⟨nx0, [.int .i32 a2.f0, .int .i32 a2.f1], 39⟩, ⟨nx4, [.slice A4 t4.2.f0.length c4, .slice A5 t4.2.f1.length c5], 26⟩]) (by kernel_rfl) (.cons_cons _ (.cons_cons _ .slnil)) (.refl _) ?_
     exact hJ2 _ _ _ _ _ ⟨t4.2.f0, A4, c4, rfl, rfl, rfl, (Imm.le_refl _), hl2, (Rd.ext (Imm.le_trans hi7 hi8) hr2), HK2⟩
 ·intro Q_4 hJ1 hQ1
  obtain ⟨y1, H, HK1⟩ := Option.bind_eq_some_iff.mp H
  refine OK.region 7 O5_23 (by kernel_rfl) ?_
  refine RL.simK (K' := [(43, .bool (!t6.2)), (14, .int .i64 t6.1), (12, .int .i64 t5.1), (11, .pointer (some ⟨nx4, 0, none⟩)), (9, .slice A2 t3.length c2), (8, .slice A1 t2.length c1), (7, .bool t1), (5, .pointer (some ⟨nx0, 0, none⟩))]) [] (RFacts.nil _ _ _) 3 [.no, .no, .no] (by kernel_rfl) (by kernel_rfl) ?_
  refine RL.cases t6.2 (fun hb => ?_) (fun hb => ?_)
  ·have hc := hb
   rw [hb]
   rw [if_pos hc] at H; clear hb
   refine RL.simK (K' := [(47, .bool (decide (t6.1 > t5.1))), (14, .int .i64 t6.1), (12, .int .i64 t5.1), (11, .pointer (some ⟨nx4, 0, none⟩)), (9, .slice A2 t3.length c2), (8, .slice A1 t2.length c1), (7, .bool t1), (5, .pointer (some ⟨nx0, 0, none⟩))]) [] (RFacts.nil _ _ _) 4 [.no, .no, .no, .no] (by kernel_rfl) (by kernel_rfl) ?_
   refine RL.nil (by kernel_rfl) ?_
   obtain rfl := Option.some.inj H
   refine QN.sel (K' := [(5, .pointer (some ⟨nx0, 0, none⟩)), (7, .bool t1), (8, .slice A1 t2.length c1), (9, .slice A2 t3.length c2), (11, .pointer (some ⟨nx4, 0, none⟩)), (12, .int .i64 t5.1), (14, .int .i64 t6.1), (47, .bool (decide (t6.1 > t5.1)))]) (L' := [⟨nx0, [.int .i32 a2.f0, .int .i32 a2.f1], 39⟩, ⟨nx4, [.slice A4 t4.2.f0.length c4, .slice A5 t4.2.f1.length c5], 26⟩]) [0] (by kernel_rfl) (by kernel_rfl) (.cons_cons _ (.cons_cons _ .slnil)) ?_
   refine QN.norm (X' := [orow 3 1 A2 t3.length c2 cs2]) rfl rfl rfl (by kernel_rfl) ?_
   exact hJ1 _ _ _ _ _ ⟨(decide (t6.1 > t5.1)), rfl, rfl, rfl, (Imm.le_refl _), HK1⟩
  ·have hc := (Bool.eq_false_iff.1 hb)
   rw [hb]
   rw [if_neg hc] at H; clear hb
   refine RL.simK (K' := [(47, .bool true), (14, .int .i64 t6.1), (12, .int .i64 t5.1), (11, .pointer (some ⟨nx4, 0, none⟩)), (9, .slice A2 t3.length c2), (8, .slice A1 t2.length c1), (7, .bool t1), (5, .pointer (some ⟨nx0, 0, none⟩))]) [] (RFacts.nil _ _ _) 4 [.no, .no, .no, .no] (by kernel_rfl) (by kernel_rfl) ?_
   refine RL.nil (by kernel_rfl) ?_
   obtain rfl := Option.some.inj H
   refine QN.sel (K' := [(5, .pointer (some ⟨nx0, 0, none⟩)), (7, .bool t1), (8, .slice A1 t2.length c1), (9, .slice A2 t3.length c2), (11, .pointer (some ⟨nx4, 0, none⟩)), (12, .int .i64 t5.1), (14, .int .i64 t6.1), (47, .bool true)]) (L' := [⟨nx0, [.int .i32 a2.f0, .int .i32 a2.f1], 39⟩, ⟨nx4, [.slice A4 t4.2.f0.length c4, .slice A5 t4.2.f1.length c5], 26⟩]) [0] (by kernel_rfl) (by kernel_rfl) (.cons_cons _ (.cons_cons _ .slnil)) ?_
   refine QN.norm (X' := [orow 3 1 A2 t3.length c2 cs2]) rfl rfl rfl (by kernel_rfl) ?_
   exact hJ1 _ _ _ _ _ ⟨true, rfl, rfl, rfl, (Imm.le_refl _), HK1⟩

end Go.Proofs.Ytdmhbcgmimfjcaa
namespace Go.Proofs.Ytdmhbcgmimfjcaa.RW
open Go Go.RowKit

/-- The whole memory, as cells that never turn. -/
def wImm (W : World) : Imm := look W
theorem wImm_at (W : World) : (wImm W).at_ W := fun _ _ h => h
/-- What reads as a datum of type t is told by d, with p. -/
def Opens (P : Program) {α : Type} (d : Ty α) (t : TypeId) (p : α → Prop) : Prop :=
 ∀ {H : Type} {enc : TypeId × Value → H} (W : World) (base : Nat) (sp : Nat → Bool) (held : Bool) (fuel : Nat) (cs : List Value) (x : DataW H × List MemPlace), DataW.trod enc P W base sp held fuel t cs = some x → ∃ a, d.K (wImm W) a cs ∧ p a

section
variable {P : Program} {α β : Type} {d : Ty α} {t e : TypeId} {p : α → Prop}
theorem opens_int {k : IntKind} (ht : P.underlying t = some (.int k)) : Opens P (Ty.int k) t (fun n => (Lit.int k n).wf = true) := by
 intro H enc W base sp held fuel cs x h
 obtain ⟨n, rfl, _, hw⟩ := DataW.trod_int ht h
 exact ⟨n, rfl, hw⟩
theorem opens_bool (ht : P.underlying t = some .bool) : Opens P Ty.bool t (fun _ => True) := by
 intro H enc W base sp held fuel cs x h
 obtain ⟨b, rfl, _⟩ := DataW.trod_bool ht h
 exact ⟨b, rfl, trivial⟩
theorem opens_string (ht : P.underlying t = some .string) : Opens P Ty.string t (fun s => s.size ≤ maxLen) := by
 intro H enc W base sp held fuel cs x h
 obtain ⟨s, rfl, _, hs⟩ := DataW.trod_string ht h
 exact ⟨s, rfl, hs⟩
theorem add_add {a : Addr} (h : a.spot = none) (n m : Nat) : (a.add n).add m = ⟨a.block, a.off + n + m, none⟩ := by
 obtain ⟨b, o, s⟩ := a
 obtain rfl : s = none := h
 unfold Addr.add
 split <;> split <;> simp_all
theorem opens_slice (ho : Opens P d e p) (ht : P.underlying t = some (.slice e)) (hsz : P.cellsOf e = d.sz) (hpos : 0 < d.sz) : Opens P (Ty.slice d) t (fun l => ∀ x ∈ l, p x) := by
 intro H enc W base sp held fuel cs x h
 rcases DataW.trod_slice ht h with ⟨rfl, _⟩ | ⟨a, len, cap, elems, rest, n, _, rfl, _, hb, hl, hm, hlen, hel, _, _⟩
 ·exact ⟨[], ⟨none, 0, rfl, Nat.le_refl _, Rd.nil _ _ _⟩, fun x hx => by cases hx⟩
 ·have hsp0 : 0 < len → a.spot = none := by
   intro hi
   have h1 := hel 0 hi
   rw [List.getElem?_eq_getElem (by rw [hlen]; exact hi), Option.bind_eq_some_iff] at h1
   obtain ⟨c, hc, hy⟩ := h1
   obtain ⟨_, hcl, hcell⟩ := World.cells?_some hc
   have h2 := hcell 0 (by rw [hsz]; exact hpos)
   have hlt : 0 < c.length := by rw [hcl, hsz]; exact hpos
   rw [List.getElem?_eq_getElem hlt, show (a.add (0 * P.cellsOf e)).add 0 = a from by simp [Addr.add]] at h2
   cases hsp : a.spot with
   | none => rfl
   | some s =>
    exfalso
    unfold World.cell? at h2
    split at h2
    ·rw [hsp] at h2; simp at h2
    ·cases h2
  have each : ∀ i, i < len → ∃ v c, d.K (wImm W) v c ∧ p v ∧ a.spot = none ∧ ∀ q u, c[q]? = some u → wImm W ⟨a.block, a.off + i * d.sz + q, none⟩ = some u := by
   intro i hi
   have h1 := hel i hi
   rw [List.getElem?_eq_getElem (by rw [hlen]; exact hi), Option.bind_eq_some_iff] at h1
   obtain ⟨c, hc, hy⟩ := h1
   obtain ⟨v, hk, hp⟩ := ho W base sp held n c _ hy
   obtain ⟨_, hcl, hcell⟩ := World.cells?_some hc
   have hspot := hsp0 (by omega)
   refine ⟨v, c, hk, hp, hspot, fun q u hu => ?_⟩
   have hql : q < c.length := (List.getElem?_eq_some_iff.1 hu).1
   have h2 := hcell q (by rw [← hcl]; exact hql)
   rw [add_add hspot, hsz, hu] at h2
   exact h2
  have build : ∀ n, n ≤ len → ∃ l : List α, l.length = n ∧ (∀ x ∈ l, p x) ∧ ∀ (j : Nat) (v : α), l[j]? = some v → ∃ c, d.K (wImm W) v c ∧ a.spot = none ∧ ∀ q u, c[q]? = some u → wImm W ⟨a.block, a.off + j * d.sz + q, none⟩ = some u := by
   intro n
   induction n with
   | zero => intro _; exact ⟨[], rfl, (fun x hx => by cases hx), fun j v hj => by cases hj⟩
   | succ n ih =>
    intro hn
    obtain ⟨l, hl1, hl2, hl3⟩ := ih (by omega)
    obtain ⟨v, c, hk, hp, hs, hc⟩ := each n (by omega)
    refine ⟨l ++ [v], by simp [hl1], fun x hx => ?_, fun j w hj => ?_⟩
    ·rcases List.mem_append.1 hx with hx | hx
     ·exact hl2 x hx
     ·rw [List.mem_singleton.1 hx]; exact hp
    ·rcases Nat.lt_or_ge j l.length with hlt | hge
     ·rw [List.getElem?_append_left hlt] at hj
      exact hl3 j w hj
     ·rw [List.getElem?_append_right hge] at hj
      have hj0 : j - l.length = 0 := by
       rcases Nat.eq_zero_or_pos (j - l.length) with h0 | h0
       ·exact h0
       ·rw [List.getElem?_eq_none (by simp; omega)] at hj; cases hj
      rw [hj0] at hj
      simp only [List.getElem?_cons_zero, Option.some.injEq] at hj
      subst hj
      obtain rfl : j = n := by omega
      exact ⟨c, hk, hs, hc⟩
  obtain ⟨l, hl1, hl2, hl3⟩ := build len (Nat.le_refl _)
  refine ⟨l, ⟨some a, cap, by rw [hl1], by omega, ⟨by unfold maxLen at hm; omega, fun hne => ?_⟩⟩, hl2⟩
  have h0 : 0 < l.length := List.length_pos_iff.2 hne
  obtain ⟨_, _, hs, _⟩ := hl3 0 _ (List.getElem?_eq_getElem h0)
  refine ⟨a.block, a.off, by obtain ⟨b, o, s⟩ := a; simp_all, fun j v hj => ?_⟩
  obtain ⟨c, hk, _, hc⟩ := hl3 j v hj
  exact ⟨c, hk, hc⟩

/-- The fields of a struct, from cell 'off' on. -/
def offs : Nat → List (TypeId × Nat) → List (TypeId × Nat × Nat)
 | _, [] => []
 | o, (t, n) :: r => (t, o, n) :: offs (o + n) r
def total : List (TypeId × Nat) → Nat
 | [] => 0
 | (_, n) :: r => n + total r
def OpensF (P : Program) {α : Type} (d : Ty α) (fl : List (TypeId × Nat)) (p : α → Prop) : Prop :=
 ∀ {H : Type} {enc : TypeId × Value → H} (W : World) (base : Nat) (sp : Nat → Bool) (held : Bool) (fuel off : Nat) (cs : List Value),
  (∀ q ∈ offs off fl, ∃ x, DataW.trod enc P W base sp held fuel q.1 ((cs.drop q.2.1).take q.2.2) = some x) → cs.length = off + total fl → ∃ a, d.K (wImm W) a (cs.drop off) ∧ p a
theorem opensF_one (ho : Opens P d t p) (n : Nat) : OpensF P d [(t, n)] p := by
 intro H enc W base sp held fuel off cs h hl
 obtain ⟨x, hx⟩ := h _ List.mem_cons_self
 simp only [total, Nat.add_zero] at hl
 have e : (cs.drop off).take n = cs.drop off := List.take_of_length_le (by rw [List.length_drop]; omega)
 simp only at hx
 rw [e] at hx
 exact ho W base sp held fuel _ x hx
theorem opensF_cons {d2 : Ty β} {fl : List (TypeId × Nat)} {q : β → Prop} (n : Nat) (ho : Opens P d t p) (hr : OpensF P d2 fl q) : OpensF P (Ty.pair d d2) ((t, n) :: fl) (fun x => p x.1 ∧ q x.2) := by
 intro H enc W base sp held fuel off cs h hl
 simp only [total] at hl
 obtain ⟨x, hx⟩ := h _ List.mem_cons_self
 obtain ⟨a, hk, hp⟩ := ho W base sp held fuel _ x hx
 obtain ⟨b, hk2, hp2⟩ := hr (enc := enc) W base sp held fuel (off + n) cs (fun q hq => h q (List.mem_cons_of_mem _ hq)) (by omega)
 refine ⟨(a, b), ⟨_, _, ?_, hk, hk2⟩, hp, hp2⟩
 simp only
 rw [← List.drop_drop, List.take_append_drop]
theorem opens_struct {fl : List (TypeId × Nat)} (ho : OpensF P d fl p) (ht : P.underlying t = some (.struct (P.fieldsOf t))) (hf : (P.fieldsOf t).toList.map (fun f => (f.type, f.offset, P.cellsOf f.type)) = offs 0 fl) (hc : P.cellsOf t = total fl)
  (f : β → α) (g : α → β) (hg : ∀ y, f (g y) = y) : Opens P (Ty.iso d f) t (fun x => p (f x)) := by
 intro H enc W base sp held fuel cs x h
 obtain ⟨xs, n, _, _, hcl, hxl, hx⟩ := DataW.trod_struct ht h
 have hseg : ∀ q ∈ offs 0 fl, ∃ x, DataW.trod enc P W base sp held n q.1 ((cs.drop q.2.1).take q.2.2) = some x := by
  intro q hq
  rw [← hf] at hq
  obtain ⟨f, hfm, rfl⟩ := List.mem_map.1 hq
  obtain ⟨i, hi, hif⟩ := List.getElem_of_mem hfm
  have h1 := hx i f (by rw [← Array.getElem?_toList, List.getElem?_eq_getElem hi, hif])
  have h2 : i < xs.length := by rw [hxl]; simpa using hi
  rw [List.getElem?_eq_getElem h2] at h1
  exact ⟨_, h1⟩
 obtain ⟨a, hk, hp⟩ := ho W base sp held n 0 cs hseg (by rw [hcl, hc, Nat.zero_add])
 refine ⟨g a, ?_, by show p (f (g a)); rw [hg]; exact hp⟩
 show d.K (wImm W) (f (g a)) cs
 rw [hg]
 exact hk
theorem opens_array {n : Nat} {fl : List (TypeId × Nat)} (ho : OpensF P d fl p) (ht : P.underlying t = some (.array n e)) (hf : (List.range n).map (fun i => (e, i * P.cellsOf e, P.cellsOf e)) = offs 0 fl) (hc : P.cellsOf t = total fl)
  (f : β → α) (g : α → β) (hg : ∀ y, f (g y) = y) : Opens P (Ty.iso d f) t (fun x => p (f x)) := by
 intro H enc W base sp held fuel cs x h
 obtain ⟨xs, m, _, _, hcl, hxl, hx⟩ := DataW.trod_array ht h
 have hseg : ∀ q ∈ offs 0 fl, ∃ x, DataW.trod enc P W base sp held m q.1 ((cs.drop q.2.1).take q.2.2) = some x := by
  intro q hq
  rw [← hf] at hq
  obtain ⟨i, hi, rfl⟩ := List.mem_map.1 hq
  have hi' := List.mem_range.1 hi
  have h1 := hx i hi'
  rw [List.getElem?_eq_getElem (show i < xs.length by omega)] at h1
  exact ⟨_, h1⟩
 obtain ⟨a, hk, hp⟩ := ho W base sp held m 0 cs hseg (by rw [hcl, hc, Nat.zero_add])
 refine ⟨g a, ?_, by show p (f (g a)); rw [hg]; exact hp⟩
 show d.K (wImm W) (f (g a)) cs
 rw [hg]
 exact hk
end
end Go.Proofs.Ytdmhbcgmimfjcaa.RW
namespace Go.Proofs.Ytdmhbcgmimfjcaa
open Go Go.Proofs.Ytdmhbcgmimfjcaa.RW
set_option linter.unusedVariables false
set_option maxRecDepth 100000
set_option maxHeartbeats 8000000

-- p58: no reading of the kind array
def p26 (x : S26) : Prop := (fun l => ∀ x ∈ l, (fun n => (Lit.int .i64 n).wf = true) x) x.f0 ∧ (fun l => ∀ x ∈ l, (fun n => (Lit.int .i64 n).wf = true) x) x.f1
theorem o26 : Opens Try.prog t26 26 p26 :=
 opens_struct (fl := [(24, 1), (24, 1)]) (opensF_cons 1 (opens_slice (e := 2) (opens_int (by kernel_rfl)) (by kernel_rfl) (by kernel_rfl) (Nat.le_of_ble_eq_true (by kernel_rfl))) (opensF_one (opens_slice (e := 2) (opens_int (by kernel_rfl)) (by kernel_rfl) (by kernel_rfl) (Nat.le_of_ble_eq_true (by kernel_rfl))) 1)) (by kernel_rfl) (by kernel_rfl) (by kernel_rfl) (fun (x : S26) => (x.f0, x.f1)) (fun y => ⟨y.1, y.2⟩) (fun _ => rfl)
def p39 (x : S39) : Prop := (fun n => (Lit.int .i32 n).wf = true) x.f0 ∧ (fun n => (Lit.int .i32 n).wf = true) x.f1
theorem o39 : Opens Try.prog t39 39 p39 :=
 opens_array (n := 2) (e := 21) (fl := [(21, 1), (21, 1)]) (opensF_cons 1 (opens_int (by kernel_rfl)) (opensF_one (opens_int (by kernel_rfl)) 1)) (by kernel_rfl) (by kernel_rfl) (by kernel_rfl) (fun (x : S39) => (x.f0, x.f1)) (fun y => ⟨y.1, y.2⟩) (fun _ => rfl)

end Go.Proofs.Ytdmhbcgmimfjcaa
namespace Go.Proofs.Ytdmhbcgmimfjcaa
open Go Go.Proofs.Ytdmhbcgmimfjcaa.RW hun
set_option linter.unusedVariables false
set_option maxRecDepth 100000
set_option maxHeartbeats 4000000
namespace wdual
theorem idx (x : Int) {n : Nat} (h : 0 < n) : 0 ≤ (W .i64 (W .u32 x)).tmod (n : Int) ∧ (W .i64 (W .u32 x)).tmod (n : Int) < (n : Int) := by
  have h1 := Wu32 x
  rw [W64 (by omega) (by omega)]
  exact ⟨Int.tmod_nonneg _ h1.1, Int.tmod_lt_of_pos _ (by omega)⟩
/-- an accepted assignment is best -/
theorem best {w : List (List Int)} {m : Nat} {l : List Int} {d : S26} {V : Int} (h : VD w m l d) (hV : Opt w m 0 (fun _ => false) V) : val w (g l) = V := by
  obtain ⟨a, h1, h2⟩ := hV.2
  have h3 := weak h1 h.up h.vp (fun i j _ hi hj _ => h.feas i j hi hj)
  have h4 := hV.1 _ (isa_of h.va)
  have h5 := h.sum
  omega
end wdual
theorem armillarylaw22_AssignWeakDuality_holds (a0 : List (List Int)) (a1 : List Int) (a2 : S39) (hp0 : ∀ x ∈ a0, (fun l => ∀ y ∈ l, (fun n => (Lit.int .i64 n).wf = true) y) x) (hl : a0.length ≤ 9223372036854775807) (hp1 : ∀ x ∈ a1, (fun n => (Lit.int .u8 n).wf = true) x) (hl1 : a1.length ≤ 9223372036854775807) (hp2 : (fun s => (Lit.int .i32 s.f0).wf = true ∧ (Lit.int .i32 s.f1).wf = true) a2) : ∃ k, armillarylaw22_AssignWeakDuality.f k a0 a1 a2 = some true := by
  refine ⟨a0.length + 2000, ?_⟩
  obtain ⟨w, m, e1, h, _, _⟩ := made a0 12 12 (by omega) (by omega) hl (k := a0.length + 2000) (by omega)
  obtain ⟨l, d, V, e2, s⟩ := solve h (k := a0.length + 2000) (by omega)
  obtain ⟨o, e5, ho⟩ := assigned h a1 (k := a0.length + 2000) (by omega)
  have e3 := value_ok h (s.vd h).va (k := a0.length + 2000) (by omega)
  have e6 := value_ok h ho (k := a0.length + 2000) (by omega)
  have hn := h.nr
  have hm := h.mr
  have hle := s.opt.1 _ (isa_of ho)
  have hfin : ∀ d' : S26, ∃ b, assign_VerifyDuals.f (a0.length + 2000) w o d' = some b ∧ (b = true → val w (g o) = val w (g l)) := fun d' => by
    have hv := verify h o d' (k := a0.length + 2000) (by omega)
    by_cases hd : VD w m o d'
    · exact ⟨true, hv.1 hd, fun _ => by rw [wdual.best hd s.opt, s.val]⟩
    · exact ⟨false, hv.2 hd, fun hb => by cases hb⟩
  have h2 : ∀ (x2 x3 : List Int), armillarylaw22_AssignWeakDuality.k2 (a0.length + 2000) true w o (val w (g l), true) (val w (g o), true) x2 x3 = some true := fun x2 x3 => by
    obtain ⟨b, hb, hb2⟩ := hfin ⟨x2, x3⟩
    unfold armillarylaw22_AssignWeakDuality.k2
    rw [hb, Option.bind_some]
    cases b with
    | false => rfl
    | true =>
      rw [if_pos rfl, hb2 rfl]
      simp [armillarylaw22_AssignWeakDuality.k1]
  have hnil : ∀ z : List Int, ([] : List Int) ++ z = z := fun _ => rfl
  have h3 : ∀ (x2 : List Int), armillarylaw22_AssignWeakDuality.k3 (a0.length + 2000) a2 true w o (l, d) (val w (g l), true) (val w (g o), true) x2 = some true := fun x2 => by
    unfold armillarylaw22_AssignWeakDuality.k3
    simp only [hnil, List.length_nil]
    by_cases e : (d.f1.length : Int) > 0
    · have hi := wdual.idx a2.f0 (n := d.f1.length) (by omega)
      have hvl := s.vl
      simp only [if_pos e, if_pos hi.1, if_pos hi.2]
      rw [if_pos (by omega), if_neg (by omega), Option.bind_some]
      exact h2 _ _
    · rw [if_neg e, Option.bind_some]
      exact h2 _ _
  unfold armillarylaw22_AssignWeakDuality.f
  rw [show armillarylaw22_sanity.f (a0.length + 2000) = some true from sane (a0.length + 1940), Option.bind_some]
  rw [show armillaryref22_Made.f (a0.length + 2000) a0 12 12 = some w from e1, Option.bind_some, e5, Option.bind_some, e2, Option.bind_some, e3, Option.bind_some, e6, Option.bind_some, if_pos rfl, Option.bind_some]
  rw [decide_eq_false (by rw [s.val]; show ¬ val w (g o) > V; omega)]
  unfold armillarylaw22_AssignWeakDuality.k4
  rw [if_neg (by decide)]
  simp only [hnil, List.length_nil]
  by_cases e : (d.f0.length : Int) > 0
  · have hi := wdual.idx a2.f0 (n := d.f0.length) (by omega)
    have hul := s.ul
    simp only [if_pos e, if_pos hi.1, if_pos hi.2]
    rw [if_pos (by omega), if_neg (by omega), Option.bind_some]
    exact h3 _
  · rw [if_neg e, Option.bind_some]
    exact h3 _
end Go.Proofs.Ytdmhbcgmimfjcaa
