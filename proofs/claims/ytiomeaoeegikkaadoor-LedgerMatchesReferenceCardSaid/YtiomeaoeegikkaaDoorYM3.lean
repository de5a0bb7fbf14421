/- What a function of the program computes, and the walk that shows it; made by a program of the session's out of the translation; no conditions beyond those that the theorems name. -/
import Derived.Test.YtiomeaoeegikkaaDoorY3
import Derived.Test.YtiomeaoeegikkaaDoorY5
import Derived.Test.YtiomeaoeegikkaaDoorY6
import Derived.Test.YtiomeaoeegikkaaDoorY4
import Derived.Test.YtiomeaoeegikkaaDoorY7
import Derived.Test.YtiomeaoeegikkaaDoorRows
import Derived.Test.YtiomeaoeegikkaaDoorCards
import Derived.Test.YtiomeaoeegikkaaDoorTie
import Derived.SevenTiedAt
import Derived.WalkKit
import Derived.ProofKit
import Derived.OpenShut
import Derived.ShutString
import Derived.ChangeOld
import Derived.Below
import Derived.Carry
import Derived.WideShapes
namespace Go.Proofs.YtiomeaoeegikkaaDoor
open Go Go.Proofs.YtiomeaoeegikkaaDoor.RW
set_option linter.unusedVariables false
set_option maxRecDepth 100000
set_option maxHeartbeats 8000000

/-! ### armillarylaw28_LedgerMatchesReference: function 3, armillary/armillarylaw28.LedgerMatchesReference -/
noncomputable def K3_0 : Code := cBody Tryd.f3
noncomputable def O3_39 : List Oper := cOps (cL (cL (cL (cR (cL (cL (cR (cL (cR (cR (cR (cR (cR (cR K3_0))))))))))))))
noncomputable def O3_42 : List Oper := cOps (cL (cR (cL (cL (cR (cL (cL (cR (cL (cR (cR (cR (cR (cR (cR K3_0)))))))))))))))
noncomputable def O3_51 : List Oper := cOps (cL (cR (cR (cR (cR (cL (cL (cR (cL (cL (cR (cL (cR (cR (cR (cR (cR (cR K3_0))))))))))))))))))
def armillarylaw28_LedgerMatchesReference.k1  (x2 : Bool) : Option (Bool) := (some x2)
def armillarylaw28_LedgerMatchesReference.k2 (k : Nat) (t1 : Bool) (t2 : List S25) : (Unit) ⊕ (Bool) → Option (Bool)
 | .inl () => (((ledger_ChainHash.f k t2).bind fun t5 => ((armillaryref28_ChainHash.f k t2).bind fun t6 => (if t5 = t6 then (some t1) else (some false)))).bind (armillarylaw28_LedgerMatchesReference.k1))
 | .inr r_ => some r_
def armillarylaw28_LedgerMatchesReference.l1 (a2 : S25) (x1 : List Int) : Nat → (List (List Int)) → Int → Option ((Unit) ⊕ (Bool))
 | 0, _, _ => none
 | k + 1, x3, x4 => (if x4 < (x3.length : Int) then (if 0 ≤ x4 then (if x4 < (x3.length : Int) then ((ledger_Append.f k (x3.getD (x4).toNat []) (⟨a2.f0, a2.f1, x1⟩ : S25)).bind fun t7 => (if 0 ≤ x4 then (if x4 < (x3.length : Int) then ((armillaryref28_Append.f k (x3.getD (x4).toNat []) (⟨a2.f0, a2.f1, x1⟩ : S25)).bind fun t8 => (if 0 ≤ x4 then (if x4 < (x3.length : Int) then ((ledger_Scan.f k (x3.getD (x4).toNat [])).bind fun t9 => (if 0 ≤ x4 then (if x4 < (x3.length : Int) then ((armillaryref28_Scan.f k (x3.getD (x4).toNat [])).bind fun t10 => (((armillaryref28_SameBytes.f k t7.1 t8.1).bind fun t11 => (if t11 = true then (if t7.2 ≠ t8.2 then (some true) else ((armillaryref28_Same.f k t9.1 t10.1).bind fun t12 => (if t12 = true then (if t9.2.1 ≠ t10.2.1 then (some true) else (if t9.2.2 ≠ t10.2.2 then (some true) else (if 0 ≤ x4 then (if x4 < (x3.length : Int) then ((ledger_Repair.f k (x3.getD (x4).toNat [])).bind fun t13 => (if 0 ≤ x4 then (if x4 < (x3.length : Int) then ((armillaryref28_Repair.f k (x3.getD (x4).toNat [])).bind fun t14 => ((armillaryref28_SameBytes.f k t13 t14).bind fun t15 => (some (!t15)))) else none) else none)) else none) else none))) else (some true)))) else (some true))).bind (fun x5 => (if x5 = true then (some (Sum.inr false)) else (armillarylaw28_LedgerMatchesReference.l1 a2 x1 k x3 (W .i64 (x4 + 1))))))) else none) else none)) else none) else none)) else none) else none)) else none) else none) else (some (Sum.inl ())))
def armillarylaw28_LedgerMatchesReference.k4 (k : Nat) (a0 : List Int) (a1 : List S25) (a2 : S25) (t1 : Bool) (x1 : List Int) : Option (Bool) := ((armillaryref28_Made.f k a1 6).bind fun t2 => ((armillaryref28_Log.f k t2).bind fun t3 => ((armillaryref28_Log.f k t2).bind fun t4 => (if (t4.length + (rpart a0 0 (iMin (a0.length : Int) 400)).length) * 1 ≤ 140737488355328 then ((armillarylaw28_LedgerMatchesReference.l1 a2 x1 k [rpart a0 0 (iMin (a0.length : Int) 400), t3, (t4 ++ (rpart a0 0 (iMin (a0.length : Int) 400)))] 0).bind (armillarylaw28_LedgerMatchesReference.k2 k t1 t2)) else none))))
def armillarylaw28_LedgerMatchesReference.f (k : Nat) (a0 : List Int) (a1 : List S25) (a2 : S25) : Option (Bool) := ((armillarylaw28_sanity.f k ).bind fun t1 => (if (0 : Int) ≤ (iMin (a0.length : Int) 400) then (if (iMin (a0.length : Int) 400) ≤ (a0.length : Int) then ((if (a2.f2.length : Int) > 200 then (if (0 : Int) ≤ (200 : Int) then (if (200 : Int) ≤ (a2.f2.length : Int) then (some (rpart a2.f2 0 (200 : Int))) else none) else none) else (some a2.f2)).bind (armillarylaw28_LedgerMatchesReference.k4 k a0 a1 a2 t1)) else none) else none))
def armillarylaw28_LedgerMatchesReference.Post (I : Imm) (w : World) (r : Bool) (v : Value) (w' : World) : Prop :=
 ∃ (J : Imm), v = .bool r ∧ Got w w' I J []
noncomputable def a3_39n : List Nat := [0, 0, 3, 7, 0, 31, 63, 127, 127, 255, 1023]
theorem a3_39 : ancs O3_39 [] = a3_39n := by kernel_rfl
theorem a3_39o : drawOk O3_39 a3_39n 10 = true := by kernel_rfl
noncomputable def u3d1l (t7 : List Int × Int) : List Ld :=
 [⟨5, fun x => .tuple #[.slice ((x 0).1) t7.1.length ((x 0).2.1), i6 t7.2], fun x => [orow 5 1 (x 0).1 t7.1.length (x 0).2.1 (x 0).2.2], fun x J => Reps (Ty.int .u8) J t7.1 (x 0).2.2 ∧ True, fun x J J' h f => ⟨Reps.ext h f.1, trivial⟩⟩]
noncomputable def u3d1g (x4 : Int) (g1_ : Nat) (o1_ : Nat) : List (Nat × ((Nat → Wt) → Value)) := [(2, fun u => pt g1_ (o1_ + (x4).toNat * 1))]
noncomputable def u3d1q (a2 : S25) (nx0 : Nat) (t1 : Bool) (x1 : List Int) (A1 : Option Addr) (c1 : Nat) (t2 : List S25) (A2 : Option Addr) (c2 : Nat) (x3 : List (List Int)) (A6 : Option Addr) (c6 : Nat) (x4 : Int) (A1_ : Option Addr) (c1_ : Nat) (g1_ : Nat) (o1_ : Nat) (t7 : List Int × Int) (u : Nat → Wt) : Option (List Value × List (Nat × Value) × List (Nat × Nat)) := qSim Tryd.prog [(⟨g1_, o1_ + (x4).toNat * 1, none⟩, .slice A1_ ((x3.getD (x4).toNat []).length) c1_)] [⟨nx0, [i6 a2.f0, .string a2.f1, .slice A1 x1.length c1], 25⟩] O3_39 ⟨134, []⟩ (Ld.vl (u3d1l t7)) (u3d1g x4 g1_ o1_) u [.no, .no, .no, .r 0, .l 0, .no, .no, .no, .no, .no] 0 (O3_39.take 10) [(48, .bool (decide (x4 < (x3.length : Int)))), (5, pt nx0 0), (7, .bool t1), (8, .slice A2 t2.length c2), (9, .slice A6 x3.length c6), (10, i6 x4)]
noncomputable def u3d1s (a2 : S25) (x1 : List Int) (A1 : Option Addr) (c1 : Nat) (x3 : List (List Int)) (A6 : Option Addr) (c6 : Nat) (x4 : Int) (A1_ : Option Addr) (c1_ : Nat) (g1_ : Nat) (o1_ : Nat) (t7 : List Int × Int) (u : Nat → Wt) : List Value := [.slice A6 x3.length c6, i6 x4, pt g1_ (o1_ + (x4).toNat * 1), .slice A1_ ((x3.getD (x4).toNat []).length) c1_, .agg #[i6 a2.f0, .string a2.f1, .slice A1 x1.length c1], .tuple #[.slice ((u 5 0).1) t7.1.length ((u 5 0).2.1), i6 t7.2], .tuple #[.slice ((u 5 0).1) t7.1.length ((u 5 0).2.1), i6 t7.2], .slice ((u 5 0).1) t7.1.length ((u 5 0).2.1), i6 t7.2, .slice ((u 5 0).1) t7.1.length ((u 5 0).2.1)]
noncomputable def u3d1f (a2 : S25) (nx0 : Nat) (t1 : Bool) (x1 : List Int) (A1 : Option Addr) (c1 : Nat) (t2 : List S25) (A2 : Option Addr) (c2 : Nat) (x3 : List (List Int)) (A6 : Option Addr) (c6 : Nat) (x4 : Int) (A1_ : Option Addr) (c1_ : Nat) (g1_ : Nat) (o1_ : Nat) (t7 : List Int × Int) (i : Nat) (u : Nat → Wt) : List (Nat × Value) := foldPut ⟨134, []⟩ [(48, .bool (decide (x4 < (x3.length : Int)))), (5, pt nx0 0), (7, .bool t1), (8, .slice A2 t2.length c2), (9, .slice A6 x3.length c6), (10, i6 x4)] (O3_39.take i) (((u3d1s a2 x1 A1 c1 x3 A6 c6 x4 A1_ c1_ g1_ o1_ t7) u).take i)
theorem u3d1v (a2 : S25) (nx0 : Nat) (t1 : Bool) (x1 : List Int) (A1 : Option Addr) (c1 : Nat) (t2 : List S25) (A2 : Option Addr) (c2 : Nat) (x3 : List (List Int)) (A6 : Option Addr) (c6 : Nat) (x4 : Int) (A1_ : Option Addr) (c1_ : Nat) (g1_ : Nat) (o1_ : Nat) (t7 : List Int × Int) (u : Nat → Wt) : (u3d1q a2 nx0 t1 x1 A1 c1 t2 A2 c2 x3 A6 c6 x4 A1_ c1_ g1_ o1_ t7 u).map (fun x => (x.1, x.2.1)) = some ((u3d1s a2 x1 A1 c1 x3 A6 c6 x4 A1_ c1_ g1_ o1_ t7) u, (u3d1f a2 nx0 t1 x1 A1 c1 t2 A2 c2 x3 A6 c6 x4 A1_ c1_ g1_ o1_ t7 10) u) := by kernel_rfl
theorem u3d1e (a2 : S25) (nx0 : Nat) (t1 : Bool) (x1 : List Int) (A1 : Option Addr) (c1 : Nat) (t2 : List S25) (A2 : Option Addr) (c2 : Nat) (x3 : List (List Int)) (A6 : Option Addr) (c6 : Nat) (x4 : Int) (A1_ : Option Addr) (c1_ : Nat) (g1_ : Nat) (o1_ : Nat) (t7 : List Int × Int) (u : Nat → Wt) : (u3d1q a2 nx0 t1 x1 A1 c1 t2 A2 c2 x3 A6 c6 x4 A1_ c1_ g1_ o1_ t7 u).map (fun x => x.2.2.map (·.1)) = (u3d1q a2 nx0 t1 x1 A1 c1 t2 A2 c2 x3 A6 c6 x4 A1_ c1_ g1_ o1_ t7 u).map (fun x => x.2.2.map (·.2)) := by kernel_rfl
noncomputable def a3_42n : List Nat := [0, 0, 3, 7, 0, 31, 63, 127, 127, 255, 1023]
theorem a3_42 : ancs O3_42 [] = a3_42n := by kernel_rfl
theorem a3_42o : drawOk O3_42 a3_42n 10 = true := by kernel_rfl
noncomputable def u3d2l (t8 : List Int × Int) : List Ld :=
 [⟨5, fun x => .tuple #[.slice ((x 0).1) t8.1.length ((x 0).2.1), i6 t8.2], fun x => [orow 5 1 (x 0).1 t8.1.length (x 0).2.1 (x 0).2.2], fun x J => Reps (Ty.int .u8) J t8.1 (x 0).2.2 ∧ True, fun x J J' h f => ⟨Reps.ext h f.1, trivial⟩⟩]
noncomputable def u3d2g (x4 : Int) (g2_ : Nat) (o2_ : Nat) : List (Nat × ((Nat → Wt) → Value)) := [(2, fun u => pt g2_ (o2_ + (x4).toNat * 1))]
noncomputable def u3d2q (a2 : S25) (nx0 : Nat) (t1 : Bool) (x1 : List Int) (A1 : Option Addr) (c1 : Nat) (t2 : List S25) (A2 : Option Addr) (c2 : Nat) (x3 : List (List Int)) (A6 : Option Addr) (c6 : Nat) (x4 : Int) (t7 : List Int × Int) (A7 : Option Addr) (c7 : Nat) (A2_ : Option Addr) (c2_ : Nat) (g2_ : Nat) (o2_ : Nat) (t8 : List Int × Int) (u : Nat → Wt) : Option (List Value × List (Nat × Value) × List (Nat × Nat)) := qSim Tryd.prog [(⟨g2_, o2_ + (x4).toNat * 1, none⟩, .slice A2_ ((x3.getD (x4).toNat []).length) c2_)] [⟨nx0, [i6 a2.f0, .string a2.f1, .slice A1 x1.length c1], 25⟩] O3_42 ⟨134, []⟩ (Ld.vl (u3d2l t8)) (u3d2g x4 g2_ o2_) u [.no, .no, .no, .r 0, .l 0, .no, .no, .no, .no, .no] 0 (O3_42.take 10) [(12, i6 t7.2), (11, .slice A7 t7.1.length c7), (5, pt nx0 0), (7, .bool t1), (8, .slice A2 t2.length c2), (9, .slice A6 x3.length c6), (10, i6 x4)]
noncomputable def u3d2s (a2 : S25) (x1 : List Int) (A1 : Option Addr) (c1 : Nat) (x3 : List (List Int)) (A6 : Option Addr) (c6 : Nat) (x4 : Int) (A2_ : Option Addr) (c2_ : Nat) (g2_ : Nat) (o2_ : Nat) (t8 : List Int × Int) (u : Nat → Wt) : List Value := [.slice A6 x3.length c6, i6 x4, pt g2_ (o2_ + (x4).toNat * 1), .slice A2_ ((x3.getD (x4).toNat []).length) c2_, .agg #[i6 a2.f0, .string a2.f1, .slice A1 x1.length c1], .tuple #[.slice ((u 5 0).1) t8.1.length ((u 5 0).2.1), i6 t8.2], .tuple #[.slice ((u 5 0).1) t8.1.length ((u 5 0).2.1), i6 t8.2], .slice ((u 5 0).1) t8.1.length ((u 5 0).2.1), i6 t8.2, .slice ((u 5 0).1) t8.1.length ((u 5 0).2.1)]
noncomputable def u3d2f (a2 : S25) (nx0 : Nat) (t1 : Bool) (x1 : List Int) (A1 : Option Addr) (c1 : Nat) (t2 : List S25) (A2 : Option Addr) (c2 : Nat) (x3 : List (List Int)) (A6 : Option Addr) (c6 : Nat) (x4 : Int) (t7 : List Int × Int) (A7 : Option Addr) (c7 : Nat) (A2_ : Option Addr) (c2_ : Nat) (g2_ : Nat) (o2_ : Nat) (t8 : List Int × Int) (i : Nat) (u : Nat → Wt) : List (Nat × Value) := foldPut ⟨134, []⟩ [(12, i6 t7.2), (11, .slice A7 t7.1.length c7), (5, pt nx0 0), (7, .bool t1), (8, .slice A2 t2.length c2), (9, .slice A6 x3.length c6), (10, i6 x4)] (O3_42.take i) (((u3d2s a2 x1 A1 c1 x3 A6 c6 x4 A2_ c2_ g2_ o2_ t8) u).take i)
theorem u3d2v (a2 : S25) (nx0 : Nat) (t1 : Bool) (x1 : List Int) (A1 : Option Addr) (c1 : Nat) (t2 : List S25) (A2 : Option Addr) (c2 : Nat) (x3 : List (List Int)) (A6 : Option Addr) (c6 : Nat) (x4 : Int) (t7 : List Int × Int) (A7 : Option Addr) (c7 : Nat) (A2_ : Option Addr) (c2_ : Nat) (g2_ : Nat) (o2_ : Nat) (t8 : List Int × Int) (u : Nat → Wt) : (u3d2q a2 nx0 t1 x1 A1 c1 t2 A2 c2 x3 A6 c6 x4 t7 A7 c7 A2_ c2_ g2_ o2_ t8 u).map (fun x => (x.1, x.2.1)) = some ((u3d2s a2 x1 A1 c1 x3 A6 c6 x4 A2_ c2_ g2_ o2_ t8) u, (u3d2f a2 nx0 t1 x1 A1 c1 t2 A2 c2 x3 A6 c6 x4 t7 A7 c7 A2_ c2_ g2_ o2_ t8 10) u) := by kernel_rfl
theorem u3d2e (a2 : S25) (nx0 : Nat) (t1 : Bool) (x1 : List Int) (A1 : Option Addr) (c1 : Nat) (t2 : List S25) (A2 : Option Addr) (c2 : Nat) (x3 : List (List Int)) (A6 : Option Addr) (c6 : Nat) (x4 : Int) (t7 : List Int × Int) (A7 : Option Addr) (c7 : Nat) (A2_ : Option Addr) (c2_ : Nat) (g2_ : Nat) (o2_ : Nat) (t8 : List Int × Int) (u : Nat → Wt) : (u3d2q a2 nx0 t1 x1 A1 c1 t2 A2 c2 x3 A6 c6 x4 t7 A7 c7 A2_ c2_ g2_ o2_ t8 u).map (fun x => x.2.2.map (·.1)) = (u3d2q a2 nx0 t1 x1 A1 c1 t2 A2 c2 x3 A6 c6 x4 t7 A7 c7 A2_ c2_ g2_ o2_ t8 u).map (fun x => x.2.2.map (·.2)) := by kernel_rfl
noncomputable def a3_51n : List Nat := (0 :: 0 :: 3 :: 7 :: 15 :: 31 :: 31 :: 127 :: 255 :: 511 :: 1023 :: 1023 :: 4095 :: 8191 :: 16383 :: 32767 :: 65535 :: 65535 :: 262143 :: 524287 :: 1048575 :: 2097151 :: 2097151 :: 8388607 :: 16777215 :: 33554431 :: 67108863 :: 67108863 :: 268435455 :: 536870911 :: 1073741823 :: 67108863 :: 67108863 :: 6509559807 :: 15099494399 :: 34359738367 :: 68719476735 :: 137438953471 :: 274877906943 :: [])
theorem a3_51 : ancs O3_51 [] = a3_51n := by kernel_rfl
theorem a3_51o : drawOk O3_51 a3_51n 35 = true := by kernel_rfl
noncomputable def u3d3l (t11 : Bool) : List Ld :=
 [⟨2, fun x => .bool t11, fun x => [], fun x J => True, fun x J J' h f => trivial⟩]
noncomputable def u3d3g  : List (Nat × ((Nat → Wt) → Value)) := [(4, fun u => .bool false), (9, fun u => .bool true)]
noncomputable def u3d3q (a2 : S25) (nx0 : Nat) (t1 : Bool) (x1 : List Int) (A1 : Option Addr) (c1 : Nat) (t2 : List S25) (A2 : Option Addr) (c2 : Nat) (x3 : List (List Int)) (A6 : Option Addr) (c6 : Nat) (x4 : Int) (t7 : List Int × Int) (A7 : Option Addr) (c7 : Nat) (t8 : List Int × Int) (A8 : Option Addr) (c8 : Nat) (t9 : List S25 × Int × Int) (A9 : Option Addr) (c9 : Nat) (t10 : List S25 × Int × Int) (A10 : Option Addr) (c10 : Nat) (t11 : Bool) (u : Nat → Wt) : Option (List Value × List (Nat × Value) × List (Nat × Nat)) := qSim Tryd.prog [] [⟨nx0, [i6 a2.f0, .string a2.f1, .slice A1 x1.length c1], 25⟩] O3_51 ⟨134, []⟩ (Ld.vl (u3d3l t11)) u3d3g u (.no :: .no :: .no :: .no :: .no :: .no :: .no :: .no :: .no :: .no :: .no :: .no :: .no :: .no :: .no :: .no :: .no :: .no :: .no :: .no :: .no :: .no :: .no :: .no :: .no :: .no :: .no :: .no :: .no :: .no :: .no :: .no :: .no :: .no :: .no :: []) 0 (O3_51.take 35) [(20, i6 t10.2.2), (19, i6 t10.2.1), (18, .slice A10 t10.1.length c10), (17, i6 t9.2.2), (16, i6 t9.2.1), (15, .slice A9 t9.1.length c9), (14, i6 t8.2), (13, .slice A8 t8.1.length c8), (12, i6 t7.2), (11, .slice A7 t7.1.length c7), (5, pt nx0 0), (7, .bool t1), (8, .slice A2 t2.length c2), (9, .slice A6 x3.length c6), (10, i6 x4)]
noncomputable def u3d3s (t7 : List Int × Int) (A7 : Option Addr) (c7 : Nat) (t8 : List Int × Int) (A8 : Option Addr) (c8 : Nat) (t11 : Bool) (u : Nat → Wt) : List Value := (.slice A7 t7.1.length c7 :: .slice A8 t8.1.length c8 :: .bool t11 :: .bool (!t11) :: .bool false :: i6 t7.2 :: i6 t8.2 :: .bool (t7.2 != t8.2) :: .bool (t7.2 != t8.2) :: .bool true :: undef :: undef :: undef :: undef :: .bool true :: .bool true :: undef :: undef :: undef :: .bool true :: .bool true :: undef :: undef :: undef :: .bool true :: .bool true :: undef :: undef :: undef :: undef :: undef :: undef :: undef :: undef :: undef :: [])
noncomputable def u3d3f (nx0 : Nat) (t1 : Bool) (t2 : List S25) (A2 : Option Addr) (c2 : Nat) (x3 : List (List Int)) (A6 : Option Addr) (c6 : Nat) (x4 : Int) (t7 : List Int × Int) (A7 : Option Addr) (c7 : Nat) (t8 : List Int × Int) (A8 : Option Addr) (c8 : Nat) (t9 : List S25 × Int × Int) (A9 : Option Addr) (c9 : Nat) (t10 : List S25 × Int × Int) (A10 : Option Addr) (c10 : Nat) (t11 : Bool) (i : Nat) (u : Nat → Wt) : List (Nat × Value) := foldPut ⟨134, []⟩ [(20, i6 t10.2.2), (19, i6 t10.2.1), (18, .slice A10 t10.1.length c10), (17, i6 t9.2.2), (16, i6 t9.2.1), (15, .slice A9 t9.1.length c9), (14, i6 t8.2), (13, .slice A8 t8.1.length c8), (12, i6 t7.2), (11, .slice A7 t7.1.length c7), (5, pt nx0 0), (7, .bool t1), (8, .slice A2 t2.length c2), (9, .slice A6 x3.length c6), (10, i6 x4)] (O3_51.take i) (((u3d3s t7 A7 c7 t8 A8 c8 t11) u).take i)
theorem u3d3v (a2 : S25) (nx0 : Nat) (t1 : Bool) (x1 : List Int) (A1 : Option Addr) (c1 : Nat) (t2 : List S25) (A2 : Option Addr) (c2 : Nat) (x3 : List (List Int)) (A6 : Option Addr) (c6 : Nat) (x4 : Int) (t7 : List Int × Int) (A7 : Option Addr) (c7 : Nat) (t8 : List Int × Int) (A8 : Option Addr) (c8 : Nat) (t9 : List S25 × Int × Int) (A9 : Option Addr) (c9 : Nat) (t10 : List S25 × Int × Int) (A10 : Option Addr) (c10 : Nat) (t11 : Bool) (u : Nat → Wt) : (u3d3q a2 nx0 t1 x1 A1 c1 t2 A2 c2 x3 A6 c6 x4 t7 A7 c7 t8 A8 c8 t9 A9 c9 t10 A10 c10 t11 u).map (fun x => (x.1, x.2.1)) = some ((u3d3s t7 A7 c7 t8 A8 c8 t11) u, (u3d3f nx0 t1 t2 A2 c2 x3 A6 c6 x4 t7 A7 c7 t8 A8 c8 t9 A9 c9 t10 A10 c10 t11 35) u) := by kernel_rfl
theorem u3d3e (a2 : S25) (nx0 : Nat) (t1 : Bool) (x1 : List Int) (A1 : Option Addr) (c1 : Nat) (t2 : List S25) (A2 : Option Addr) (c2 : Nat) (x3 : List (List Int)) (A6 : Option Addr) (c6 : Nat) (x4 : Int) (t7 : List Int × Int) (A7 : Option Addr) (c7 : Nat) (t8 : List Int × Int) (A8 : Option Addr) (c8 : Nat) (t9 : List S25 × Int × Int) (A9 : Option Addr) (c9 : Nat) (t10 : List S25 × Int × Int) (A10 : Option Addr) (c10 : Nat) (t11 : Bool) (u : Nat → Wt) : (u3d3q a2 nx0 t1 x1 A1 c1 t2 A2 c2 x3 A6 c6 x4 t7 A7 c7 t8 A8 c8 t9 A9 c9 t10 A10 c10 t11 u).map (fun x => x.2.2.map (·.1)) = (u3d3q a2 nx0 t1 x1 A1 c1 t2 A2 c2 x3 A6 c6 x4 t7 A7 c7 t8 A8 c8 t9 A9 c9 t10 A10 c10 t11 u).map (fun x => x.2.2.map (·.2)) := by kernel_rfl
noncomputable def u3d4l (t11 : Bool) (t12 : Bool) : List Ld :=
 [⟨2, fun x => .bool t11, fun x => [], fun x J => True, fun x J J' h f => trivial⟩,
  ⟨12, fun x => .bool t12, fun x => [], fun x J => True, fun x J J' h f => trivial⟩]
noncomputable def u3d4g  : List (Nat × ((Nat → Wt) → Value)) := [(4, fun u => .bool false), (9, fun u => .bool false), (15, fun u => .bool false), (20, fun u => .bool true)]
noncomputable def u3d4q (a2 : S25) (nx0 : Nat) (t1 : Bool) (x1 : List Int) (A1 : Option Addr) (c1 : Nat) (t2 : List S25) (A2 : Option Addr) (c2 : Nat) (x3 : List (List Int)) (A6 : Option Addr) (c6 : Nat) (x4 : Int) (t7 : List Int × Int) (A7 : Option Addr) (c7 : Nat) (t8 : List Int × Int) (A8 : Option Addr) (c8 : Nat) (t9 : List S25 × Int × Int) (A9 : Option Addr) (c9 : Nat) (t10 : List S25 × Int × Int) (A10 : Option Addr) (c10 : Nat) (t11 : Bool) (t12 : Bool) (u : Nat → Wt) : Option (List Value × List (Nat × Value) × List (Nat × Nat)) := qSim Tryd.prog [] [⟨nx0, [i6 a2.f0, .string a2.f1, .slice A1 x1.length c1], 25⟩] O3_51 ⟨134, []⟩ (Ld.vl (u3d4l t11 t12)) u3d4g u (.no :: .no :: .no :: .no :: .no :: .no :: .no :: .no :: .no :: .no :: .no :: .no :: .no :: .no :: .no :: .no :: .no :: .no :: .no :: .no :: .no :: .no :: .no :: .no :: .no :: .no :: .no :: .no :: .no :: .no :: .no :: .no :: .no :: .no :: .no :: []) 0 (O3_51.take 35) [(20, i6 t10.2.2), (19, i6 t10.2.1), (18, .slice A10 t10.1.length c10), (17, i6 t9.2.2), (16, i6 t9.2.1), (15, .slice A9 t9.1.length c9), (14, i6 t8.2), (13, .slice A8 t8.1.length c8), (12, i6 t7.2), (11, .slice A7 t7.1.length c7), (5, pt nx0 0), (7, .bool t1), (8, .slice A2 t2.length c2), (9, .slice A6 x3.length c6), (10, i6 x4)]
noncomputable def u3d4s (t7 : List Int × Int) (A7 : Option Addr) (c7 : Nat) (t8 : List Int × Int) (A8 : Option Addr) (c8 : Nat) (t9 : List S25 × Int × Int) (A9 : Option Addr) (c9 : Nat) (t10 : List S25 × Int × Int) (A10 : Option Addr) (c10 : Nat) (t11 : Bool) (t12 : Bool) (u : Nat → Wt) : List Value := (.slice A7 t7.1.length c7 :: .slice A8 t8.1.length c8 :: .bool t11 :: .bool (!t11) :: .bool false :: i6 t7.2 :: i6 t8.2 :: .bool (t7.2 != t8.2) :: .bool (t7.2 != t8.2) :: .bool false :: .slice A9 t9.1.length c9 :: .slice A10 t10.1.length c10 :: .bool t12 :: .bool (!t12) :: .bool (!t12) :: .bool false :: i6 t9.2.1 :: i6 t10.2.1 :: .bool (t9.2.1 != t10.2.1) :: .bool (t9.2.1 != t10.2.1) :: .bool true :: undef :: undef :: undef :: .bool true :: .bool true :: undef :: undef :: undef :: undef :: undef :: undef :: undef :: undef :: undef :: [])
noncomputable def u3d4f (nx0 : Nat) (t1 : Bool) (t2 : List S25) (A2 : Option Addr) (c2 : Nat) (x3 : List (List Int)) (A6 : Option Addr) (c6 : Nat) (x4 : Int) (t7 : List Int × Int) (A7 : Option Addr) (c7 : Nat) (t8 : List Int × Int) (A8 : Option Addr) (c8 : Nat) (t9 : List S25 × Int × Int) (A9 : Option Addr) (c9 : Nat) (t10 : List S25 × Int × Int) (A10 : Option Addr) (c10 : Nat) (t11 : Bool) (t12 : Bool) (i : Nat) (u : Nat → Wt) : List (Nat × Value) := foldPut ⟨134, []⟩ [(20, i6 t10.2.2), (19, i6 t10.2.1), (18, .slice A10 t10.1.length c10), (17, i6 t9.2.2), (16, i6 t9.2.1), (15, .slice A9 t9.1.length c9), (14, i6 t8.2), (13, .slice A8 t8.1.length c8), (12, i6 t7.2), (11, .slice A7 t7.1.length c7), (5, pt nx0 0), (7, .bool t1), (8, .slice A2 t2.length c2), (9, .slice A6 x3.length c6), (10, i6 x4)] (O3_51.take i) (((u3d4s t7 A7 c7 t8 A8 c8 t9 A9 c9 t10 A10 c10 t11 t12) u).take i)
theorem u3d4v (a2 : S25) (nx0 : Nat) (t1 : Bool) (x1 : List Int) (A1 : Option Addr) (c1 : Nat) (t2 : List S25) (A2 : Option Addr) (c2 : Nat) (x3 : List (List Int)) (A6 : Option Addr) (c6 : Nat) (x4 : Int) (t7 : List Int × Int) (A7 : Option Addr) (c7 : Nat) (t8 : List Int × Int) (A8 : Option Addr) (c8 : Nat) (t9 : List S25 × Int × Int) (A9 : Option Addr) (c9 : Nat) (t10 : List S25 × Int × Int) (A10 : Option Addr) (c10 : Nat) (t11 : Bool) (t12 : Bool) (u : Nat → Wt) : (u3d4q a2 nx0 t1 x1 A1 c1 t2 A2 c2 x3 A6 c6 x4 t7 A7 c7 t8 A8 c8 t9 A9 c9 t10 A10 c10 t11 t12 u).map (fun x => (x.1, x.2.1)) = some ((u3d4s t7 A7 c7 t8 A8 c8 t9 A9 c9 t10 A10 c10 t11 t12) u, (u3d4f nx0 t1 t2 A2 c2 x3 A6 c6 x4 t7 A7 c7 t8 A8 c8 t9 A9 c9 t10 A10 c10 t11 t12 35) u) := by kernel_rfl
theorem u3d4e (a2 : S25) (nx0 : Nat) (t1 : Bool) (x1 : List Int) (A1 : Option Addr) (c1 : Nat) (t2 : List S25) (A2 : Option Addr) (c2 : Nat) (x3 : List (List Int)) (A6 : Option Addr) (c6 : Nat) (x4 : Int) (t7 : List Int × Int) (A7 : Option Addr) (c7 : Nat) (t8 : List Int × Int) (A8 : Option Addr) (c8 : Nat) (t9 : List S25 × Int × Int) (A9 : Option Addr) (c9 : Nat) (t10 : List S25 × Int × Int) (A10 : Option Addr) (c10 : Nat) (t11 : Bool) (t12 : Bool) (u : Nat → Wt) : (u3d4q a2 nx0 t1 x1 A1 c1 t2 A2 c2 x3 A6 c6 x4 t7 A7 c7 t8 A8 c8 t9 A9 c9 t10 A10 c10 t11 t12 u).map (fun x => x.2.2.map (·.1)) = (u3d4q a2 nx0 t1 x1 A1 c1 t2 A2 c2 x3 A6 c6 x4 t7 A7 c7 t8 A8 c8 t9 A9 c9 t10 A10 c10 t11 t12 u).map (fun x => x.2.2.map (·.2)) := by kernel_rfl
noncomputable def u3d5l (t11 : Bool) (t12 : Bool) : List Ld :=
 [⟨2, fun x => .bool t11, fun x => [], fun x J => True, fun x J J' h f => trivial⟩,
  ⟨12, fun x => .bool t12, fun x => [], fun x J => True, fun x J J' h f => trivial⟩]
noncomputable def u3d5g  : List (Nat × ((Nat → Wt) → Value)) := [(4, fun u => .bool false), (9, fun u => .bool false), (15, fun u => .bool false), (20, fun u => .bool false), (25, fun u => .bool true)]
noncomputable def u3d5q (a2 : S25) (nx0 : Nat) (t1 : Bool) (x1 : List Int) (A1 : Option Addr) (c1 : Nat) (t2 : List S25) (A2 : Option Addr) (c2 : Nat) (x3 : List (List Int)) (A6 : Option Addr) (c6 : Nat) (x4 : Int) (t7 : List Int × Int) (A7 : Option Addr) (c7 : Nat) (t8 : List Int × Int) (A8 : Option Addr) (c8 : Nat) (t9 : List S25 × Int × Int) (A9 : Option Addr) (c9 : Nat) (t10 : List S25 × Int × Int) (A10 : Option Addr) (c10 : Nat) (t11 : Bool) (t12 : Bool) (u : Nat → Wt) : Option (List Value × List (Nat × Value) × List (Nat × Nat)) := qSim Tryd.prog [] [⟨nx0, [i6 a2.f0, .string a2.f1, .slice A1 x1.length c1], 25⟩] O3_51 ⟨134, []⟩ (Ld.vl (u3d5l t11 t12)) u3d5g u (.no :: .no :: .no :: .no :: .no :: .no :: .no :: .no :: .no :: .no :: .no :: .no :: .no :: .no :: .no :: .no :: .no :: .no :: .no :: .no :: .no :: .no :: .no :: .no :: .no :: .no :: .no :: .no :: .no :: .no :: .no :: .no :: .no :: .no :: .no :: []) 0 (O3_51.take 35) [(20, i6 t10.2.2), (19, i6 t10.2.1), (18, .slice A10 t10.1.length c10), (17, i6 t9.2.2), (16, i6 t9.2.1), (15, .slice A9 t9.1.length c9), (14, i6 t8.2), (13, .slice A8 t8.1.length c8), (12, i6 t7.2), (11, .slice A7 t7.1.length c7), (5, pt nx0 0), (7, .bool t1), (8, .slice A2 t2.length c2), (9, .slice A6 x3.length c6), (10, i6 x4)]
noncomputable def u3d5s (t7 : List Int × Int) (A7 : Option Addr) (c7 : Nat) (t8 : List Int × Int) (A8 : Option Addr) (c8 : Nat) (t9 : List S25 × Int × Int) (A9 : Option Addr) (c9 : Nat) (t10 : List S25 × Int × Int) (A10 : Option Addr) (c10 : Nat) (t11 : Bool) (t12 : Bool) (u : Nat → Wt) : List Value := (.slice A7 t7.1.length c7 :: .slice A8 t8.1.length c8 :: .bool t11 :: .bool (!t11) :: .bool false :: i6 t7.2 :: i6 t8.2 :: .bool (t7.2 != t8.2) :: .bool (t7.2 != t8.2) :: .bool false :: .slice A9 t9.1.length c9 :: .slice A10 t10.1.length c10 :: .bool t12 :: .bool (!t12) :: .bool (!t12) :: .bool false :: i6 t9.2.1 :: i6 t10.2.1 :: .bool (t9.2.1 != t10.2.1) :: .bool (t9.2.1 != t10.2.1) :: .bool false :: i6 t9.2.2 :: i6 t10.2.2 :: .bool (t9.2.2 != t10.2.2) :: .bool (t9.2.2 != t10.2.2) :: .bool true :: undef :: undef :: undef :: undef :: undef :: undef :: undef :: undef :: undef :: [])
noncomputable def u3d5f (nx0 : Nat) (t1 : Bool) (t2 : List S25) (A2 : Option Addr) (c2 : Nat) (x3 : List (List Int)) (A6 : Option Addr) (c6 : Nat) (x4 : Int) (t7 : List Int × Int) (A7 : Option Addr) (c7 : Nat) (t8 : List Int × Int) (A8 : Option Addr) (c8 : Nat) (t9 : List S25 × Int × Int) (A9 : Option Addr) (c9 : Nat) (t10 : List S25 × Int × Int) (A10 : Option Addr) (c10 : Nat) (t11 : Bool) (t12 : Bool) (i : Nat) (u : Nat → Wt) : List (Nat × Value) := foldPut ⟨134, []⟩ [(20, i6 t10.2.2), (19, i6 t10.2.1), (18, .slice A10 t10.1.length c10), (17, i6 t9.2.2), (16, i6 t9.2.1), (15, .slice A9 t9.1.length c9), (14, i6 t8.2), (13, .slice A8 t8.1.length c8), (12, i6 t7.2), (11, .slice A7 t7.1.length c7), (5, pt nx0 0), (7, .bool t1), (8, .slice A2 t2.length c2), (9, .slice A6 x3.length c6), (10, i6 x4)] (O3_51.take i) (((u3d5s t7 A7 c7 t8 A8 c8 t9 A9 c9 t10 A10 c10 t11 t12) u).take i)
theorem u3d5v (a2 : S25) (nx0 : Nat) (t1 : Bool) (x1 : List Int) (A1 : Option Addr) (c1 : Nat) (t2 : List S25) (A2 : Option Addr) (c2 : Nat) (x3 : List (List Int)) (A6 : Option Addr) (c6 : Nat) (x4 : Int) (t7 : List Int × Int) (A7 : Option Addr) (c7 : Nat) (t8 : List Int × Int) (A8 : Option Addr) (c8 : Nat) (t9 : List S25 × Int × Int) (A9 : Option Addr) (c9 : Nat) (t10 : List S25 × Int × Int) (A10 : Option Addr) (c10 : Nat) (t11 : Bool) (t12 : Bool) (u : Nat → Wt) : (u3d5q a2 nx0 t1 x1 A1 c1 t2 A2 c2 x3 A6 c6 x4 t7 A7 c7 t8 A8 c8 t9 A9 c9 t10 A10 c10 t11 t12 u).map (fun x => (x.1, x.2.1)) = some ((u3d5s t7 A7 c7 t8 A8 c8 t9 A9 c9 t10 A10 c10 t11 t12) u, (u3d5f nx0 t1 t2 A2 c2 x3 A6 c6 x4 t7 A7 c7 t8 A8 c8 t9 A9 c9 t10 A10 c10 t11 t12 35) u) := by kernel_rfl
theorem u3d5e (a2 : S25) (nx0 : Nat) (t1 : Bool) (x1 : List Int) (A1 : Option Addr) (c1 : Nat) (t2 : List S25) (A2 : Option Addr) (c2 : Nat) (x3 : List (List Int)) (A6 : Option Addr) (c6 : Nat) (x4 : Int) (t7 : List Int × Int) (A7 : Option Addr) (c7 : Nat) (t8 : List Int × Int) (A8 : Option Addr) (c8 : Nat) (t9 : List S25 × Int × Int) (A9 : Option Addr) (c9 : Nat) (t10 : List S25 × Int × Int) (A10 : Option Addr) (c10 : Nat) (t11 : Bool) (t12 : Bool) (u : Nat → Wt) : (u3d5q a2 nx0 t1 x1 A1 c1 t2 A2 c2 x3 A6 c6 x4 t7 A7 c7 t8 A8 c8 t9 A9 c9 t10 A10 c10 t11 t12 u).map (fun x => x.2.2.map (·.1)) = (u3d5q a2 nx0 t1 x1 A1 c1 t2 A2 c2 x3 A6 c6 x4 t7 A7 c7 t8 A8 c8 t9 A9 c9 t10 A10 c10 t11 t12 u).map (fun x => x.2.2.map (·.2)) := by kernel_rfl
noncomputable def u3d6l (t11 : Bool) (t12 : Bool) (t13 : List Int) : List Ld :=
 [⟨2, fun x => .bool t11, fun x => [], fun x J => True, fun x J J' h f => trivial⟩,
  ⟨12, fun x => .bool t12, fun x => [], fun x J => True, fun x J J' h f => trivial⟩,
  ⟨30, fun x => .slice ((x 0).1) t13.length ((x 0).2.1), fun x => [orow 5 1 (x 0).1 t13.length (x 0).2.1 (x 0).2.2], fun x J => Reps (Ty.int .u8) J t13 (x 0).2.2 ∧ True, fun x J J' h f => ⟨Reps.ext h f.1, trivial⟩⟩]
noncomputable def u3d6g (x4 : Int) (g5_ : Nat) (o5_ : Nat) (g6_ : Nat) (o6_ : Nat) : List (Nat × ((Nat → Wt) → Value)) := [(4, fun u => .bool false), (9, fun u => .bool false), (15, fun u => .bool false), (20, fun u => .bool false), (25, fun u => .bool false), (28, fun u => pt g5_ (o5_ + (x4).toNat * 1)), (33, fun u => pt g6_ (o6_ + (x4).toNat * 1))]
noncomputable def u3d6q (a2 : S25) (nx0 : Nat) (t1 : Bool) (x1 : List Int) (A1 : Option Addr) (c1 : Nat) (t2 : List S25) (A2 : Option Addr) (c2 : Nat) (x3 : List (List Int)) (A6 : Option Addr) (c6 : Nat) (x4 : Int) (t7 : List Int × Int) (A7 : Option Addr) (c7 : Nat) (t8 : List Int × Int) (A8 : Option Addr) (c8 : Nat) (t9 : List S25 × Int × Int) (A9 : Option Addr) (c9 : Nat) (t10 : List S25 × Int × Int) (A10 : Option Addr) (c10 : Nat) (t11 : Bool) (t12 : Bool) (A5_ : Option Addr) (c5_ : Nat) (g5_ : Nat) (o5_ : Nat) (t13 : List Int) (A6_ : Option Addr) (c6_ : Nat) (g6_ : Nat) (o6_ : Nat) (u : Nat → Wt) : Option (List Value × List (Nat × Value) × List (Nat × Nat)) := qSim Tryd.prog [(⟨g5_, o5_ + (x4).toNat * 1, none⟩, .slice A5_ ((x3.getD (x4).toNat []).length) c5_), (⟨g6_, o6_ + (x4).toNat * 1, none⟩, .slice A6_ ((x3.getD (x4).toNat []).length) c6_)] [⟨nx0, [i6 a2.f0, .string a2.f1, .slice A1 x1.length c1], 25⟩] O3_51 ⟨134, []⟩ (Ld.vl (u3d6l t11 t12 t13)) (u3d6g x4 g5_ o5_ g6_ o6_) u (.no :: .no :: .no :: .no :: .no :: .no :: .no :: .no :: .no :: .no :: .no :: .no :: .no :: .no :: .no :: .no :: .no :: .no :: .no :: .no :: .no :: .no :: .no :: .no :: .no :: .no :: .no :: .no :: .no :: .r 0 :: .no :: .no :: .no :: .no :: .r 1 :: []) 0 (O3_51.take 35) [(20, i6 t10.2.2), (19, i6 t10.2.1), (18, .slice A10 t10.1.length c10), (17, i6 t9.2.2), (16, i6 t9.2.1), (15, .slice A9 t9.1.length c9), (14, i6 t8.2), (13, .slice A8 t8.1.length c8), (12, i6 t7.2), (11, .slice A7 t7.1.length c7), (5, pt nx0 0), (7, .bool t1), (8, .slice A2 t2.length c2), (9, .slice A6 x3.length c6), (10, i6 x4)]
noncomputable def u3d6s (x3 : List (List Int)) (A6 : Option Addr) (c6 : Nat) (x4 : Int) (t7 : List Int × Int) (A7 : Option Addr) (c7 : Nat) (t8 : List Int × Int) (A8 : Option Addr) (c8 : Nat) (t9 : List S25 × Int × Int) (A9 : Option Addr) (c9 : Nat) (t10 : List S25 × Int × Int) (A10 : Option Addr) (c10 : Nat) (t11 : Bool) (t12 : Bool) (A5_ : Option Addr) (c5_ : Nat) (g5_ : Nat) (o5_ : Nat) (t13 : List Int) (A6_ : Option Addr) (c6_ : Nat) (g6_ : Nat) (o6_ : Nat) (u : Nat → Wt) : List Value := (.slice A7 t7.1.length c7 :: .slice A8 t8.1.length c8 :: .bool t11 :: .bool (!t11) :: .bool false :: i6 t7.2 :: i6 t8.2 :: .bool (t7.2 != t8.2) :: .bool (t7.2 != t8.2) :: .bool false :: .slice A9 t9.1.length c9 :: .slice A10 t10.1.length c10 :: .bool t12 :: .bool (!t12) :: .bool (!t12) :: .bool false :: i6 t9.2.1 :: i6 t10.2.1 :: .bool (t9.2.1 != t10.2.1) :: .bool (t9.2.1 != t10.2.1) :: .bool false :: i6 t9.2.2 :: i6 t10.2.2 :: .bool (t9.2.2 != t10.2.2) :: .bool (t9.2.2 != t10.2.2) :: .bool false :: .slice A6 x3.length c6 :: i6 x4 :: pt g5_ (o5_ + (x4).toNat * 1) :: .slice A5_ ((x3.getD (x4).toNat []).length) c5_ :: .slice ((u 30 0).1) t13.length ((u 30 0).2.1) :: .slice A6 x3.length c6 :: i6 x4 :: pt g6_ (o6_ + (x4).toNat * 1) :: .slice A6_ ((x3.getD (x4).toNat []).length) c6_ :: [])
noncomputable def u3d6f (nx0 : Nat) (t1 : Bool) (t2 : List S25) (A2 : Option Addr) (c2 : Nat) (x3 : List (List Int)) (A6 : Option Addr) (c6 : Nat) (x4 : Int) (t7 : List Int × Int) (A7 : Option Addr) (c7 : Nat) (t8 : List Int × Int) (A8 : Option Addr) (c8 : Nat) (t9 : List S25 × Int × Int) (A9 : Option Addr) (c9 : Nat) (t10 : List S25 × Int × Int) (A10 : Option Addr) (c10 : Nat) (t11 : Bool) (t12 : Bool) (A5_ : Option Addr) (c5_ : Nat) (g5_ : Nat) (o5_ : Nat) (t13 : List Int) (A6_ : Option Addr) (c6_ : Nat) (g6_ : Nat) (o6_ : Nat) (i : Nat) (u : Nat → Wt) : List (Nat × Value) := foldPut ⟨134, []⟩ [(20, i6 t10.2.2), (19, i6 t10.2.1), (18, .slice A10 t10.1.length c10), (17, i6 t9.2.2), (16, i6 t9.2.1), (15, .slice A9 t9.1.length c9), (14, i6 t8.2), (13, .slice A8 t8.1.length c8), (12, i6 t7.2), (11, .slice A7 t7.1.length c7), (5, pt nx0 0), (7, .bool t1), (8, .slice A2 t2.length c2), (9, .slice A6 x3.length c6), (10, i6 x4)] (O3_51.take i) (((u3d6s x3 A6 c6 x4 t7 A7 c7 t8 A8 c8 t9 A9 c9 t10 A10 c10 t11 t12 A5_ c5_ g5_ o5_ t13 A6_ c6_ g6_ o6_) u).take i)
theorem u3d6v (a2 : S25) (nx0 : Nat) (t1 : Bool) (x1 : List Int) (A1 : Option Addr) (c1 : Nat) (t2 : List S25) (A2 : Option Addr) (c2 : Nat) (x3 : List (List Int)) (A6 : Option Addr) (c6 : Nat) (x4 : Int) (t7 : List Int × Int) (A7 : Option Addr) (c7 : Nat) (t8 : List Int × Int) (A8 : Option Addr) (c8 : Nat) (t9 : List S25 × Int × Int) (A9 : Option Addr) (c9 : Nat) (t10 : List S25 × Int × Int) (A10 : Option Addr) (c10 : Nat) (t11 : Bool) (t12 : Bool) (A5_ : Option Addr) (c5_ : Nat) (g5_ : Nat) (o5_ : Nat) (t13 : List Int) (A6_ : Option Addr) (c6_ : Nat) (g6_ : Nat) (o6_ : Nat) (u : Nat → Wt) : (u3d6q a2 nx0 t1 x1 A1 c1 t2 A2 c2 x3 A6 c6 x4 t7 A7 c7 t8 A8 c8 t9 A9 c9 t10 A10 c10 t11 t12 A5_ c5_ g5_ o5_ t13 A6_ c6_ g6_ o6_ u).map (fun x => (x.1, x.2.1)) = some ((u3d6s x3 A6 c6 x4 t7 A7 c7 t8 A8 c8 t9 A9 c9 t10 A10 c10 t11 t12 A5_ c5_ g5_ o5_ t13 A6_ c6_ g6_ o6_) u, (u3d6f nx0 t1 t2 A2 c2 x3 A6 c6 x4 t7 A7 c7 t8 A8 c8 t9 A9 c9 t10 A10 c10 t11 t12 A5_ c5_ g5_ o5_ t13 A6_ c6_ g6_ o6_ 35) u) := by kernel_rfl
theorem u3d6e (a2 : S25) (nx0 : Nat) (t1 : Bool) (x1 : List Int) (A1 : Option Addr) (c1 : Nat) (t2 : List S25) (A2 : Option Addr) (c2 : Nat) (x3 : List (List Int)) (A6 : Option Addr) (c6 : Nat) (x4 : Int) (t7 : List Int × Int) (A7 : Option Addr) (c7 : Nat) (t8 : List Int × Int) (A8 : Option Addr) (c8 : Nat) (t9 : List S25 × Int × Int) (A9 : Option Addr) (c9 : Nat) (t10 : List S25 × Int × Int) (A10 : Option Addr) (c10 : Nat) (t11 : Bool) (t12 : Bool) (A5_ : Option Addr) (c5_ : Nat) (g5_ : Nat) (o5_ : Nat) (t13 : List Int) (A6_ : Option Addr) (c6_ : Nat) (g6_ : Nat) (o6_ : Nat) (u : Nat → Wt) : (u3d6q a2 nx0 t1 x1 A1 c1 t2 A2 c2 x3 A6 c6 x4 t7 A7 c7 t8 A8 c8 t9 A9 c9 t10 A10 c10 t11 t12 A5_ c5_ g5_ o5_ t13 A6_ c6_ g6_ o6_ u).map (fun x => x.2.2.map (·.1)) = (u3d6q a2 nx0 t1 x1 A1 c1 t2 A2 c2 x3 A6 c6 x4 t7 A7 c7 t8 A8 c8 t9 A9 c9 t10 A10 c10 t11 t12 A5_ c5_ g5_ o5_ t13 A6_ c6_ g6_ o6_ u).map (fun x => x.2.2.map (·.2)) := by kernel_rfl
noncomputable def u3d7l (t11 : Bool) (t12 : Bool) : List Ld :=
 [⟨2, fun x => .bool t11, fun x => [], fun x J => True, fun x J J' h f => trivial⟩,
  ⟨12, fun x => .bool t12, fun x => [], fun x J => True, fun x J J' h f => trivial⟩]
noncomputable def u3d7g  : List (Nat × ((Nat → Wt) → Value)) := [(4, fun u => .bool false), (9, fun u => .bool false), (15, fun u => .bool true)]
noncomputable def u3d7q (a2 : S25) (nx0 : Nat) (t1 : Bool) (x1 : List Int) (A1 : Option Addr) (c1 : Nat) (t2 : List S25) (A2 : Option Addr) (c2 : Nat) (x3 : List (List Int)) (A6 : Option Addr) (c6 : Nat) (x4 : Int) (t7 : List Int × Int) (A7 : Option Addr) (c7 : Nat) (t8 : List Int × Int) (A8 : Option Addr) (c8 : Nat) (t9 : List S25 × Int × Int) (A9 : Option Addr) (c9 : Nat) (t10 : List S25 × Int × Int) (A10 : Option Addr) (c10 : Nat) (t11 : Bool) (t12 : Bool) (u : Nat → Wt) : Option (List Value × List (Nat × Value) × List (Nat × Nat)) := qSim Tryd.prog [] [⟨nx0, [i6 a2.f0, .string a2.f1, .slice A1 x1.length c1], 25⟩] O3_51 ⟨134, []⟩ (Ld.vl (u3d7l t11 t12)) u3d7g u (.no :: .no :: .no :: .no :: .no :: .no :: .no :: .no :: .no :: .no :: .no :: .no :: .no :: .no :: .no :: .no :: .no :: .no :: .no :: .no :: .no :: .no :: .no :: .no :: .no :: .no :: .no :: .no :: .no :: .no :: .no :: .no :: .no :: .no :: .no :: []) 0 (O3_51.take 35) [(20, i6 t10.2.2), (19, i6 t10.2.1), (18, .slice A10 t10.1.length c10), (17, i6 t9.2.2), (16, i6 t9.2.1), (15, .slice A9 t9.1.length c9), (14, i6 t8.2), (13, .slice A8 t8.1.length c8), (12, i6 t7.2), (11, .slice A7 t7.1.length c7), (5, pt nx0 0), (7, .bool t1), (8, .slice A2 t2.length c2), (9, .slice A6 x3.length c6), (10, i6 x4)]
noncomputable def u3d7s (t7 : List Int × Int) (A7 : Option Addr) (c7 : Nat) (t8 : List Int × Int) (A8 : Option Addr) (c8 : Nat) (t9 : List S25 × Int × Int) (A9 : Option Addr) (c9 : Nat) (t10 : List S25 × Int × Int) (A10 : Option Addr) (c10 : Nat) (t11 : Bool) (t12 : Bool) (u : Nat → Wt) : List Value := (.slice A7 t7.1.length c7 :: .slice A8 t8.1.length c8 :: .bool t11 :: .bool (!t11) :: .bool false :: i6 t7.2 :: i6 t8.2 :: .bool (t7.2 != t8.2) :: .bool (t7.2 != t8.2) :: .bool false :: .slice A9 t9.1.length c9 :: .slice A10 t10.1.length c10 :: .bool t12 :: .bool (!t12) :: .bool (!t12) :: .bool true :: undef :: undef :: undef :: .bool true :: .bool true :: undef :: undef :: undef :: .bool true :: .bool true :: undef :: undef :: undef :: undef :: undef :: undef :: undef :: undef :: undef :: [])
noncomputable def u3d7f (nx0 : Nat) (t1 : Bool) (t2 : List S25) (A2 : Option Addr) (c2 : Nat) (x3 : List (List Int)) (A6 : Option Addr) (c6 : Nat) (x4 : Int) (t7 : List Int × Int) (A7 : Option Addr) (c7 : Nat) (t8 : List Int × Int) (A8 : Option Addr) (c8 : Nat) (t9 : List S25 × Int × Int) (A9 : Option Addr) (c9 : Nat) (t10 : List S25 × Int × Int) (A10 : Option Addr) (c10 : Nat) (t11 : Bool) (t12 : Bool) (i : Nat) (u : Nat → Wt) : List (Nat × Value) := foldPut ⟨134, []⟩ [(20, i6 t10.2.2), (19, i6 t10.2.1), (18, .slice A10 t10.1.length c10), (17, i6 t9.2.2), (16, i6 t9.2.1), (15, .slice A9 t9.1.length c9), (14, i6 t8.2), (13, .slice A8 t8.1.length c8), (12, i6 t7.2), (11, .slice A7 t7.1.length c7), (5, pt nx0 0), (7, .bool t1), (8, .slice A2 t2.length c2), (9, .slice A6 x3.length c6), (10, i6 x4)] (O3_51.take i) (((u3d7s t7 A7 c7 t8 A8 c8 t9 A9 c9 t10 A10 c10 t11 t12) u).take i)
theorem u3d7v (a2 : S25) (nx0 : Nat) (t1 : Bool) (x1 : List Int) (A1 : Option Addr) (c1 : Nat) (t2 : List S25) (A2 : Option Addr) (c2 : Nat) (x3 : List (List Int)) (A6 : Option Addr) (c6 : Nat) (x4 : Int) (t7 : List Int × Int) (A7 : Option Addr) (c7 : Nat) (t8 : List Int × Int) (A8 : Option Addr) (c8 : Nat) (t9 : List S25 × Int × Int) (A9 : Option Addr) (c9 : Nat) (t10 : List S25 × Int × Int) (A10 : Option Addr) (c10 : Nat) (t11 : Bool) (t12 : Bool) (u : Nat → Wt) : (u3d7q a2 nx0 t1 x1 A1 c1 t2 A2 c2 x3 A6 c6 x4 t7 A7 c7 t8 A8 c8 t9 A9 c9 t10 A10 c10 t11 t12 u).map (fun x => (x.1, x.2.1)) = some ((u3d7s t7 A7 c7 t8 A8 c8 t9 A9 c9 t10 A10 c10 t11 t12) u, (u3d7f nx0 t1 t2 A2 c2 x3 A6 c6 x4 t7 A7 c7 t8 A8 c8 t9 A9 c9 t10 A10 c10 t11 t12 35) u) := by kernel_rfl
theorem u3d7e (a2 : S25) (nx0 : Nat) (t1 : Bool) (x1 : List Int) (A1 : Option Addr) (c1 : Nat) (t2 : List S25) (A2 : Option Addr) (c2 : Nat) (x3 : List (List Int)) (A6 : Option Addr) (c6 : Nat) (x4 : Int) (t7 : List Int × Int) (A7 : Option Addr) (c7 : Nat) (t8 : List Int × Int) (A8 : Option Addr) (c8 : Nat) (t9 : List S25 × Int × Int) (A9 : Option Addr) (c9 : Nat) (t10 : List S25 × Int × Int) (A10 : Option Addr) (c10 : Nat) (t11 : Bool) (t12 : Bool) (u : Nat → Wt) : (u3d7q a2 nx0 t1 x1 A1 c1 t2 A2 c2 x3 A6 c6 x4 t7 A7 c7 t8 A8 c8 t9 A9 c9 t10 A10 c10 t11 t12 u).map (fun x => x.2.2.map (·.1)) = (u3d7q a2 nx0 t1 x1 A1 c1 t2 A2 c2 x3 A6 c6 x4 t7 A7 c7 t8 A8 c8 t9 A9 c9 t10 A10 c10 t11 t12 u).map (fun x => x.2.2.map (·.2)) := by kernel_rfl
noncomputable def u3d8l (t11 : Bool) : List Ld :=
 [⟨2, fun x => .bool t11, fun x => [], fun x J => True, fun x J J' h f => trivial⟩]
noncomputable def u3d8g  : List (Nat × ((Nat → Wt) → Value)) := [(4, fun u => .bool true)]
noncomputable def u3d8q (a2 : S25) (nx0 : Nat) (t1 : Bool) (x1 : List Int) (A1 : Option Addr) (c1 : Nat) (t2 : List S25) (A2 : Option Addr) (c2 : Nat) (x3 : List (List Int)) (A6 : Option Addr) (c6 : Nat) (x4 : Int) (t7 : List Int × Int) (A7 : Option Addr) (c7 : Nat) (t8 : List Int × Int) (A8 : Option Addr) (c8 : Nat) (t9 : List S25 × Int × Int) (A9 : Option Addr) (c9 : Nat) (t10 : List S25 × Int × Int) (A10 : Option Addr) (c10 : Nat) (t11 : Bool) (u : Nat → Wt) : Option (List Value × List (Nat × Value) × List (Nat × Nat)) := qSim Tryd.prog [] [⟨nx0, [i6 a2.f0, .string a2.f1, .slice A1 x1.length c1], 25⟩] O3_51 ⟨134, []⟩ (Ld.vl (u3d8l t11)) u3d8g u (.no :: .no :: .no :: .no :: .no :: .no :: .no :: .no :: .no :: .no :: .no :: .no :: .no :: .no :: .no :: .no :: .no :: .no :: .no :: .no :: .no :: .no :: .no :: .no :: .no :: .no :: .no :: .no :: .no :: .no :: .no :: .no :: .no :: .no :: .no :: []) 0 (O3_51.take 35) [(20, i6 t10.2.2), (19, i6 t10.2.1), (18, .slice A10 t10.1.length c10), (17, i6 t9.2.2), (16, i6 t9.2.1), (15, .slice A9 t9.1.length c9), (14, i6 t8.2), (13, .slice A8 t8.1.length c8), (12, i6 t7.2), (11, .slice A7 t7.1.length c7), (5, pt nx0 0), (7, .bool t1), (8, .slice A2 t2.length c2), (9, .slice A6 x3.length c6), (10, i6 x4)]
noncomputable def u3d8s (t7 : List Int × Int) (A7 : Option Addr) (c7 : Nat) (t8 : List Int × Int) (A8 : Option Addr) (c8 : Nat) (t11 : Bool) (u : Nat → Wt) : List Value := (.slice A7 t7.1.length c7 :: .slice A8 t8.1.length c8 :: .bool t11 :: .bool (!t11) :: .bool true :: undef :: undef :: undef :: .bool true :: .bool true :: undef :: undef :: undef :: undef :: .bool true :: .bool true :: undef :: undef :: undef :: .bool true :: .bool true :: undef :: undef :: undef :: .bool true :: .bool true :: undef :: undef :: undef :: undef :: undef :: undef :: undef :: undef :: undef :: [])
noncomputable def u3d8f (nx0 : Nat) (t1 : Bool) (t2 : List S25) (A2 : Option Addr) (c2 : Nat) (x3 : List (List Int)) (A6 : Option Addr) (c6 : Nat) (x4 : Int) (t7 : List Int × Int) (A7 : Option Addr) (c7 : Nat) (t8 : List Int × Int) (A8 : Option Addr) (c8 : Nat) (t9 : List S25 × Int × Int) (A9 : Option Addr) (c9 : Nat) (t10 : List S25 × Int × Int) (A10 : Option Addr) (c10 : Nat) (t11 : Bool) (i : Nat) (u : Nat → Wt) : List (Nat × Value) := foldPut ⟨134, []⟩ [(20, i6 t10.2.2), (19, i6 t10.2.1), (18, .slice A10 t10.1.length c10), (17, i6 t9.2.2), (16, i6 t9.2.1), (15, .slice A9 t9.1.length c9), (14, i6 t8.2), (13, .slice A8 t8.1.length c8), (12, i6 t7.2), (11, .slice A7 t7.1.length c7), (5, pt nx0 0), (7, .bool t1), (8, .slice A2 t2.length c2), (9, .slice A6 x3.length c6), (10, i6 x4)] (O3_51.take i) (((u3d8s t7 A7 c7 t8 A8 c8 t11) u).take i)
theorem u3d8v (a2 : S25) (nx0 : Nat) (t1 : Bool) (x1 : List Int) (A1 : Option Addr) (c1 : Nat) (t2 : List S25) (A2 : Option Addr) (c2 : Nat) (x3 : List (List Int)) (A6 : Option Addr) (c6 : Nat) (x4 : Int) (t7 : List Int × Int) (A7 : Option Addr) (c7 : Nat) (t8 : List Int × Int) (A8 : Option Addr) (c8 : Nat) (t9 : List S25 × Int × Int) (A9 : Option Addr) (c9 : Nat) (t10 : List S25 × Int × Int) (A10 : Option Addr) (c10 : Nat) (t11 : Bool) (u : Nat → Wt) : (u3d8q a2 nx0 t1 x1 A1 c1 t2 A2 c2 x3 A6 c6 x4 t7 A7 c7 t8 A8 c8 t9 A9 c9 t10 A10 c10 t11 u).map (fun x => (x.1, x.2.1)) = some ((u3d8s t7 A7 c7 t8 A8 c8 t11) u, (u3d8f nx0 t1 t2 A2 c2 x3 A6 c6 x4 t7 A7 c7 t8 A8 c8 t9 A9 c9 t10 A10 c10 t11 35) u) := by kernel_rfl
theorem u3d8e (a2 : S25) (nx0 : Nat) (t1 : Bool) (x1 : List Int) (A1 : Option Addr) (c1 : Nat) (t2 : List S25) (A2 : Option Addr) (c2 : Nat) (x3 : List (List Int)) (A6 : Option Addr) (c6 : Nat) (x4 : Int) (t7 : List Int × Int) (A7 : Option Addr) (c7 : Nat) (t8 : List Int × Int) (A8 : Option Addr) (c8 : Nat) (t9 : List S25 × Int × Int) (A9 : Option Addr) (c9 : Nat) (t10 : List S25 × Int × Int) (A10 : Option Addr) (c10 : Nat) (t11 : Bool) (u : Nat → Wt) : (u3d8q a2 nx0 t1 x1 A1 c1 t2 A2 c2 x3 A6 c6 x4 t7 A7 c7 t8 A8 c8 t9 A9 c9 t10 A10 c10 t11 u).map (fun x => x.2.2.map (·.1)) = (u3d8q a2 nx0 t1 x1 A1 c1 t2 A2 c2 x3 A6 c6 x4 t7 A7 c7 t8 A8 c8 t9 A9 c9 t10 A10 c10 t11 u).map (fun x => x.2.2.map (·.2)) := by kernel_rfl
theorem armillarylaw28_LedgerMatchesReference.calls (k : Nat) (I0 : Imm) (a0 : List Int) (Ap0 : Option Addr) (cp0 : Nat) (a1 : List S25) (Ap1 : Option Addr) (cp1 : Nat) (a2 : S25) (Ap2_2 : Option Addr) (cp2_2 : Nat) (w : World) (hI : I0.at_ w) (hG : Glob I0) (hlp0 : a0.length ≤ cp0) (hrp0 : Rd (Ty.int .u8) I0 Ap0 a0) (hlp1 : a1.length ≤ cp1) (hrp1 : Rd t25 I0 Ap1 a1) (hlp2_2 : a2.f2.length ≤ cp2_2) (hrp2_2 : Rd (Ty.int .u8) I0 Ap2_2 a2.f2) (r : Bool) (h : armillarylaw28_LedgerMatchesReference.f k a0 a1 a2 = some r) :
  Calls Tryd.prog 3 [.slice Ap0 a0.length cp0, .slice Ap1 a1.length cp1, .agg #[i6 a2.f0, .string a2.f1, .slice Ap2_2 a2.f2.length cp2_2]].toArray w fun e w' => ∃ v, e = .returned v ∧ armillarylaw28_LedgerMatchesReference.Post I0 w r v w' := by
 have H : ((armillarylaw28_sanity.f k ).bind fun t1 => (if (0 : Int) ≤ (iMin (a0.length : Int) 400) then (if (iMin (a0.length : Int) 400) ≤ (a0.length : Int) then ((if (a2.f2.length : Int) > 200 then (if (0 : Int) ≤ (200 : Int) then (if (200 : Int) ≤ (a2.f2.length : Int) then (some (rpart a2.f2 0 (200 : Int))) else none) else none) else (some a2.f2)).bind (armillarylaw28_LedgerMatchesReference.k4 k a0 a1 a2 t1)) else none) else none)) = some r := h
 clear h
 refine calls_body Tryd.func3 (by kernel_rfl) 134 (by kernel_rfl) (by kernel_rfl) ⟨w, fun _ => False, I0⟩ I0 [] [(0, .slice Ap0 a0.length cp0), (1, .slice Ap1 a1.length cp1), (2, .agg #[i6 a2.f0, .string a2.f1, .slice Ap2_2 a2.f2.length cp2_2])] (by kernel_rfl) (Sat.start w _ I0 hI) ?_
 generalize w.heap.size = nx0
 show OK _ K3_0 _ _ _ _ _ _ _ _
 refine OK.sr ?_
 refine RL.spt 2 [(5, pt nx0 0), (0, .slice Ap0 a0.length cp0), (1, .slice Ap1 a1.length cp1)] (nx0 + 1) [⟨nx0, [i6 a2.f0, .string a2.f1, .slice Ap2_2 a2.f2.length cp2_2], 25⟩] ?_
 refine OK.sr ?_
 obtain ⟨t1, hA1, H⟩ := bnd H
 refine RL.callP 11 [] (some 21) (fun w => armillarylaw28_sanity.Post I0 w t1) (by kernel_rfl) (by kernel_rfl) (fun w hs => armillarylaw28_sanity.calls k I0  w hs.im hG t1 hA1) ?_
 rintro w v w' hs ⟨I1, rfl, hg⟩
 have hi1 := hg.le
 refine RL.resume (X' := []) rfl (hs.call hg) ?_
 clear hs hg
 generalize w'.heap.size = nx1
 clear w w'
 refine RL.st 1 [(7, .bool t1), (5, pt nx0 0), (0, .slice Ap0 a0.length cp0), (1, .slice Ap1 a1.length cp1)] ?_
 refine OK.sr ?_
 refine RL.s 4 [(25, i6 (iMin (a0.length : Int) 400)), (22, .slice Ap0 a0.length cp0), (7, .bool t1), (5, pt nx0 0), (0, .slice Ap0 a0.length cp0), (1, .slice Ap1 a1.length cp1)] ?_
 obtain ⟨hs1_1, H⟩ := ifs H
 obtain ⟨hs2_1, H⟩ := ifs H
 refine RL.subH (T := 22) (e := 5) (l := a0) (S := Ap0) (cap := cp0) (hi := iMin (a0.length : Int) 400) 1 .i64 (some 26) (by kernel_rfl) (by kernel_rfl) (by kernel_rfl) (by kernel_rfl) hlp0 hs1_1 hs2_1 (K' := [(26, .slice (slA Ap0 (0 : Int).toNat cp0 1) ((rpart a0 0 (iMin (a0.length : Int) 400)).length) (cp0 - (0 : Int).toNat)), (25, i6 (iMin (a0.length : Int) 400)), (22, .slice Ap0 a0.length cp0), (7, .bool t1), (5, pt nx0 0), (0, .slice Ap0 a0.length cp0), (1, .slice Ap1 a1.length cp1)]) (by kernel_rfl) ?_
 refine RL.st 1 [(0, .slice (slA Ap0 (0 : Int).toNat cp0 1) ((rpart a0 0 (iMin (a0.length : Int) 400)).length) (cp0 - (0 : Int).toNat)), (7, .bool t1), (5, pt nx0 0), (1, .slice Ap1 a1.length cp1)] ?_
 refine OK.sq ?_
 refine OK.sr ?_
 refine RL.simK (K' := [(30, .bool (decide ((a2.f2.length : Int) > 200))), (0, .slice (slA Ap0 (0 : Int).toNat cp0 1) ((rpart a0 0 (iMin (a0.length : Int) 400)).length) (cp0 - (0 : Int).toNat)), (7, .bool t1), (5, pt nx0 0), (1, .slice Ap1 a1.length cp1)]) [] (RFacts.nil _ _ _) 4 [.no, .l 0, .no, .no] (by kernel_rfl) (by kernel_rfl) ?_
 refine RL.nt ?_
 refine OK.join (fun K' I' _ L' X' => ∃ (x1 : List Int) (A1 : Option Addr) (c1 : Nat), K' = [(0, .slice (slA Ap0 (0 : Int).toNat cp0 1) ((rpart a0 0 (iMin (a0.length : Int) 400)).length) (cp0 - (0 : Int).toNat)), (1, .slice Ap1 a1.length cp1), (5, pt nx0 0), (7, .bool t1)] ∧ L' = [⟨nx0, [i6 a2.f0, .string a2.f1, .slice A1 x1.length c1], 25⟩] ∧ X' = [] ∧ Imm.le I1 I' ∧ x1.length ≤ c1 ∧ Rd (Ty.int .u8) I' A1 x1 ∧ armillarylaw28_LedgerMatchesReference.k4 k a0 a1 a2 t1 x1 = some r) ?_ ?_
 ·rintro _ I2 nx2 _ _ ⟨x1, A1, c1, rfl, rfl, rfl, hi2, hl1, hr1, H⟩
  rw [armillarylaw28_LedgerMatchesReference.k4] at H
  refine QN.then_ ?_
  refine OK.sr ?_
  refine RL.s 1 [(35, .slice Ap1 a1.length cp1), (0, .slice (slA Ap0 (0 : Int).toNat cp0 1) ((rpart a0 0 (iMin (a0.length : Int) 400)).length) (cp0 - (0 : Int).toNat)), (5, pt nx0 0), (7, .bool t1)] ?_
  obtain ⟨t2, hA2, H⟩ := bnd H
  refine RL.callP 12 [.slice Ap1 a1.length cp1, i6 6] (some 36) (fun w => armillaryref28_Made.Post I2 w t2) (by kernel_rfl) (by kernel_rfl) (fun w hs => armillaryref28_Made.calls k I2 a1 Ap1 cp1 6 w hs.im hlp1 (Rd.ext (Imm.le_trans hi1 hi2) hrp1) t2 hA2) ?_
  rintro w v w' hs ⟨I3, A2, c2, cs1, rfl, hg, hp1⟩
  have hi3 := hg.le
  refine RL.resume (X' := [orow 25 3 A2 t2.length c2 cs1]) rfl (hs.call hg) ?_
  clear hs hg
  generalize w'.heap.size = nx3
  clear w w'
  refine RL.st 1 [(8, .slice A2 t2.length c2), (0, .slice (slA Ap0 (0 : Int).toNat cp0 1) ((rpart a0 0 (iMin (a0.length : Int) 400)).length) (cp0 - (0 : Int).toNat)), (5, pt nx0 0), (7, .bool t1)] ?_
  refine OK.sr ?_
  refine RL.s 2 [(38, .slice A2 t2.length c2), (37, .slice (slA Ap0 (0 : Int).toNat cp0 1) ((rpart a0 0 (iMin (a0.length : Int) 400)).length) (cp0 - (0 : Int).toNat)), (8, .slice A2 t2.length c2), (0, .slice (slA Ap0 (0 : Int).toNat cp0 1) ((rpart a0 0 (iMin (a0.length : Int) 400)).length) (cp0 - (0 : Int).toNat)), (5, pt nx0 0), (7, .bool t1)] ?_
  refine RL.freeze (e := 25) (sz := 3) (S := A2) (n := t2.length) (cap := c2) 0 (by kernel_rfl) hp1 rfl (fun I4 hi4 hl2 hr2 => ?_)
  skip
  obtain ⟨t3, hA3, H⟩ := bnd H
  refine RL.callP 13 [.slice A2 t2.length c2] (some 39) (fun w => armillaryref28_Log.Post I4 w t3) (by kernel_rfl) (by kernel_rfl) (fun w hs => armillaryref28_Log.calls k I4 t2 A2 c2 w hs.im hl2 hr2 t3 hA3) ?_
  rintro w v w' hs ⟨I5, A3, c3, cs2, rfl, hg, hp2⟩
  have hi5 := hg.le
  refine RL.resume (X' := [orow 5 1 A3 t3.length c3 cs2]) rfl (hs.call hg) ?_
  clear hs hg
  generalize w'.heap.size = nx4
  clear w w'
  refine RL.s 1 [(40, .slice A2 t2.length c2), (39, .slice A3 t3.length c3), (37, .slice (slA Ap0 (0 : Int).toNat cp0 1) ((rpart a0 0 (iMin (a0.length : Int) 400)).length) (cp0 - (0 : Int).toNat)), (8, .slice A2 t2.length c2), (0, .slice (slA Ap0 (0 : Int).toNat cp0 1) ((rpart a0 0 (iMin (a0.length : Int) 400)).length) (cp0 - (0 : Int).toNat)), (5, pt nx0 0), (7, .bool t1)] ?_
  obtain ⟨t4, hA4, H⟩ := bnd H
  refine RL.callP 13 [.slice A2 t2.length c2] (some 41) (fun w => armillaryref28_Log.Post I5 w t4) (by kernel_rfl) (by kernel_rfl) (fun w hs => armillaryref28_Log.calls k I5 t2 A2 c2 w hs.im hl2 (Rd.ext hi5 hr2) t4 hA4) ?_
  rintro w v w' hs ⟨I6, A4, c4, cs3, rfl, hg, hp3⟩
  have hi6 := hg.le
  refine RL.resume (X' := [orow 5 1 A3 t3.length c3 cs2, orow 5 1 A4 t4.length c4 cs3]) rfl (hs.call hg) ?_
  clear hs hg
  generalize w'.heap.size = nx5
  clear w w'
  refine RL.s 1 [(42, .slice (slA Ap0 (0 : Int).toNat cp0 1) ((rpart a0 0 (iMin (a0.length : Int) 400)).length) (cp0 - (0 : Int).toNat)), (41, .slice A4 t4.length c4), (39, .slice A3 t3.length c3), (37, .slice (slA Ap0 (0 : Int).toNat cp0 1) ((rpart a0 0 (iMin (a0.length : Int) 400)).length) (cp0 - (0 : Int).toNat)), (8, .slice A2 t2.length c2), (5, pt nx0 0), (7, .bool t1)] ?_
  obtain ⟨hz1, H⟩ := ifs H
  refine RL.appendR (T := 22) (e := 5) (S := A4) (S2 := (slA Ap0 (0 : Int).toNat cp0 1)) 1 1 22 c4 (cp0 - (0 : Int).toNat) cs3 (Ty.int .u8) t4 (rpart a0 0 (iMin (a0.length : Int) 400)) 1 (some 43) (by kernel_rfl) (by kernel_rfl) (by kernel_rfl) (by kernel_rfl) (by kernel_rfl) (by decide) (by kernel_rfl) hp3 (Rd.ext (Imm.le_trans (Imm.le_trans (Imm.le_trans (Imm.le_trans hi2 hi3) hi4) hi5) hi6) (rd_sub (Rd.ext hi1 hrp0) hlp0 (Int.le_refl 0) hs1_1 hs2_1)) hz1 (by omega) (fun A5 c5 nx6 cs4 hp4 => ?_)
  refine RL.sub (K' := [(43, .slice A5 ((t4 ++ (rpart a0 0 (iMin (a0.length : Int) 400))).length) c5), (42, .slice (slA Ap0 (0 : Int).toNat cp0 1) ((rpart a0 0 (iMin (a0.length : Int) 400)).length) (cp0 - (0 : Int).toNat)), (39, .slice A3 t3.length c3), (37, .slice (slA Ap0 (0 : Int).toNat cp0 1) ((rpart a0 0 (iMin (a0.length : Int) 400)).length) (cp0 - (0 : Int).toNat)), (8, .slice A2 t2.length c2), (5, pt nx0 0), (7, .bool t1)]) (L' := [⟨nx0, [i6 a2.f0, .string a2.f1, .slice A1 x1.length c1], 25⟩]) (X' := [orow 5 1 A3 t3.length c3 cs2, orow 5 1 A5 ((t4 ++ (rpart a0 0 (iMin (a0.length : Int) 400))).length) c5 cs4]) (by kernel_rfl) (.refl _) (.refl _) ?_
  refine RL.spt 2 [(9, .slice (some ⟨nx6, 0, none⟩) 3 3), (8, .slice A2 t2.length c2), (5, pt nx0 0), (7, .bool t1)] (nx6 + 1) [⟨nx0, [i6 a2.f0, .string a2.f1, .slice A1 x1.length c1], 25⟩, ⟨nx6, [.slice (slA Ap0 (0 : Int).toNat cp0 1) ((rpart a0 0 (iMin (a0.length : Int) 400)).length) (cp0 - (0 : Int).toNat), .slice A3 t3.length c3, .slice A5 ((t4 ++ (rpart a0 0 (iMin (a0.length : Int) 400))).length) c5], 22⟩] ?_
  refine OK.sq ?_
  refine OK.sr ?_
  refine RL.st 1 [(10, i6 0), (9, .slice (some ⟨nx6, 0, none⟩) 3 3), (8, .slice A2 t2.length c2), (5, pt nx0 0), (7, .bool t1)] ?_
  refine OK.join (fun K' I' _ L' X' => K' = [(7, .bool t1), (8, .slice A2 t2.length c2)] ∧ L' = [⟨nx0, [i6 a2.f0, .string a2.f1, .slice A1 x1.length c1], 25⟩] ∧ X' = [] ∧ Imm.le I6 I' ∧ armillarylaw28_LedgerMatchesReference.k2 k t1 t2 (Sum.inl ()) = some r) ?_ ?_
  ·rintro _ I7 nx7 _ _ ⟨rfl, rfl, rfl, hi7, H⟩
   rw [armillarylaw28_LedgerMatchesReference.k2] at H
   refine QN.then_ ?_
   refine OK.sq ?_
   refine OK.join (fun K' I' _ L' X' => ∃ (x2 : Bool), K' = [(6, .bool x2)] ∧ L' = [⟨nx0, [i6 a2.f0, .string a2.f1, .slice A1 x1.length c1], 25⟩] ∧ X' = [] ∧ Imm.le I7 I' ∧ armillarylaw28_LedgerMatchesReference.k1 x2 = some r) ?_ ?_
   ·rintro _ I8 nx8 _ _ ⟨x2, rfl, rfl, rfl, hi8, H⟩
    rw [armillarylaw28_LedgerMatchesReference.k1] at H
    refine QN.then_ ?_
    refine OK.re ?_
    obtain rfl := Option.some.inj H
    refine QN.body rfl [] (RFacts.nil _ _ _) (.no) (.bool x2) (by kernel_rfl) (by kernel_rfl) (by kernel_rfl) ?_ _ (.inr rfl)
    exact fun w' hs' => ⟨_, rfl, I8, rfl, hs'.got _ .slnil⟩
   ·intro Q_1 hJ3 hQ3
    obtain ⟨y3, H, HK3⟩ := bnd H
    refine OK.rg ?_
    refine RL.s 1 [(126, .slice A2 t2.length c2), (7, .bool t1), (8, .slice A2 t2.length c2)] ?_
    obtain ⟨t5, hA5, H⟩ := bnd H
    refine RL.callP 22 [.slice A2 t2.length c2] (some 127) (fun w => ledger_ChainHash.Post I7 w t5) (by kernel_rfl) (by kernel_rfl) (fun w hs => ledger_ChainHash.calls k I7 t2 A2 c2 w hs.im hl2 (Rd.ext (Imm.le_trans (Imm.le_trans hi5 hi6) hi7) hr2) t5 hA5) ?_
    rintro w v w' hs ⟨I9, rfl, hg⟩
    have hi9 := hg.le
    refine RL.resume (X' := []) rfl (hs.call hg) ?_
    clear hs hg
    generalize w'.heap.size = nx9
    clear w w'
    refine RL.s 1 [(128, .slice A2 t2.length c2), (127, .int .u32 t5), (7, .bool t1)] ?_
    obtain ⟨t6, hA6, H⟩ := bnd H
    refine RL.callP 23 [.slice A2 t2.length c2] (some 129) (fun w => armillaryref28_ChainHash.Post I9 w t6) (by kernel_rfl) (by kernel_rfl) (fun w hs => armillaryref28_ChainHash.calls k I9 t2 A2 c2 w hs.im hl2 (Rd.ext (Imm.le_trans (Imm.le_trans (Imm.le_trans hi5 hi6) hi7) hi9) hr2) t6 hA6) ?_
    rintro w v w' hs ⟨I10, rfl, hg⟩
    have hi10 := hg.le
    refine RL.resume (X' := []) rfl (hs.call hg) ?_
    clear hs hg
    generalize w'.heap.size = nx10
    clear w w'
    refine RL.s 2 [(131, .bool (t5 == t6)), (7, .bool t1)] ?_
    refine RL.cases (t5 == t6) (fun hb => ?_) (fun hb => ?_)
    ·have hc := (beq_iff_eq.1 hb)
     rw [hb]
     rw [if_pos hc] at H; clear hb
     refine RL.s 3 [(6, .bool t1)] ?_
     refine RL.nil (by kernel_rfl) ?_
     obtain rfl := Option.some.inj H
     exact QN.sb (hJ3 _ _ _ _ _ ⟨t1, rfl, rfl, rfl, (Imm.le_trans hi9 hi10), HK3⟩) (.cons_cons _ .slnil) (.refl _)
    ·have hc := (beq_eq_false_iff_ne.1 hb)
     rw [hb]
     rw [if_neg hc] at H; clear hb
     refine RL.s 3 [(6, .bool false)] ?_
     refine RL.nil (by kernel_rfl) ?_
     obtain rfl := Option.some.inj H
     exact QN.sb (hJ3 _ _ _ _ _ ⟨false, rfl, rfl, rfl, (Imm.le_trans hi9 hi10), HK3⟩) (.cons_cons _ .slnil) (.refl _)
  ·intro Q_2 hJ2 hQ2
   obtain ⟨y2, H, HK2⟩ := bnd H
   refine OK.bk 0 ?_
   refine OK.freeze (e := 5) (sz := 1) (S := A3) (n := t3.length) (cap := c3) 0 (by kernel_rfl) (Reps.ext hi6 hp2) rfl (fun I24 hi24 hl5 hr5 => ?_)
   skip
   refine OK.freeze (e := 5) (sz := 1) (S := A5) (n := (t4 ++ (rpart a0 0 (iMin (a0.length : Int) 400))).length) (cap := c5) 0 (by kernel_rfl) (Reps.ext hi24 hp4) rfl (fun I25 hi25 hl6 hr6 => ?_)
   skip
   refine OK.freezeL (d := (Ty.slice (Ty.int .u8))) (l := [rpart a0 0 (iMin (a0.length : Int) 400), t3, (t4 ++ (rpart a0 0 (iMin (a0.length : Int) 400)))]) (b := ⟨nx6, [.slice (slA Ap0 (0 : Int).toNat cp0 1) ((rpart a0 0 (iMin (a0.length : Int) 400)).length) (cp0 - (0 : Int).toNat), .slice A3 t3.length c3, .slice A5 ((t4 ++ (rpart a0 0 (iMin (a0.length : Int) 400))).length) c5], 22⟩) 1 (by kernel_rfl) ⟨_, _, rfl, ⟨_, _, rfl, (part_le hlp0 (Int.le_refl 0) hs1_1 hs2_1), (Rd.ext (Imm.le_trans (Imm.le_trans (Imm.le_trans (Imm.le_trans (Imm.le_trans (Imm.le_trans hi2 hi3) hi4) hi5) hi6) hi24) hi25) (rd_sub (Rd.ext hi1 hrp0) hlp0 (Int.le_refl 0) hs1_1 hs2_1))⟩, ⟨_, _, rfl, ⟨_, _, rfl, hl5, (Rd.ext hi25 hr5)⟩, ⟨_, _, rfl, ⟨_, _, rfl, hl6, hr6⟩, rfl⟩⟩⟩ (Nat.le_of_ble_eq_true rfl) (fun I26 hi26 hr7 => ?_)
   refine OK.sub (K' := [(5, pt nx0 0), (7, .bool t1), (8, .slice A2 t2.length c2), (9, .slice (some ⟨nx6, 0, none⟩) 3 3), (10, i6 0)]) (L' := [⟨nx0, [i6 a2.f0, .string a2.f1, .slice A1 x1.length c1], 25⟩]) (by kernel_rfl) (.cons_cons _ .slnil) (.refl _) ?_
   refine OK.lp (fun n_ K' I' _ L' X' => ∃ (x3 : List (List Int)) (x4 : Int) (A6 : Option Addr) (c6 : Nat), K' = [(5, pt nx0 0), (7, .bool t1), (8, .slice A2 t2.length c2), (9, .slice A6 x3.length c6), (10, i6 x4)] ∧ L' = [⟨nx0, [i6 a2.f0, .string a2.f1, .slice A1 x1.length c1], 25⟩] ∧ X' = [] ∧ Imm.le I6 I' ∧ x3.length ≤ c6 ∧ Rd (Ty.slice (Ty.int .u8)) I' A6 x3 ∧ armillarylaw28_LedgerMatchesReference.l1 a2 x1 n_ x3 x4 = some y2) k ⟨[rpart a0 0 (iMin (a0.length : Int) 400), t3, (t4 ++ (rpart a0 0 (iMin (a0.length : Int) 400)))], 0, (some ⟨nx6, 0, none⟩), 3, rfl, rfl, rfl, (Imm.le_trans (Imm.le_trans hi24 hi25) hi26), (Nat.le_of_ble_eq_true rfl), hr7, H⟩ ?_ ?_
   ·rintro _ _ _ _ _ ⟨x3, x4, A6, c6, rfl, rfl, rfl, _, hl3, hr3, H⟩
    cases H
   ·rintro kq1 _ I11 nx11 _ _ ⟨x3, x4, A6, c6, rfl, rfl, rfl, hi11, hl3, hr3, H⟩ Q_l1 hJ4 hQ4
    rw [armillarylaw28_LedgerMatchesReference.l1] at H
    refine OK.sq ?_
    refine OK.sr ?_
    refine RL.st 4 [(48, .bool (decide (x4 < (x3.length : Int)))), (5, pt nx0 0), (7, .bool t1), (8, .slice A2 t2.length c2), (9, .slice A6 x3.length c6), (10, i6 x4)] ?_
    refine OK.cd (decide (x4 < (x3.length : Int))) (fun hb => ?_) (fun hb => ?_)
    ·skip
     have hc := (of_decide_eq_true hb)
     rw [if_pos hc] at H
     clear hb
     refine OK.skt ?_
     refine OK.sq ?_
     refine OK.bk 1 ?_
     refine OK.sq ?_
     obtain ⟨hi0_1, H⟩ := ifs H
     obtain ⟨hi1_1, H⟩ := ifs H
     obtain ⟨g1_, o1_, hA1_, A1_, c1_, hl1_, hr1_, hc1_⟩ := Ty.slice_at hr3 x4 hi0_1 hi1_1
     obtain ⟨t7, hA7, H⟩ := bnd H
     refine OK.drawnC 10 10 O3_39 a3_39n (by kernel_rfl) (by kernel_rfl) (u3d1l t7) (u3d1g x4 g1_ o1_) [(⟨g1_, o1_ + (x4).toNat * 1, none⟩, .slice A1_ ((x3.getD (x4).toNat []).length) c1_)] (RI.cons (hc1_ 0 _ rfl) (RI.nil _)) [.no, .no, .no, .r 0, .l 0, .no, .no, .no, .no, .no] a3_39 a3_39o (by kernel_rfl) (by kernel_rfl) (u3d1s a2 x1 A1 c1 x3 A6 c6 x4 A1_ c1_ g1_ o1_ t7) (u3d1f a2 nx0 t1 x1 A1 c1 t2 A2 c2 x3 A6 c6 x4 A1_ c1_ g1_ o1_ t7 10) (u3d1v a2 nx0 t1 x1 A1 c1 t2 A2 c2 x3 A6 c6 x4 A1_ c1_ g1_ o1_ t7) (u3d1e a2 nx0 t1 x1 A1 c1 t2 A2 c2 x3 A6 c6 x4 A1_ c1_ g1_ o1_ t7) [u3d1f a2 nx0 t1 x1 A1 c1 t2 A2 c2 x3 A6 c6 x4 A1_ c1_ g1_ o1_ t7 5] (framesOk.cons (fun u => rfl) framesOk.nil) ?_ [u3d1f a2 nx0 t1 x1 A1 c1 t2 A2 c2 x3 A6 c6 x4 A1_ c1_ g1_ o1_ t7 2] (framesOk.cons (fun u => rfl) framesOk.nil) ?_ ?_
     ·refine LoudsG.cons ?_ (LoudsG.nil)
      ·intro D u J w hp hJ hs hF
       refine Does.call 14 [.slice A1_ ((x3.getD (x4).toNat []).length) c1_, .agg #[i6 a2.f0, .string a2.f1, .slice A1 x1.length c1]] (by kernel_rfl) ((ledger_Append.calls kq1 J (x3.getD (x4).toNat []) A1_ c1_ (⟨a2.f0, a2.f1, x1⟩ : S25) A1 c1 w hs.im hl1_ (Rd.ext hJ hr1_) hl1 (Rd.ext (Imm.le_trans (Imm.le_trans (Imm.le_trans (Imm.le_trans (Imm.le_trans hi3 hi4) hi5) hi6) hi11) hJ) hr1) t7 hA7).mono ?_)
       rintro e w' ⟨v, rfl, J2, A0_, c0_, cs0_, rfl, hg, hp0_⟩
       exact ⟨_, rfl, fun _ => (A0_, c0_, cs0_), J2, rfl, hg, hp0_, trivial⟩
     ·refine Givens.cons (fun u w =>  ?_) (fun _ _ _ => rfl) (Givens.nil)
      ·exact giv_idx (T := 29) (e := 22) 1 .i64 x4 hA1_ x3.length c6 (by kernel_rfl) (by kernel_rfl) (by kernel_rfl) hi0_1 hi1_1 w
     intro u I12 nx12 hi12 hF
     have hf1 := ((hF.1 rfl).1)
     clear hF
     refine RL.norm (K' := [(11, .slice ((u 5 0).1) t7.1.length ((u 5 0).2.1)), (59, i6 t7.2), (58, .slice ((u 5 0).1) t7.1.length ((u 5 0).2.1)), (51, .tuple #[.slice ((u 5 0).1) t7.1.length ((u 5 0).2.1), i6 t7.2]), (57, .tuple #[.slice ((u 5 0).1) t7.1.length ((u 5 0).2.1), i6 t7.2]), (56, .agg #[i6 a2.f0, .string a2.f1, .slice A1 x1.length c1]), (55, .slice A1_ ((x3.getD (x4).toNat []).length) c1_), (54, pt g1_ (o1_ + (x4).toNat * 1)), (53, i6 x4), (52, .slice A6 x3.length c6), (48, .bool (decide (x4 < (x3.length : Int)))), (5, pt nx0 0), (7, .bool t1), (8, .slice A2 t2.length c2), (9, .slice A6 x3.length c6), (10, i6 x4)]) (X' := [orow 5 1 (u 5 0).1 t7.1.length (u 5 0).2.1 (u 5 0).2.2]) (by kernel_rfl) rfl rfl rfl ?_
     revert hf1
     generalize (u 5 0).1 = A7
     generalize (u 5 0).2.1 = c7
     generalize (u 5 0).2.2 = cs5
     intro hf1
     clear u
     refine RL.st 1 [(12, i6 t7.2), (11, .slice A7 t7.1.length c7), (5, pt nx0 0), (7, .bool t1), (8, .slice A2 t2.length c2), (9, .slice A6 x3.length c6), (10, i6 x4)] ?_
     refine OK.sq ?_
     obtain ⟨hi0_2, H⟩ := ifs H
     obtain ⟨hi1_2, H⟩ := ifs H
     obtain ⟨g2_, o2_, hA2_, A2_, c2_, hl2_, hr2_, hc2_⟩ := Ty.slice_at (Rd.ext hi12 hr3) x4 hi0_2 hi1_2
     obtain ⟨t8, hA8, H⟩ := bnd H
     refine OK.drawnC 11 10 O3_42 a3_42n (by kernel_rfl) (by kernel_rfl) (u3d2l t8) (u3d2g x4 g2_ o2_) [(⟨g2_, o2_ + (x4).toNat * 1, none⟩, .slice A2_ ((x3.getD (x4).toNat []).length) c2_)] (RI.cons (hc2_ 0 _ rfl) (RI.nil _)) [.no, .no, .no, .r 0, .l 0, .no, .no, .no, .no, .no] a3_42 a3_42o (by kernel_rfl) (by kernel_rfl) (u3d2s a2 x1 A1 c1 x3 A6 c6 x4 A2_ c2_ g2_ o2_ t8) (u3d2f a2 nx0 t1 x1 A1 c1 t2 A2 c2 x3 A6 c6 x4 t7 A7 c7 A2_ c2_ g2_ o2_ t8 10) (u3d2v a2 nx0 t1 x1 A1 c1 t2 A2 c2 x3 A6 c6 x4 t7 A7 c7 A2_ c2_ g2_ o2_ t8) (u3d2e a2 nx0 t1 x1 A1 c1 t2 A2 c2 x3 A6 c6 x4 t7 A7 c7 A2_ c2_ g2_ o2_ t8) [u3d2f a2 nx0 t1 x1 A1 c1 t2 A2 c2 x3 A6 c6 x4 t7 A7 c7 A2_ c2_ g2_ o2_ t8 5] (framesOk.cons (fun u => rfl) framesOk.nil) ?_ [u3d2f a2 nx0 t1 x1 A1 c1 t2 A2 c2 x3 A6 c6 x4 t7 A7 c7 A2_ c2_ g2_ o2_ t8 2] (framesOk.cons (fun u => rfl) framesOk.nil) ?_ ?_
     ·refine LoudsG.cons ?_ (LoudsG.nil)
      ·intro D u J w hp hJ hs hF
       refine Does.call 15 [.slice A2_ ((x3.getD (x4).toNat []).length) c2_, .agg #[i6 a2.f0, .string a2.f1, .slice A1 x1.length c1]] (by kernel_rfl) ((armillaryref28_Append.calls kq1 J (x3.getD (x4).toNat []) A2_ c2_ (⟨a2.f0, a2.f1, x1⟩ : S25) A1 c1 w hs.im hl2_ (Rd.ext hJ hr2_) hl1 (Rd.ext (Imm.le_trans (Imm.le_trans (Imm.le_trans (Imm.le_trans (Imm.le_trans (Imm.le_trans hi3 hi4) hi5) hi6) hi11) hi12) hJ) hr1) t8 hA8).mono ?_)
       rintro e w' ⟨v, rfl, J2, A0_, c0_, cs0_, rfl, hg, hp0_⟩
       exact ⟨_, rfl, fun _ => (A0_, c0_, cs0_), J2, rfl, hg, hp0_, trivial⟩
     ·refine Givens.cons (fun u w =>  ?_) (fun _ _ _ => rfl) (Givens.nil)
      ·exact giv_idx (T := 29) (e := 22) 1 .i64 x4 hA2_ x3.length c6 (by kernel_rfl) (by kernel_rfl) (by kernel_rfl) hi0_2 hi1_2 w
     intro u I13 nx13 hi13 hF
     have hf2 := ((hF.1 rfl).1)
     clear hF
     refine RL.norm (K' := [(13, .slice ((u 5 0).1) t8.1.length ((u 5 0).2.1)), (68, i6 t8.2), (67, .slice ((u 5 0).1) t8.1.length ((u 5 0).2.1)), (60, .tuple #[.slice ((u 5 0).1) t8.1.length ((u 5 0).2.1), i6 t8.2]), (66, .tuple #[.slice ((u 5 0).1) t8.1.length ((u 5 0).2.1), i6 t8.2]), (65, .agg #[i6 a2.f0, .string a2.f1, .slice A1 x1.length c1]), (64, .slice A2_ ((x3.getD (x4).toNat []).length) c2_), (63, pt g2_ (o2_ + (x4).toNat * 1)), (62, i6 x4), (61, .slice A6 x3.length c6), (12, i6 t7.2), (11, .slice A7 t7.1.length c7), (5, pt nx0 0), (7, .bool t1), (8, .slice A2 t2.length c2), (9, .slice A6 x3.length c6), (10, i6 x4)]) (X' := [orow 5 1 A7 t7.1.length c7 cs5, orow 5 1 (u 5 0).1 t8.1.length (u 5 0).2.1 (u 5 0).2.2]) (by kernel_rfl) rfl rfl rfl ?_
     revert hf2
     generalize (u 5 0).1 = A8
     generalize (u 5 0).2.1 = c8
     generalize (u 5 0).2.2 = cs6
     intro hf2
     clear u
     refine RL.st 1 [(14, i6 t8.2), (13, .slice A8 t8.1.length c8), (12, i6 t7.2), (11, .slice A7 t7.1.length c7), (5, pt nx0 0), (7, .bool t1), (8, .slice A2 t2.length c2), (9, .slice A6 x3.length c6), (10, i6 x4)] ?_
     refine OK.sr ?_
     refine RL.s 2 [(71, i6 x4), (70, .slice A6 x3.length c6), (14, i6 t8.2), (13, .slice A8 t8.1.length c8), (12, i6 t7.2), (11, .slice A7 t7.1.length c7), (5, pt nx0 0), (7, .bool t1), (8, .slice A2 t2.length c2), (9, .slice A6 x3.length c6), (10, i6 x4)] ?_
     obtain ⟨hib0, H⟩ := ifs H
     obtain ⟨hib1, H⟩ := ifs H
     obtain ⟨g3_, o3_, hA3_, A3_, c3_, hl3_, hr3_, hc3_⟩ := Ty.slice_at (Rd.ext (Imm.le_trans hi12 hi13) hr3) x4 hib0 hib1
     refine RL.idx 1 .i64 x4 hA3_ x3.length c6 (some 72) (by kernel_rfl) (by kernel_rfl) (T := 29) (e := 22) (by kernel_rfl) (by kernel_rfl) hib0 hib1 (K' := [(72, pt g3_ (o3_ + (x4).toNat * 1)), (71, i6 x4), (70, .slice A6 x3.length c6), (14, i6 t8.2), (13, .slice A8 t8.1.length c8), (12, i6 t7.2), (11, .slice A7 t7.1.length c7), (5, pt nx0 0), (7, .bool t1), (8, .slice A2 t2.length c2), (9, .slice A6 x3.length c6), (10, i6 x4)]) (by kernel_rfl) ?_
     refine RL.simK (K' := [(73, .slice A3_ ((x3.getD (x4).toNat []).length) c3_), (14, i6 t8.2), (13, .slice A8 t8.1.length c8), (12, i6 t7.2), (11, .slice A7 t7.1.length c7), (5, pt nx0 0), (7, .bool t1), (8, .slice A2 t2.length c2), (9, .slice A6 x3.length c6), (10, i6 x4)]) [(⟨g3_, o3_ + (x4).toNat * 1, none⟩, .slice A3_ ((x3.getD (x4).toNat []).length) c3_)] (RFacts.imm (hc3_ 0 _ rfl) (RFacts.nil _ _ _)) 1 [.r 0] (by kernel_rfl) (by kernel_rfl) ?_
     obtain ⟨t9, hA9, H⟩ := bnd H
     refine RL.callP 16 [.slice A3_ ((x3.getD (x4).toNat []).length) c3_] (some 74) (fun w => ledger_Scan.Post I13 w t9) (by kernel_rfl) (by kernel_rfl) (fun w hs => ledger_Scan.calls kq1 I13 (x3.getD (x4).toNat []) A3_ c3_ w hs.im (Glob.ext (Imm.le_trans (Imm.le_trans (Imm.le_trans (Imm.le_trans (Imm.le_trans (Imm.le_trans (Imm.le_trans (Imm.le_trans hi1 hi2) hi3) hi4) hi5) hi6) hi11) hi12) hi13) hG) hl3_ hr3_ t9 hA9) ?_
     rintro w v w' hs ⟨I14, A9, c9, cs7, rfl, hg, hp5⟩
     have hi14 := hg.le
     refine RL.resume (X' := [orow 5 1 A7 t7.1.length c7 cs5, orow 5 1 A8 t8.1.length c8 cs6, orow 25 3 A9 t9.1.length c9 cs7]) rfl (hs.call hg) ?_
     clear hs hg
     generalize w'.heap.size = nx14
     clear w w'
     refine RL.st 7 [(17, i6 t9.2.2), (16, i6 t9.2.1), (15, .slice A9 t9.1.length c9), (14, i6 t8.2), (13, .slice A8 t8.1.length c8), (12, i6 t7.2), (11, .slice A7 t7.1.length c7), (5, pt nx0 0), (7, .bool t1), (8, .slice A2 t2.length c2), (9, .slice A6 x3.length c6), (10, i6 x4)] ?_
     refine OK.sr ?_
     refine RL.s 2 [(80, i6 x4), (79, .slice A6 x3.length c6), (17, i6 t9.2.2), (16, i6 t9.2.1), (15, .slice A9 t9.1.length c9), (14, i6 t8.2), (13, .slice A8 t8.1.length c8), (12, i6 t7.2), (11, .slice A7 t7.1.length c7), (5, pt nx0 0), (7, .bool t1), (8, .slice A2 t2.length c2), (9, .slice A6 x3.length c6), (10, i6 x4)] ?_
     obtain ⟨hib0, H⟩ := ifs H
     obtain ⟨hib1, H⟩ := ifs H
     obtain ⟨g4_, o4_, hA4_, A4_, c4_, hl4_, hr4_, hc4_⟩ := Ty.slice_at (Rd.ext (Imm.le_trans (Imm.le_trans hi12 hi13) hi14) hr3) x4 hib0 hib1
     refine RL.idx 1 .i64 x4 hA4_ x3.length c6 (some 81) (by kernel_rfl) (by kernel_rfl) (T := 29) (e := 22) (by kernel_rfl) (by kernel_rfl) hib0 hib1 (K' := [(81, pt g4_ (o4_ + (x4).toNat * 1)), (80, i6 x4), (79, .slice A6 x3.length c6), (17, i6 t9.2.2), (16, i6 t9.2.1), (15, .slice A9 t9.1.length c9), (14, i6 t8.2), (13, .slice A8 t8.1.length c8), (12, i6 t7.2), (11, .slice A7 t7.1.length c7), (5, pt nx0 0), (7, .bool t1), (8, .slice A2 t2.length c2), (9, .slice A6 x3.length c6), (10, i6 x4)]) (by kernel_rfl) ?_
     refine RL.simK (K' := [(82, .slice A4_ ((x3.getD (x4).toNat []).length) c4_), (17, i6 t9.2.2), (16, i6 t9.2.1), (15, .slice A9 t9.1.length c9), (14, i6 t8.2), (13, .slice A8 t8.1.length c8), (12, i6 t7.2), (11, .slice A7 t7.1.length c7), (5, pt nx0 0), (7, .bool t1), (8, .slice A2 t2.length c2), (9, .slice A6 x3.length c6), (10, i6 x4)]) [(⟨g4_, o4_ + (x4).toNat * 1, none⟩, .slice A4_ ((x3.getD (x4).toNat []).length) c4_)] (RFacts.imm (hc4_ 0 _ rfl) (RFacts.nil _ _ _)) 1 [.r 0] (by kernel_rfl) (by kernel_rfl) ?_
     obtain ⟨t10, hA10, H⟩ := bnd H
     refine RL.callP 17 [.slice A4_ ((x3.getD (x4).toNat []).length) c4_] (some 83) (fun w => armillaryref28_Scan.Post I14 w t10) (by kernel_rfl) (by kernel_rfl) (fun w hs => armillaryref28_Scan.calls kq1 I14 (x3.getD (x4).toNat []) A4_ c4_ w hs.im hl4_ hr4_ t10 hA10) ?_
     rintro w v w' hs ⟨I15, A10, c10, cs8, rfl, hg, hp6⟩
     have hi15 := hg.le
     refine RL.resume (X' := [orow 5 1 A7 t7.1.length c7 cs5, orow 5 1 A8 t8.1.length c8 cs6, orow 25 3 A9 t9.1.length c9 cs7, orow 25 3 A10 t10.1.length c10 cs8]) rfl (hs.call hg) ?_
     clear hs hg
     generalize w'.heap.size = nx15
     clear w w'
     refine RL.st 7 [(20, i6 t10.2.2), (19, i6 t10.2.1), (18, .slice A10 t10.1.length c10), (17, i6 t9.2.2), (16, i6 t9.2.1), (15, .slice A9 t9.1.length c9), (14, i6 t8.2), (13, .slice A8 t8.1.length c8), (12, i6 t7.2), (11, .slice A7 t7.1.length c7), (5, pt nx0 0), (7, .bool t1), (8, .slice A2 t2.length c2), (9, .slice A6 x3.length c6), (10, i6 x4)] ?_
     refine OK.sq ?_
     refine OK.join (fun K' I' _ L' X' => ∃ (x5 : Bool), K' = [(5, pt nx0 0), (7, .bool t1), (8, .slice A2 t2.length c2), (9, .slice A6 x3.length c6), (10, i6 x4), (125, .bool x5)] ∧ L' = [⟨nx0, [i6 a2.f0, .string a2.f1, .slice A1 x1.length c1], 25⟩] ∧ X' = [] ∧ Imm.le I15 I' ∧ (if x5 = true then (some (Sum.inr false)) else (armillarylaw28_LedgerMatchesReference.l1 a2 x1 kq1 x3 (W .i64 (x4 + 1)))) = some y2) ?_ ?_
     ·rintro _ I16 nx16 _ _ ⟨x5, rfl, rfl, rfl, hi16, H⟩
      replace H : (if x5 = true then (some (Sum.inr false)) else (armillarylaw28_LedgerMatchesReference.l1 a2 x1 kq1 x3 (W .i64 (x4 + 1)))) = some y2 := H
      refine QN.then_ ?_
      refine OK.cd x5 (fun hb => ?_) (fun hb => ?_)
      ·skip
       have hc := hb
       rw [if_pos hc] at H
       clear hb
       refine OK.sr ?_
       refine RL.st 1 [(6, .bool false)] ?_
       refine OK.re ?_
       refine QN.blkR ?_
       refine QN.thenR ?_
       refine QN.outR hQ4 ?_
       refine QN.blkR ?_
       refine QN.outR hQ2 ?_
       refine QN.thenR ?_
       obtain rfl := Option.some.inj H
       replace H : some false = some r := HK2
       obtain rfl := Option.some.inj H
       refine QN.body rfl [] (RFacts.nil _ _ _) (.no) (.bool false) (by kernel_rfl) (by kernel_rfl) (by kernel_rfl) ?_ _ (.inr rfl)
       exact fun w' hs' => ⟨_, rfl, I16, rfl, hs'.got _ .slnil⟩
      ·skip
       have hc := (Bool.eq_false_iff.1 hb)
       rw [if_neg hc] at H
       clear hb
       refine OK.sk ?_
       refine QN.blkN ?_
       refine QN.then_ ?_
       refine OK.rg ?_
       refine RL.s 3 [(10, i6 (W .i64 (x4 + 1))), (5, pt nx0 0), (7, .bool t1), (8, .slice A2 t2.length c2), (9, .slice A6 x3.length c6)] ?_
       refine RL.nil (by kernel_rfl) ?_
       exact QN.sb (hJ4 _ _ _ _ _ ⟨x3, W .i64 (x4 + 1), A6, c6, rfl, rfl, rfl, (Imm.le_trans (Imm.le_trans (Imm.le_trans (Imm.le_trans (Imm.le_trans hi11 hi12) hi13) hi14) hi15) hi16), hl3, (Rd.ext (Imm.le_trans (Imm.le_trans (Imm.le_trans (Imm.le_trans hi12 hi13) hi14) hi15) hi16) hr3), H⟩) (.cons_cons _ .slnil) (.refl _)
     ·intro Q_3 hJ5 hQ5
      obtain ⟨y4, H, HK4⟩ := bnd H
      obtain ⟨t11, hA11, H⟩ := bnd H
      refine OK.cases t11 (fun hb1 => ?_) (fun hb1 => ?_)
      ·have hc1 := hb1
       rw [if_pos hc1] at H
       refine OK.cases (t7.2 != t8.2) (fun hb2 => ?_) (fun hb2 => ?_)
       ·have hc2 := (bne_iff_ne.1 hb2)
        rw [if_pos hc2] at H
        refine OK.drawnC 14 35 O3_51 a3_51n (by kernel_rfl) (by kernel_rfl) (u3d3l t11) u3d3g [] (RI.nil _) (.no :: .no :: .no :: .no :: .no :: .no :: .no :: .no :: .no :: .no :: .no :: .no :: .no :: .no :: .no :: .no :: .no :: .no :: .no :: .no :: .no :: .no :: .no :: .no :: .no :: .no :: .no :: .no :: .no :: .no :: .no :: .no :: .no :: .no :: .no :: []) a3_51 a3_51o (by kernel_rfl) (by kernel_rfl) (u3d3s t7 A7 c7 t8 A8 c8 t11) (u3d3f nx0 t1 t2 A2 c2 x3 A6 c6 x4 t7 A7 c7 t8 A8 c8 t9 A9 c9 t10 A10 c10 t11 35) (u3d3v a2 nx0 t1 x1 A1 c1 t2 A2 c2 x3 A6 c6 x4 t7 A7 c7 t8 A8 c8 t9 A9 c9 t10 A10 c10 t11) (u3d3e a2 nx0 t1 x1 A1 c1 t2 A2 c2 x3 A6 c6 x4 t7 A7 c7 t8 A8 c8 t9 A9 c9 t10 A10 c10 t11) [u3d3f nx0 t1 t2 A2 c2 x3 A6 c6 x4 t7 A7 c7 t8 A8 c8 t9 A9 c9 t10 A10 c10 t11 2] (framesOk.cons (fun u => rfl) framesOk.nil) ?_ [u3d3f nx0 t1 t2 A2 c2 x3 A6 c6 x4 t7 A7 c7 t8 A8 c8 t9 A9 c9 t10 A10 c10 t11 4, u3d3f nx0 t1 t2 A2 c2 x3 A6 c6 x4 t7 A7 c7 t8 A8 c8 t9 A9 c9 t10 A10 c10 t11 9] (framesOk.cons (fun u => rfl) (framesOk.cons (fun u => rfl) framesOk.nil)) ?_ ?_
        ·refine LoudsG.cons ?_ (LoudsG.nil)
         ·intro D u J w hp hJ hs hF
          obtain ⟨JL1, hj1, hn1, hw1, hs⟩ := Sat.freeze (e := 5) (sz := 1) (S := A7) (n := t7.1.length) (cap := c7) (m := 0) hs (by kernel_rfl) (Reps.ext (Imm.le_trans (Imm.le_trans (Imm.le_trans hi13 hi14) hi15) hJ) hf1) rfl
          obtain ⟨JL2, hj2, hn2, hw2, hs⟩ := Sat.freeze (e := 5) (sz := 1) (S := A8) (n := t8.1.length) (cap := c8) (m := 0) hs (by kernel_rfl) (Reps.ext hj1 (Reps.ext (Imm.le_trans (Imm.le_trans hi14 hi15) hJ) hf2)) rfl
          refine Does.call 18 [.slice A7 t7.1.length c7, .slice A8 t8.1.length c8] (by kernel_rfl) ((armillaryref28_SameBytes.calls kq1 JL2 t7.1 A7 c7 t8.1 A8 c8 w hs.im hn1 (Rd.ext hj2 hw1) hn2 hw2 t11 hA11).mono ?_)
          rintro e w' ⟨v, rfl, J2, rfl, hg⟩
          exact ⟨_, rfl, fun _ => (none, 0, []), J, rfl, hg.back (Imm.le_trans hj1 hj2), trivial⟩
        ·refine Givens.cons (fun u w =>  ?_) (fun _ _ _ => rfl) (Givens.cons (fun u w =>  ?_) (fun _ _ _ => rfl) (Givens.nil))
         ·exact giv_run (v := .bool (!t11)) (by kernel_rfl) (by rw [hb1]; try rfl) w
         ·exact giv_run (v := .bool (t7.2 != t8.2)) (by kernel_rfl) (by rw [hb2]; try rfl) w
        intro u I17 nx17 hi17 hF
        clear hF
        refine RL.norm (K' := ((121, undef) :: (120, undef) :: (119, undef) :: (118, undef) :: (117, undef) :: (116, undef) :: (115, undef) :: (114, undef) :: (113, undef) :: (112, .bool true) :: (111, .bool true) :: (110, undef) :: (109, undef) :: (108, undef) :: (107, .bool true) :: (106, .bool true) :: (105, undef) :: (104, undef) :: (103, undef) :: (102, .bool true) :: (101, .bool true) :: (100, undef) :: (99, undef) :: (98, undef) :: (97, undef) :: (96, .bool true) :: (95, .bool (t7.2 != t8.2)) :: (94, .bool (t7.2 != t8.2)) :: (93, i6 t8.2) :: (92, i6 t7.2) :: (91, .bool false) :: (90, .bool (!t11)) :: (89, .bool t11) :: (88, .slice A8 t8.1.length c8) :: (87, .slice A7 t7.1.length c7) :: (20, i6 t10.2.2) :: (19, i6 t10.2.1) :: (18, .slice A10 t10.1.length c10) :: (17, i6 t9.2.2) :: (16, i6 t9.2.1) :: (15, .slice A9 t9.1.length c9) :: (14, i6 t8.2) :: (13, .slice A8 t8.1.length c8) :: (12, i6 t7.2) :: (11, .slice A7 t7.1.length c7) :: (5, pt nx0 0) :: (7, .bool t1) :: (8, .slice A2 t2.length c2) :: (9, .slice A6 x3.length c6) :: (10, i6 x4) :: [])) (X' := [orow 5 1 A7 t7.1.length c7 cs5, orow 5 1 A8 t8.1.length c8 cs6, orow 25 3 A9 t9.1.length c9 cs7, orow 25 3 A10 t10.1.length c10 cs8]) (by kernel_rfl) rfl rfl rfl ?_
        refine RL.s 4 [(125, .bool true), (5, pt nx0 0), (7, .bool t1), (8, .slice A2 t2.length c2), (9, .slice A6 x3.length c6), (10, i6 x4)] ?_
        refine RL.nil (by kernel_rfl) ?_
        obtain rfl := Option.some.inj H
        refine QN.sel (K' := [(5, pt nx0 0), (7, .bool t1), (8, .slice A2 t2.length c2), (9, .slice A6 x3.length c6), (10, i6 x4), (125, .bool true)]) (L' := [⟨nx0, [i6 a2.f0, .string a2.f1, .slice A1 x1.length c1], 25⟩]) [] (by kernel_rfl) (by kernel_rfl) (.cons_cons _ .slnil) ?_
        refine QN.norm (X' := []) rfl rfl rfl (by kernel_rfl) ?_
        exact hJ5 _ _ _ _ _ ⟨true, rfl, rfl, rfl, hi17, HK4⟩
       ·have hc2 := (not_not_intro (bne_eq_false_iff_eq.1 hb2))
        rw [if_neg hc2] at H
        obtain ⟨t12, hA12, H⟩ := bnd H
        refine OK.cases t12 (fun hb3 => ?_) (fun hb3 => ?_)
        ·have hc3 := hb3
         rw [if_pos hc3] at H
         refine OK.cases (t9.2.1 != t10.2.1) (fun hb4 => ?_) (fun hb4 => ?_)
         ·have hc4 := (bne_iff_ne.1 hb4)
          rw [if_pos hc4] at H
          refine OK.drawnC 14 35 O3_51 a3_51n (by kernel_rfl) (by kernel_rfl) (u3d4l t11 t12) u3d4g [] (RI.nil _) (.no :: .no :: .no :: .no :: .no :: .no :: .no :: .no :: .no :: .no :: .no :: .no :: .no :: .no :: .no :: .no :: .no :: .no :: .no :: .no :: .no :: .no :: .no :: .no :: .no :: .no :: .no :: .no :: .no :: .no :: .no :: .no :: .no :: .no :: .no :: []) a3_51 a3_51o (by kernel_rfl) (by kernel_rfl) (u3d4s t7 A7 c7 t8 A8 c8 t9 A9 c9 t10 A10 c10 t11 t12) (u3d4f nx0 t1 t2 A2 c2 x3 A6 c6 x4 t7 A7 c7 t8 A8 c8 t9 A9 c9 t10 A10 c10 t11 t12 35) (u3d4v a2 nx0 t1 x1 A1 c1 t2 A2 c2 x3 A6 c6 x4 t7 A7 c7 t8 A8 c8 t9 A9 c9 t10 A10 c10 t11 t12) (u3d4e a2 nx0 t1 x1 A1 c1 t2 A2 c2 x3 A6 c6 x4 t7 A7 c7 t8 A8 c8 t9 A9 c9 t10 A10 c10 t11 t12) [u3d4f nx0 t1 t2 A2 c2 x3 A6 c6 x4 t7 A7 c7 t8 A8 c8 t9 A9 c9 t10 A10 c10 t11 t12 2, u3d4f nx0 t1 t2 A2 c2 x3 A6 c6 x4 t7 A7 c7 t8 A8 c8 t9 A9 c9 t10 A10 c10 t11 t12 12] (framesOk.cons (fun u => rfl) (framesOk.cons (fun u => rfl) framesOk.nil)) ?_ [u3d4f nx0 t1 t2 A2 c2 x3 A6 c6 x4 t7 A7 c7 t8 A8 c8 t9 A9 c9 t10 A10 c10 t11 t12 4, u3d4f nx0 t1 t2 A2 c2 x3 A6 c6 x4 t7 A7 c7 t8 A8 c8 t9 A9 c9 t10 A10 c10 t11 t12 9, u3d4f nx0 t1 t2 A2 c2 x3 A6 c6 x4 t7 A7 c7 t8 A8 c8 t9 A9 c9 t10 A10 c10 t11 t12 15, u3d4f nx0 t1 t2 A2 c2 x3 A6 c6 x4 t7 A7 c7 t8 A8 c8 t9 A9 c9 t10 A10 c10 t11 t12 20] (framesOk.cons (fun u => rfl) (framesOk.cons (fun u => rfl) (framesOk.cons (fun u => rfl) (framesOk.cons (fun u => rfl) framesOk.nil)))) ?_ ?_
          ·refine LoudsG.cons ?_ (LoudsG.cons ?_ (LoudsG.nil))
           ·intro D u J w hp hJ hs hF
            obtain ⟨JL3, hj3, hn3, hw3, hs⟩ := Sat.freeze (e := 5) (sz := 1) (S := A7) (n := t7.1.length) (cap := c7) (m := 0) hs (by kernel_rfl) (Reps.ext (Imm.le_trans (Imm.le_trans (Imm.le_trans hi13 hi14) hi15) hJ) hf1) rfl
            obtain ⟨JL4, hj4, hn4, hw4, hs⟩ := Sat.freeze (e := 5) (sz := 1) (S := A8) (n := t8.1.length) (cap := c8) (m := 0) hs (by kernel_rfl) (Reps.ext hj3 (Reps.ext (Imm.le_trans (Imm.le_trans hi14 hi15) hJ) hf2)) rfl
            refine Does.call 18 [.slice A7 t7.1.length c7, .slice A8 t8.1.length c8] (by kernel_rfl) ((armillaryref28_SameBytes.calls kq1 JL4 t7.1 A7 c7 t8.1 A8 c8 w hs.im hn3 (Rd.ext hj4 hw3) hn4 hw4 t11 hA11).mono ?_)
            rintro e w' ⟨v, rfl, J2, rfl, hg⟩
            exact ⟨_, rfl, fun _ => (none, 0, []), J, rfl, hg.back (Imm.le_trans hj3 hj4), trivial⟩
           ·intro D u J w hp hJ hs hF
            obtain ⟨JL5, hj5, hn5, hw5, hs⟩ := Sat.freeze (e := 25) (sz := 3) (S := A9) (n := t9.1.length) (cap := c9) (m := 2) hs (by kernel_rfl) (Reps.ext (Imm.le_trans hi15 hJ) hp5) rfl
            obtain ⟨JL6, hj6, hn6, hw6, hs⟩ := Sat.freeze (e := 25) (sz := 3) (S := A10) (n := t10.1.length) (cap := c10) (m := 2) hs (by kernel_rfl) (Reps.ext hj5 (Reps.ext hJ hp6)) rfl
            refine Does.call 19 [.slice A9 t9.1.length c9, .slice A10 t10.1.length c10] (by kernel_rfl) ((armillaryref28_Same.calls kq1 JL6 t9.1 A9 c9 t10.1 A10 c10 w hs.im hn5 (Rd.ext hj6 hw5) hn6 hw6 t12 hA12).mono ?_)
            rintro e w' ⟨v, rfl, J2, rfl, hg⟩
            exact ⟨_, rfl, fun _ => (none, 0, []), J, rfl, hg.back (Imm.le_trans hj5 hj6), trivial⟩
          ·refine Givens.cons (fun u w =>  ?_) (fun _ _ _ => rfl) (Givens.cons (fun u w =>  ?_) (fun _ _ _ => rfl) (Givens.cons (fun u w =>  ?_) (fun _ _ _ => rfl) (Givens.cons (fun u w =>  ?_) (fun _ _ _ => rfl) (Givens.nil))))
           ·exact giv_run (v := .bool (!t11)) (by kernel_rfl) (by rw [hb1]; try rfl) w
           ·exact giv_run (v := .bool (t7.2 != t8.2)) (by kernel_rfl) (by rw [hb2]; try rfl) w
           ·exact giv_run (v := .bool (!t12)) (by kernel_rfl) (by rw [hb3]; try rfl) w
           ·exact giv_run (v := .bool (t9.2.1 != t10.2.1)) (by kernel_rfl) (by rw [hb4]; try rfl) w
          intro u I18 nx18 hi18 hF
          clear hF
          refine RL.norm (K' := ((121, undef) :: (120, undef) :: (119, undef) :: (118, undef) :: (117, undef) :: (116, undef) :: (115, undef) :: (114, undef) :: (113, undef) :: (112, .bool true) :: (111, .bool true) :: (110, undef) :: (109, undef) :: (108, undef) :: (107, .bool true) :: (106, .bool (t9.2.1 != t10.2.1)) :: (105, .bool (t9.2.1 != t10.2.1)) :: (104, i6 t10.2.1) :: (103, i6 t9.2.1) :: (102, .bool false) :: (101, .bool (!t12)) :: (100, .bool (!t12)) :: (99, .bool t12) :: (98, .slice A10 t10.1.length c10) :: (97, .slice A9 t9.1.length c9) :: (96, .bool false) :: (95, .bool (t7.2 != t8.2)) :: (94, .bool (t7.2 != t8.2)) :: (93, i6 t8.2) :: (92, i6 t7.2) :: (91, .bool false) :: (90, .bool (!t11)) :: (89, .bool t11) :: (88, .slice A8 t8.1.length c8) :: (87, .slice A7 t7.1.length c7) :: (20, i6 t10.2.2) :: (19, i6 t10.2.1) :: (18, .slice A10 t10.1.length c10) :: (17, i6 t9.2.2) :: (16, i6 t9.2.1) :: (15, .slice A9 t9.1.length c9) :: (14, i6 t8.2) :: (13, .slice A8 t8.1.length c8) :: (12, i6 t7.2) :: (11, .slice A7 t7.1.length c7) :: (5, pt nx0 0) :: (7, .bool t1) :: (8, .slice A2 t2.length c2) :: (9, .slice A6 x3.length c6) :: (10, i6 x4) :: [])) (X' := [orow 5 1 A7 t7.1.length c7 cs5, orow 5 1 A8 t8.1.length c8 cs6, orow 25 3 A9 t9.1.length c9 cs7, orow 25 3 A10 t10.1.length c10 cs8]) (by kernel_rfl) rfl rfl rfl ?_
          refine RL.s 4 [(125, .bool true), (5, pt nx0 0), (7, .bool t1), (8, .slice A2 t2.length c2), (9, .slice A6 x3.length c6), (10, i6 x4)] ?_
          refine RL.nil (by kernel_rfl) ?_
          obtain rfl := Option.some.inj H
          refine QN.sel (K' := [(5, pt nx0 0), (7, .bool t1), (8, .slice A2 t2.length c2), (9, .slice A6 x3.length c6), (10, i6 x4), (125, .bool true)]) (L' := [⟨nx0, [i6 a2.f0, .string a2.f1, .slice A1 x1.length c1], 25⟩]) [] (by kernel_rfl) (by kernel_rfl) (.cons_cons _ .slnil) ?_
          refine QN.norm (X' := []) rfl rfl rfl (by kernel_rfl) ?_
          exact hJ5 _ _ _ _ _ ⟨true, rfl, rfl, rfl, hi18, HK4⟩
         ·have hc4 := (not_not_intro (bne_eq_false_iff_eq.1 hb4))
          rw [if_neg hc4] at H
          refine OK.cases (t9.2.2 != t10.2.2) (fun hb5 => ?_) (fun hb5 => ?_)
          ·have hc5 := (bne_iff_ne.1 hb5)
           rw [if_pos hc5] at H
           refine OK.drawnC 14 35 O3_51 a3_51n (by kernel_rfl) (by kernel_rfl) (u3d5l t11 t12) u3d5g [] (RI.nil _) (.no :: .no :: .no :: .no :: .no :: .no :: .no :: .no :: .no :: .no :: .no :: .no :: .no :: .no :: .no :: .no :: .no :: .no :: .no :: .no :: .no :: .no :: .no :: .no :: .no :: .no :: .no :: .no :: .no :: .no :: .no :: .no :: .no :: .no :: .no :: []) a3_51 a3_51o (by kernel_rfl) (by kernel_rfl) (u3d5s t7 A7 c7 t8 A8 c8 t9 A9 c9 t10 A10 c10 t11 t12) (u3d5f nx0 t1 t2 A2 c2 x3 A6 c6 x4 t7 A7 c7 t8 A8 c8 t9 A9 c9 t10 A10 c10 t11 t12 35) (u3d5v a2 nx0 t1 x1 A1 c1 t2 A2 c2 x3 A6 c6 x4 t7 A7 c7 t8 A8 c8 t9 A9 c9 t10 A10 c10 t11 t12) (u3d5e a2 nx0 t1 x1 A1 c1 t2 A2 c2 x3 A6 c6 x4 t7 A7 c7 t8 A8 c8 t9 A9 c9 t10 A10 c10 t11 t12) [u3d5f nx0 t1 t2 A2 c2 x3 A6 c6 x4 t7 A7 c7 t8 A8 c8 t9 A9 c9 t10 A10 c10 t11 t12 2, u3d5f nx0 t1 t2 A2 c2 x3 A6 c6 x4 t7 A7 c7 t8 A8 c8 t9 A9 c9 t10 A10 c10 t11 t12 12] (framesOk.cons (fun u => rfl) (framesOk.cons (fun u => rfl) framesOk.nil)) ?_ [u3d5f nx0 t1 t2 A2 c2 x3 A6 c6 x4 t7 A7 c7 t8 A8 c8 t9 A9 c9 t10 A10 c10 t11 t12 4, u3d5f nx0 t1 t2 A2 c2 x3 A6 c6 x4 t7 A7 c7 t8 A8 c8 t9 A9 c9 t10 A10 c10 t11 t12 9, u3d5f nx0 t1 t2 A2 c2 x3 A6 c6 x4 t7 A7 c7 t8 A8 c8 t9 A9 c9 t10 A10 c10 t11 t12 15, u3d5f nx0 t1 t2 A2 c2 x3 A6 c6 x4 t7 A7 c7 t8 A8 c8 t9 A9 c9 t10 A10 c10 t11 t12 20, u3d5f nx0 t1 t2 A2 c2 x3 A6 c6 x4 t7 A7 c7 t8 A8 c8 t9 A9 c9 t10 A10 c10 t11 t12 25] (framesOk.cons (fun u => rfl) (framesOk.cons (fun u => rfl) (framesOk.cons (fun u => rfl) (framesOk.cons (fun u => rfl) (framesOk.cons (fun u => rfl) framesOk.nil))))) ?_ ?_
           ·refine LoudsG.cons ?_ (LoudsG.cons ?_ (LoudsG.nil))
            ·intro D u J w hp hJ hs hF
             obtain ⟨JL7, hj7, hn7, hw7, hs⟩ := Sat.freeze (e := 5) (sz := 1) (S := A7) (n := t7.1.length) (cap := c7) (m := 0) hs (by kernel_rfl) (Reps.ext (Imm.le_trans (Imm.le_trans (Imm.le_trans hi13 hi14) hi15) hJ) hf1) rfl
             obtain ⟨JL8, hj8, hn8, hw8, hs⟩ := Sat.freeze (e := 5) (sz := 1) (S := A8) (n := t8.1.length) (cap := c8) (m := 0) hs (by kernel_rfl) (Reps.ext hj7 (Reps.ext (Imm.le_trans (Imm.le_trans hi14 hi15) hJ) hf2)) rfl
             refine Does.call 18 [.slice A7 t7.1.length c7, .slice A8 t8.1.length c8] (by kernel_rfl) ((armillaryref28_SameBytes.calls kq1 JL8 t7.1 A7 c7 t8.1 A8 c8 w hs.im hn7 (Rd.ext hj8 hw7) hn8 hw8 t11 hA11).mono ?_)
             rintro e w' ⟨v, rfl, J2, rfl, hg⟩
             exact ⟨_, rfl, fun _ => (none, 0, []), J, rfl, hg.back (Imm.le_trans hj7 hj8), trivial⟩
            ·intro D u J w hp hJ hs hF
             obtain ⟨JL9, hj9, hn9, hw9, hs⟩ := Sat.freeze (e := 25) (sz := 3) (S := A9) (n := t9.1.length) (cap := c9) (m := 2) hs (by kernel_rfl) (Reps.ext (Imm.le_trans hi15 hJ) hp5) rfl
             obtain ⟨JL10, hj10, hn10, hw10, hs⟩ := Sat.freeze (e := 25) (sz := 3) (S := A10) (n := t10.1.length) (cap := c10) (m := 2) hs (by kernel_rfl) (Reps.ext hj9 (Reps.ext hJ hp6)) rfl
             refine Does.call 19 [.slice A9 t9.1.length c9, .slice A10 t10.1.length c10] (by kernel_rfl) ((armillaryref28_Same.calls kq1 JL10 t9.1 A9 c9 t10.1 A10 c10 w hs.im hn9 (Rd.ext hj10 hw9) hn10 hw10 t12 hA12).mono ?_)
             rintro e w' ⟨v, rfl, J2, rfl, hg⟩
             exact ⟨_, rfl, fun _ => (none, 0, []), J, rfl, hg.back (Imm.le_trans hj9 hj10), trivial⟩
           ·refine Givens.cons (fun u w =>  ?_) (fun _ _ _ => rfl) (Givens.cons (fun u w =>  ?_) (fun _ _ _ => rfl) (Givens.cons (fun u w =>  ?_) (fun _ _ _ => rfl) (Givens.cons (fun u w =>  ?_) (fun _ _ _ => rfl) (Givens.cons (fun u w =>  ?_) (fun _ _ _ => rfl) (Givens.nil)))))
            ·exact giv_run (v := .bool (!t11)) (by kernel_rfl) (by rw [hb1]; try rfl) w
            ·exact giv_run (v := .bool (t7.2 != t8.2)) (by kernel_rfl) (by rw [hb2]; try rfl) w
            ·exact giv_run (v := .bool (!t12)) (by kernel_rfl) (by rw [hb3]; try rfl) w
            ·exact giv_run (v := .bool (t9.2.1 != t10.2.1)) (by kernel_rfl) (by rw [hb4]; try rfl) w
            ·exact giv_run (v := .bool (t9.2.2 != t10.2.2)) (by kernel_rfl) (by rw [hb5]; try rfl) w
           intro u I19 nx19 hi19 hF
           clear hF
           refine RL.norm (K' := ((121, undef) :: (120, undef) :: (119, undef) :: (118, undef) :: (117, undef) :: (116, undef) :: (115, undef) :: (114, undef) :: (113, undef) :: (112, .bool true) :: (111, .bool (t9.2.2 != t10.2.2)) :: (110, .bool (t9.2.2 != t10.2.2)) :: (109, i6 t10.2.2) :: (108, i6 t9.2.2) :: (107, .bool false) :: (106, .bool (t9.2.1 != t10.2.1)) :: (105, .bool (t9.2.1 != t10.2.1)) :: (104, i6 t10.2.1) :: (103, i6 t9.2.1) :: (102, .bool false) :: (101, .bool (!t12)) :: (100, .bool (!t12)) :: (99, .bool t12) :: (98, .slice A10 t10.1.length c10) :: (97, .slice A9 t9.1.length c9) :: (96, .bool false) :: (95, .bool (t7.2 != t8.2)) :: (94, .bool (t7.2 != t8.2)) :: (93, i6 t8.2) :: (92, i6 t7.2) :: (91, .bool false) :: (90, .bool (!t11)) :: (89, .bool t11) :: (88, .slice A8 t8.1.length c8) :: (87, .slice A7 t7.1.length c7) :: (20, i6 t10.2.2) :: (19, i6 t10.2.1) :: (18, .slice A10 t10.1.length c10) :: (17, i6 t9.2.2) :: (16, i6 t9.2.1) :: (15, .slice A9 t9.1.length c9) :: (14, i6 t8.2) :: (13, .slice A8 t8.1.length c8) :: (12, i6 t7.2) :: (11, .slice A7 t7.1.length c7) :: (5, pt nx0 0) :: (7, .bool t1) :: (8, .slice A2 t2.length c2) :: (9, .slice A6 x3.length c6) :: (10, i6 x4) :: [])) (X' := [orow 5 1 A7 t7.1.length c7 cs5, orow 5 1 A8 t8.1.length c8 cs6, orow 25 3 A9 t9.1.length c9 cs7, orow 25 3 A10 t10.1.length c10 cs8]) (by kernel_rfl) rfl rfl rfl ?_
           refine RL.s 4 [(125, .bool true), (5, pt nx0 0), (7, .bool t1), (8, .slice A2 t2.length c2), (9, .slice A6 x3.length c6), (10, i6 x4)] ?_
           refine RL.nil (by kernel_rfl) ?_
           obtain rfl := Option.some.inj H
           refine QN.sel (K' := [(5, pt nx0 0), (7, .bool t1), (8, .slice A2 t2.length c2), (9, .slice A6 x3.length c6), (10, i6 x4), (125, .bool true)]) (L' := [⟨nx0, [i6 a2.f0, .string a2.f1, .slice A1 x1.length c1], 25⟩]) [] (by kernel_rfl) (by kernel_rfl) (.cons_cons _ .slnil) ?_
           refine QN.norm (X' := []) rfl rfl rfl (by kernel_rfl) ?_
           exact hJ5 _ _ _ _ _ ⟨true, rfl, rfl, rfl, hi19, HK4⟩
          ·have hc5 := (not_not_intro (bne_eq_false_iff_eq.1 hb5))
           rw [if_neg hc5] at H
           obtain ⟨hi0_3, H⟩ := ifs H
           obtain ⟨hi1_3, H⟩ := ifs H
           obtain ⟨g5_, o5_, hA5_, A5_, c5_, hl5_, hr5_, hc5_⟩ := Ty.slice_at (Rd.ext (Imm.le_trans (Imm.le_trans (Imm.le_trans hi12 hi13) hi14) hi15) hr3) x4 hi0_3 hi1_3
           obtain ⟨t13, hA13, H⟩ := bnd H
           obtain ⟨hi0_4, H⟩ := ifs H
           obtain ⟨hi1_4, H⟩ := ifs H
           obtain ⟨g6_, o6_, hA6_, A6_, c6_, hl6_, hr6_, hc6_⟩ := Ty.slice_at (Rd.ext (Imm.le_trans (Imm.le_trans (Imm.le_trans hi12 hi13) hi14) hi15) hr3) x4 hi0_4 hi1_4
           refine OK.drawnC 14 35 O3_51 a3_51n (by kernel_rfl) (by kernel_rfl) (u3d6l t11 t12 t13) (u3d6g x4 g5_ o5_ g6_ o6_) [(⟨g5_, o5_ + (x4).toNat * 1, none⟩, .slice A5_ ((x3.getD (x4).toNat []).length) c5_), (⟨g6_, o6_ + (x4).toNat * 1, none⟩, .slice A6_ ((x3.getD (x4).toNat []).length) c6_)] (RI.cons (hc5_ 0 _ rfl) (RI.cons (hc6_ 0 _ rfl) (RI.nil _))) (.no :: .no :: .no :: .no :: .no :: .no :: .no :: .no :: .no :: .no :: .no :: .no :: .no :: .no :: .no :: .no :: .no :: .no :: .no :: .no :: .no :: .no :: .no :: .no :: .no :: .no :: .no :: .no :: .no :: .r 0 :: .no :: .no :: .no :: .no :: .r 1 :: []) a3_51 a3_51o (by kernel_rfl) (by kernel_rfl) (u3d6s x3 A6 c6 x4 t7 A7 c7 t8 A8 c8 t9 A9 c9 t10 A10 c10 t11 t12 A5_ c5_ g5_ o5_ t13 A6_ c6_ g6_ o6_) (u3d6f nx0 t1 t2 A2 c2 x3 A6 c6 x4 t7 A7 c7 t8 A8 c8 t9 A9 c9 t10 A10 c10 t11 t12 A5_ c5_ g5_ o5_ t13 A6_ c6_ g6_ o6_ 35) (u3d6v a2 nx0 t1 x1 A1 c1 t2 A2 c2 x3 A6 c6 x4 t7 A7 c7 t8 A8 c8 t9 A9 c9 t10 A10 c10 t11 t12 A5_ c5_ g5_ o5_ t13 A6_ c6_ g6_ o6_) (u3d6e a2 nx0 t1 x1 A1 c1 t2 A2 c2 x3 A6 c6 x4 t7 A7 c7 t8 A8 c8 t9 A9 c9 t10 A10 c10 t11 t12 A5_ c5_ g5_ o5_ t13 A6_ c6_ g6_ o6_) [u3d6f nx0 t1 t2 A2 c2 x3 A6 c6 x4 t7 A7 c7 t8 A8 c8 t9 A9 c9 t10 A10 c10 t11 t12 A5_ c5_ g5_ o5_ t13 A6_ c6_ g6_ o6_ 2, u3d6f nx0 t1 t2 A2 c2 x3 A6 c6 x4 t7 A7 c7 t8 A8 c8 t9 A9 c9 t10 A10 c10 t11 t12 A5_ c5_ g5_ o5_ t13 A6_ c6_ g6_ o6_ 12, u3d6f nx0 t1 t2 A2 c2 x3 A6 c6 x4 t7 A7 c7 t8 A8 c8 t9 A9 c9 t10 A10 c10 t11 t12 A5_ c5_ g5_ o5_ t13 A6_ c6_ g6_ o6_ 30] (framesOk.cons (fun u => rfl) (framesOk.cons (fun u => rfl) (framesOk.cons (fun u => rfl) framesOk.nil))) ?_ [u3d6f nx0 t1 t2 A2 c2 x3 A6 c6 x4 t7 A7 c7 t8 A8 c8 t9 A9 c9 t10 A10 c10 t11 t12 A5_ c5_ g5_ o5_ t13 A6_ c6_ g6_ o6_ 4, u3d6f nx0 t1 t2 A2 c2 x3 A6 c6 x4 t7 A7 c7 t8 A8 c8 t9 A9 c9 t10 A10 c10 t11 t12 A5_ c5_ g5_ o5_ t13 A6_ c6_ g6_ o6_ 9, u3d6f nx0 t1 t2 A2 c2 x3 A6 c6 x4 t7 A7 c7 t8 A8 c8 t9 A9 c9 t10 A10 c10 t11 t12 A5_ c5_ g5_ o5_ t13 A6_ c6_ g6_ o6_ 15, u3d6f nx0 t1 t2 A2 c2 x3 A6 c6 x4 t7 A7 c7 t8 A8 c8 t9 A9 c9 t10 A10 c10 t11 t12 A5_ c5_ g5_ o5_ t13 A6_ c6_ g6_ o6_ 20, u3d6f nx0 t1 t2 A2 c2 x3 A6 c6 x4 t7 A7 c7 t8 A8 c8 t9 A9 c9 t10 A10 c10 t11 t12 A5_ c5_ g5_ o5_ t13 A6_ c6_ g6_ o6_ 25, u3d6f nx0 t1 t2 A2 c2 x3 A6 c6 x4 t7 A7 c7 t8 A8 c8 t9 A9 c9 t10 A10 c10 t11 t12 A5_ c5_ g5_ o5_ t13 A6_ c6_ g6_ o6_ 28, u3d6f nx0 t1 t2 A2 c2 x3 A6 c6 x4 t7 A7 c7 t8 A8 c8 t9 A9 c9 t10 A10 c10 t11 t12 A5_ c5_ g5_ o5_ t13 A6_ c6_ g6_ o6_ 33] (framesOk.cons (fun u => rfl) (framesOk.cons (fun u => rfl) (framesOk.cons (fun u => rfl) (framesOk.cons (fun u => rfl) (framesOk.cons (fun u => rfl) (framesOk.cons (fun u => rfl) (framesOk.cons (fun u => rfl) framesOk.nil))))))) ?_ ?_
           ·refine LoudsG.cons ?_ (LoudsG.cons ?_ (LoudsG.cons ?_ (LoudsG.nil)))
            ·intro D u J w hp hJ hs hF
             obtain ⟨JL11, hj11, hn11, hw11, hs⟩ := Sat.freeze (e := 5) (sz := 1) (S := A7) (n := t7.1.length) (cap := c7) (m := 0) hs (by kernel_rfl) (Reps.ext (Imm.le_trans (Imm.le_trans (Imm.le_trans hi13 hi14) hi15) hJ) hf1) rfl
             obtain ⟨JL12, hj12, hn12, hw12, hs⟩ := Sat.freeze (e := 5) (sz := 1) (S := A8) (n := t8.1.length) (cap := c8) (m := 0) hs (by kernel_rfl) (Reps.ext hj11 (Reps.ext (Imm.le_trans (Imm.le_trans hi14 hi15) hJ) hf2)) rfl
             refine Does.call 18 [.slice A7 t7.1.length c7, .slice A8 t8.1.length c8] (by kernel_rfl) ((armillaryref28_SameBytes.calls kq1 JL12 t7.1 A7 c7 t8.1 A8 c8 w hs.im hn11 (Rd.ext hj12 hw11) hn12 hw12 t11 hA11).mono ?_)
             rintro e w' ⟨v, rfl, J2, rfl, hg⟩
             exact ⟨_, rfl, fun _ => (none, 0, []), J, rfl, hg.back (Imm.le_trans hj11 hj12), trivial⟩
            ·intro D u J w hp hJ hs hF
             obtain ⟨JL13, hj13, hn13, hw13, hs⟩ := Sat.freeze (e := 25) (sz := 3) (S := A9) (n := t9.1.length) (cap := c9) (m := 2) hs (by kernel_rfl) (Reps.ext (Imm.le_trans hi15 hJ) hp5) rfl
             obtain ⟨JL14, hj14, hn14, hw14, hs⟩ := Sat.freeze (e := 25) (sz := 3) (S := A10) (n := t10.1.length) (cap := c10) (m := 2) hs (by kernel_rfl) (Reps.ext hj13 (Reps.ext hJ hp6)) rfl
             refine Does.call 19 [.slice A9 t9.1.length c9, .slice A10 t10.1.length c10] (by kernel_rfl) ((armillaryref28_Same.calls kq1 JL14 t9.1 A9 c9 t10.1 A10 c10 w hs.im hn13 (Rd.ext hj14 hw13) hn14 hw14 t12 hA12).mono ?_)
             rintro e w' ⟨v, rfl, J2, rfl, hg⟩
             exact ⟨_, rfl, fun _ => (none, 0, []), J, rfl, hg.back (Imm.le_trans hj13 hj14), trivial⟩
            ·intro D u J w hp hJ hs hF
             refine Does.call 20 [.slice A5_ ((x3.getD (x4).toNat []).length) c5_] (by kernel_rfl) ((ledger_Repair.calls kq1 J (x3.getD (x4).toNat []) A5_ c5_ w hs.im (Glob.ext (Imm.le_trans (Imm.le_trans (Imm.le_trans (Imm.le_trans (Imm.le_trans (Imm.le_trans (Imm.le_trans (Imm.le_trans (Imm.le_trans (Imm.le_trans (Imm.le_trans hi1 hi2) hi3) hi4) hi5) hi6) hi11) hi12) hi13) hi14) hi15) hJ) hG) hl5_ (Rd.ext hJ hr5_) t13 hA13).mono ?_)
             rintro e w' ⟨v, rfl, J2, A0_, c0_, cs0_, rfl, hg, hp0_⟩
             exact ⟨_, rfl, fun _ => (A0_, c0_, cs0_), J2, rfl, hg, hp0_, trivial⟩
           ·refine Givens.cons (fun u w =>  ?_) (fun _ _ _ => rfl) (Givens.cons (fun u w =>  ?_) (fun _ _ _ => rfl) (Givens.cons (fun u w =>  ?_) (fun _ _ _ => rfl) (Givens.cons (fun u w =>  ?_) (fun _ _ _ => rfl) (Givens.cons (fun u w =>  ?_) (fun _ _ _ => rfl) (Givens.cons (fun u w =>  ?_) (fun _ _ _ => rfl) (Givens.cons (fun u w =>  ?_) (fun _ _ _ => rfl) (Givens.nil)))))))
            ·exact giv_run (v := .bool (!t11)) (by kernel_rfl) (by rw [hb1]; try rfl) w
            ·exact giv_run (v := .bool (t7.2 != t8.2)) (by kernel_rfl) (by rw [hb2]; try rfl) w
            ·exact giv_run (v := .bool (!t12)) (by kernel_rfl) (by rw [hb3]; try rfl) w
            ·exact giv_run (v := .bool (t9.2.1 != t10.2.1)) (by kernel_rfl) (by rw [hb4]; try rfl) w
            ·exact giv_run (v := .bool (t9.2.2 != t10.2.2)) (by kernel_rfl) (by rw [hb5]; try rfl) w
            ·exact giv_idx (T := 29) (e := 22) 1 .i64 x4 hA5_ x3.length c6 (by kernel_rfl) (by kernel_rfl) (by kernel_rfl) hi0_3 hi1_3 w
            ·exact giv_idx (T := 29) (e := 22) 1 .i64 x4 hA6_ x3.length c6 (by kernel_rfl) (by kernel_rfl) (by kernel_rfl) hi0_4 hi1_4 w
           intro u I20 nx20 hi20 hF
           have hf3 := ((hF.2.2.1 rfl).1)
           clear hF
           refine RL.norm (K' := ((121, .slice A6_ ((x3.getD (x4).toNat []).length) c6_) :: (120, pt g6_ (o6_ + (x4).toNat * 1)) :: (119, i6 x4) :: (118, .slice A6 x3.length c6) :: (117, .slice ((u 30 0).1) t13.length ((u 30 0).2.1)) :: (116, .slice A5_ ((x3.getD (x4).toNat []).length) c5_) :: (115, pt g5_ (o5_ + (x4).toNat * 1)) :: (114, i6 x4) :: (113, .slice A6 x3.length c6) :: (112, .bool false) :: (111, .bool (t9.2.2 != t10.2.2)) :: (110, .bool (t9.2.2 != t10.2.2)) :: (109, i6 t10.2.2) :: (108, i6 t9.2.2) :: (107, .bool false) :: (106, .bool (t9.2.1 != t10.2.1)) :: (105, .bool (t9.2.1 != t10.2.1)) :: (104, i6 t10.2.1) :: (103, i6 t9.2.1) :: (102, .bool false) :: (101, .bool (!t12)) :: (100, .bool (!t12)) :: (99, .bool t12) :: (98, .slice A10 t10.1.length c10) :: (97, .slice A9 t9.1.length c9) :: (96, .bool false) :: (95, .bool (t7.2 != t8.2)) :: (94, .bool (t7.2 != t8.2)) :: (93, i6 t8.2) :: (92, i6 t7.2) :: (91, .bool false) :: (90, .bool (!t11)) :: (89, .bool t11) :: (88, .slice A8 t8.1.length c8) :: (87, .slice A7 t7.1.length c7) :: (20, i6 t10.2.2) :: (19, i6 t10.2.1) :: (18, .slice A10 t10.1.length c10) :: (17, i6 t9.2.2) :: (16, i6 t9.2.1) :: (15, .slice A9 t9.1.length c9) :: (14, i6 t8.2) :: (13, .slice A8 t8.1.length c8) :: (12, i6 t7.2) :: (11, .slice A7 t7.1.length c7) :: (5, pt nx0 0) :: (7, .bool t1) :: (8, .slice A2 t2.length c2) :: (9, .slice A6 x3.length c6) :: (10, i6 x4) :: [])) (X' := [orow 5 1 A7 t7.1.length c7 cs5, orow 5 1 A8 t8.1.length c8 cs6, orow 25 3 A9 t9.1.length c9 cs7, orow 25 3 A10 t10.1.length c10 cs8, orow 5 1 (u 30 0).1 t13.length (u 30 0).2.1 (u 30 0).2.2]) (by kernel_rfl) rfl rfl rfl ?_
           revert hf3
           generalize (u 30 0).1 = A11
           generalize (u 30 0).2.1 = c11
           generalize (u 30 0).2.2 = cs9
           intro hf3
           clear u
           obtain ⟨t14, hA14, H⟩ := bnd H
           refine RL.callP 21 [.slice A6_ ((x3.getD (x4).toNat []).length) c6_] (some 122) (fun w => armillaryref28_Repair.Post I20 w t14) (by kernel_rfl) (by kernel_rfl) (fun w hs => armillaryref28_Repair.calls kq1 I20 (x3.getD (x4).toNat []) A6_ c6_ w hs.im hl6_ (Rd.ext hi20 hr6_) t14 hA14) ?_
           rintro w v w' hs ⟨I21, A12, c12, rfl, hg, hl4, hr4⟩
           have hi21 := hg.le
           refine RL.resume (X' := [orow 5 1 A7 t7.1.length c7 cs5, orow 5 1 A8 t8.1.length c8 cs6, orow 25 3 A9 t9.1.length c9 cs7, orow 25 3 A10 t10.1.length c10 cs8, orow 5 1 A11 t13.length c11 cs9]) rfl (hs.call hg) ?_
           clear hs hg
           generalize w'.heap.size = nx21
           clear w w'
           obtain ⟨t15, hA15, H⟩ := bnd H
           refine RL.callP 18 [.slice A11 t13.length c11, .slice A12 t14.length c12] (some 123) (fun w v w' => ∃ I', Imm.le I21 I' ∧ armillaryref28_SameBytes.Post I' w t15 v w') (by kernel_rfl) (by kernel_rfl) (fun w hs => ?_) ?_
           ·skip
            obtain ⟨JL15, hj15, hn15, hw15, hs⟩ := Sat.freeze (e := 5) (sz := 1) (S := A11) (n := t13.length) (cap := c11) (m := 4) hs (by kernel_rfl) (Reps.ext hi21 hf3) rfl
            exact (armillaryref28_SameBytes.calls kq1 JL15 t13 A11 c11 t14 A12 c12 _ hs.im hn15 hw15 hl4 (Rd.ext hj15 hr4) t15 hA15).mono (fun e w' ⟨v, hv, hp⟩ => ⟨v, hv, JL15, hj15, hp⟩)
           rintro w v w' hs ⟨I', hle, J, rfl, hg⟩
           refine RL.resume (X' := [orow 5 1 A7 t7.1.length c7 cs5, orow 5 1 A8 t8.1.length c8 cs6, orow 25 3 A9 t9.1.length c9 cs7, orow 25 3 A10 t10.1.length c10 cs8, orow 5 1 A11 t13.length c11 cs9]) rfl (hs.call (hg.back hle)) ?_
           clear hs hg hle I' J
           generalize w'.heap.size = nx22
           clear w w'
           refine RL.s 2 [(125, .bool (!t15)), (5, pt nx0 0), (7, .bool t1), (8, .slice A2 t2.length c2), (9, .slice A6 x3.length c6), (10, i6 x4)] ?_
           refine RL.nil (by kernel_rfl) ?_
           obtain rfl := Option.some.inj H
           refine QN.sel (K' := [(5, pt nx0 0), (7, .bool t1), (8, .slice A2 t2.length c2), (9, .slice A6 x3.length c6), (10, i6 x4), (125, .bool (!t15))]) (L' := [⟨nx0, [i6 a2.f0, .string a2.f1, .slice A1 x1.length c1], 25⟩]) [] (by kernel_rfl) (by kernel_rfl) (.cons_cons _ .slnil) ?_
           refine QN.norm (X' := []) rfl rfl rfl (by kernel_rfl) ?_
           exact hJ5 _ _ _ _ _ ⟨(!t15), rfl, rfl, rfl, (Imm.le_trans hi20 hi21), HK4⟩
        ·have hc3 := (Bool.eq_false_iff.1 hb3)
         rw [if_neg hc3] at H
         refine OK.drawnC 14 35 O3_51 a3_51n (by kernel_rfl) (by kernel_rfl) (u3d7l t11 t12) u3d7g [] (RI.nil _) (.no :: .no :: .no :: .no :: .no :: .no :: .no :: .no :: .no :: .no :: .no :: .no :: .no :: .no :: .no :: .no :: .no :: .no :: .no :: .no :: .no :: .no :: .no :: .no :: .no :: .no :: .no :: .no :: .no :: .no :: .no :: .no :: .no :: .no :: .no :: []) a3_51 a3_51o (by kernel_rfl) (by kernel_rfl) (u3d7s t7 A7 c7 t8 A8 c8 t9 A9 c9 t10 A10 c10 t11 t12) (u3d7f nx0 t1 t2 A2 c2 x3 A6 c6 x4 t7 A7 c7 t8 A8 c8 t9 A9 c9 t10 A10 c10 t11 t12 35) (u3d7v a2 nx0 t1 x1 A1 c1 t2 A2 c2 x3 A6 c6 x4 t7 A7 c7 t8 A8 c8 t9 A9 c9 t10 A10 c10 t11 t12) (u3d7e a2 nx0 t1 x1 A1 c1 t2 A2 c2 x3 A6 c6 x4 t7 A7 c7 t8 A8 c8 t9 A9 c9 t10 A10 c10 t11 t12) [u3d7f nx0 t1 t2 A2 c2 x3 A6 c6 x4 t7 A7 c7 t8 A8 c8 t9 A9 c9 t10 A10 c10 t11 t12 2, u3d7f nx0 t1 t2 A2 c2 x3 A6 c6 x4 t7 A7 c7 t8 A8 c8 t9 A9 c9 t10 A10 c10 t11 t12 12] (framesOk.cons (fun u => rfl) (framesOk.cons (fun u => rfl) framesOk.nil)) ?_ [u3d7f nx0 t1 t2 A2 c2 x3 A6 c6 x4 t7 A7 c7 t8 A8 c8 t9 A9 c9 t10 A10 c10 t11 t12 4, u3d7f nx0 t1 t2 A2 c2 x3 A6 c6 x4 t7 A7 c7 t8 A8 c8 t9 A9 c9 t10 A10 c10 t11 t12 9, u3d7f nx0 t1 t2 A2 c2 x3 A6 c6 x4 t7 A7 c7 t8 A8 c8 t9 A9 c9 t10 A10 c10 t11 t12 15] (framesOk.cons (fun u => rfl) (framesOk.cons (fun u => rfl) (framesOk.cons (fun u => rfl) framesOk.nil))) ?_ ?_
         ·refine LoudsG.cons ?_ (LoudsG.cons ?_ (LoudsG.nil))
          ·intro D u J w hp hJ hs hF
           obtain ⟨JL16, hj16, hn16, hw16, hs⟩ := Sat.freeze (e := 5) (sz := 1) (S := A7) (n := t7.1.length) (cap := c7) (m := 0) hs (by kernel_rfl) (Reps.ext (Imm.le_trans (Imm.le_trans (Imm.le_trans hi13 hi14) hi15) hJ) hf1) rfl
           obtain ⟨JL17, hj17, hn17, hw17, hs⟩ := Sat.freeze (e := 5) (sz := 1) (S := A8) (n := t8.1.length) (cap := c8) (m := 0) hs (by kernel_rfl) (Reps.ext hj16 (Reps.ext (Imm.le_trans (Imm.le_trans hi14 hi15) hJ) hf2)) rfl
           refine Does.call 18 [.slice A7 t7.1.length c7, .slice A8 t8.1.length c8] (by kernel_rfl) ((armillaryref28_SameBytes.calls kq1 JL17 t7.1 A7 c7 t8.1 A8 c8 w hs.im hn16 (Rd.ext hj17 hw16) hn17 hw17 t11 hA11).mono ?_)
           rintro e w' ⟨v, rfl, J2, rfl, hg⟩
           exact ⟨_, rfl, fun _ => (none, 0, []), J, rfl, hg.back (Imm.le_trans hj16 hj17), trivial⟩
          ·intro D u J w hp hJ hs hF
           obtain ⟨JL18, hj18, hn18, hw18, hs⟩ := Sat.freeze (e := 25) (sz := 3) (S := A9) (n := t9.1.length) (cap := c9) (m := 2) hs (by kernel_rfl) (Reps.ext (Imm.le_trans hi15 hJ) hp5) rfl
           obtain ⟨JL19, hj19, hn19, hw19, hs⟩ := Sat.freeze (e := 25) (sz := 3) (S := A10) (n := t10.1.length) (cap := c10) (m := 2) hs (by kernel_rfl) (Reps.ext hj18 (Reps.ext hJ hp6)) rfl
           refine Does.call 19 [.slice A9 t9.1.length c9, .slice A10 t10.1.length c10] (by kernel_rfl) ((armillaryref28_Same.calls kq1 JL19 t9.1 A9 c9 t10.1 A10 c10 w hs.im hn18 (Rd.ext hj19 hw18) hn19 hw19 t12 hA12).mono ?_)
           rintro e w' ⟨v, rfl, J2, rfl, hg⟩
           exact ⟨_, rfl, fun _ => (none, 0, []), J, rfl, hg.back (Imm.le_trans hj18 hj19), trivial⟩
         ·refine Givens.cons (fun u w =>  ?_) (fun _ _ _ => rfl) (Givens.cons (fun u w =>  ?_) (fun _ _ _ => rfl) (Givens.cons (fun u w =>  ?_) (fun _ _ _ => rfl) (Givens.nil)))
          ·exact giv_run (v := .bool (!t11)) (by kernel_rfl) (by rw [hb1]; try rfl) w
          ·exact giv_run (v := .bool (t7.2 != t8.2)) (by kernel_rfl) (by rw [hb2]; try rfl) w
          ·exact giv_run (v := .bool (!t12)) (by kernel_rfl) (by rw [hb3]; try rfl) w
         intro u I22 nx23 hi22 hF
         clear hF
         refine RL.norm (K' := ((121, undef) :: (120, undef) :: (119, undef) :: (118, undef) :: (117, undef) :: (116, undef) :: (115, undef) :: (114, undef) :: (113, undef) :: (112, .bool true) :: (111, .bool true) :: (110, undef) :: (109, undef) :: (108, undef) :: (107, .bool true) :: (106, .bool true) :: (105, undef) :: (104, undef) :: (103, undef) :: (102, .bool true) :: (101, .bool (!t12)) :: (100, .bool (!t12)) :: (99, .bool t12) :: (98, .slice A10 t10.1.length c10) :: (97, .slice A9 t9.1.length c9) :: (96, .bool false) :: (95, .bool (t7.2 != t8.2)) :: (94, .bool (t7.2 != t8.2)) :: (93, i6 t8.2) :: (92, i6 t7.2) :: (91, .bool false) :: (90, .bool (!t11)) :: (89, .bool t11) :: (88, .slice A8 t8.1.length c8) :: (87, .slice A7 t7.1.length c7) :: (20, i6 t10.2.2) :: (19, i6 t10.2.1) :: (18, .slice A10 t10.1.length c10) :: (17, i6 t9.2.2) :: (16, i6 t9.2.1) :: (15, .slice A9 t9.1.length c9) :: (14, i6 t8.2) :: (13, .slice A8 t8.1.length c8) :: (12, i6 t7.2) :: (11, .slice A7 t7.1.length c7) :: (5, pt nx0 0) :: (7, .bool t1) :: (8, .slice A2 t2.length c2) :: (9, .slice A6 x3.length c6) :: (10, i6 x4) :: [])) (X' := [orow 5 1 A7 t7.1.length c7 cs5, orow 5 1 A8 t8.1.length c8 cs6, orow 25 3 A9 t9.1.length c9 cs7, orow 25 3 A10 t10.1.length c10 cs8]) (by kernel_rfl) rfl rfl rfl ?_
         refine RL.s 4 [(125, .bool true), (5, pt nx0 0), (7, .bool t1), (8, .slice A2 t2.length c2), (9, .slice A6 x3.length c6), (10, i6 x4)] ?_
         refine RL.nil (by kernel_rfl) ?_
         obtain rfl := Option.some.inj H
         refine QN.sel (K' := [(5, pt nx0 0), (7, .bool t1), (8, .slice A2 t2.length c2), (9, .slice A6 x3.length c6), (10, i6 x4), (125, .bool true)]) (L' := [⟨nx0, [i6 a2.f0, .string a2.f1, .slice A1 x1.length c1], 25⟩]) [] (by kernel_rfl) (by kernel_rfl) (.cons_cons _ .slnil) ?_
         refine QN.norm (X' := []) rfl rfl rfl (by kernel_rfl) ?_
         exact hJ5 _ _ _ _ _ ⟨true, rfl, rfl, rfl, hi22, HK4⟩
      ·have hc1 := (Bool.eq_false_iff.1 hb1)
       rw [if_neg hc1] at H
       refine OK.drawnC 14 35 O3_51 a3_51n (by kernel_rfl) (by kernel_rfl) (u3d8l t11) u3d8g [] (RI.nil _) (.no :: .no :: .no :: .no :: .no :: .no :: .no :: .no :: .no :: .no :: .no :: .no :: .no :: .no :: .no :: .no :: .no :: .no :: .no :: .no :: .no :: .no :: .no :: .no :: .no :: .no :: .no :: .no :: .no :: .no :: .no :: .no :: .no :: .no :: .no :: []) a3_51 a3_51o (by kernel_rfl) (by kernel_rfl) (u3d8s t7 A7 c7 t8 A8 c8 t11) (u3d8f nx0 t1 t2 A2 c2 x3 A6 c6 x4 t7 A7 c7 t8 A8 c8 t9 A9 c9 t10 A10 c10 t11 35) (u3d8v a2 nx0 t1 x1 A1 c1 t2 A2 c2 x3 A6 c6 x4 t7 A7 c7 t8 A8 c8 t9 A9 c9 t10 A10 c10 t11) (u3d8e a2 nx0 t1 x1 A1 c1 t2 A2 c2 x3 A6 c6 x4 t7 A7 c7 t8 A8 c8 t9 A9 c9 t10 A10 c10 t11) [u3d8f nx0 t1 t2 A2 c2 x3 A6 c6 x4 t7 A7 c7 t8 A8 c8 t9 A9 c9 t10 A10 c10 t11 2] (framesOk.cons (fun u => rfl) framesOk.nil) ?_ [u3d8f nx0 t1 t2 A2 c2 x3 A6 c6 x4 t7 A7 c7 t8 A8 c8 t9 A9 c9 t10 A10 c10 t11 4] (framesOk.cons (fun u => rfl) framesOk.nil) ?_ ?_
       ·refine LoudsG.cons ?_ (LoudsG.nil)
        ·intro D u J w hp hJ hs hF
         obtain ⟨JL20, hj20, hn20, hw20, hs⟩ := Sat.freeze (e := 5) (sz := 1) (S := A7) (n := t7.1.length) (cap := c7) (m := 0) hs (by kernel_rfl) (Reps.ext (Imm.le_trans (Imm.le_trans (Imm.le_trans hi13 hi14) hi15) hJ) hf1) rfl
         obtain ⟨JL21, hj21, hn21, hw21, hs⟩ := Sat.freeze (e := 5) (sz := 1) (S := A8) (n := t8.1.length) (cap := c8) (m := 0) hs (by kernel_rfl) (Reps.ext hj20 (Reps.ext (Imm.le_trans (Imm.le_trans hi14 hi15) hJ) hf2)) rfl
         refine Does.call 18 [.slice A7 t7.1.length c7, .slice A8 t8.1.length c8] (by kernel_rfl) ((armillaryref28_SameBytes.calls kq1 JL21 t7.1 A7 c7 t8.1 A8 c8 w hs.im hn20 (Rd.ext hj21 hw20) hn21 hw21 t11 hA11).mono ?_)
         rintro e w' ⟨v, rfl, J2, rfl, hg⟩
         exact ⟨_, rfl, fun _ => (none, 0, []), J, rfl, hg.back (Imm.le_trans hj20 hj21), trivial⟩
       ·refine Givens.cons (fun u w =>  ?_) (fun _ _ _ => rfl) (Givens.nil)
        ·exact giv_run (v := .bool (!t11)) (by kernel_rfl) (by rw [hb1]; try rfl) w
       intro u I23 nx24 hi23 hF
       clear hF
       refine RL.norm (K' := ((121, undef) :: (120, undef) :: (119, undef) :: (118, undef) :: (117, undef) :: (116, undef) :: (115, undef) :: (114, undef) :: (113, undef) :: (112, .bool true) :: (111, .bool true) :: (110, undef) :: (109, undef) :: (108, undef) :: (107, .bool true) :: (106, .bool true) :: (105, undef) :: (104, undef) :: (103, undef) :: (102, .bool true) :: (101, .bool true) :: (100, undef) :: (99, undef) :: (98, undef) :: (97, undef) :: (96, .bool true) :: (95, .bool true) :: (94, undef) :: (93, undef) :: (92, undef) :: (91, .bool true) :: (90, .bool (!t11)) :: (89, .bool t11) :: (88, .slice A8 t8.1.length c8) :: (87, .slice A7 t7.1.length c7) :: (20, i6 t10.2.2) :: (19, i6 t10.2.1) :: (18, .slice A10 t10.1.length c10) :: (17, i6 t9.2.2) :: (16, i6 t9.2.1) :: (15, .slice A9 t9.1.length c9) :: (14, i6 t8.2) :: (13, .slice A8 t8.1.length c8) :: (12, i6 t7.2) :: (11, .slice A7 t7.1.length c7) :: (5, pt nx0 0) :: (7, .bool t1) :: (8, .slice A2 t2.length c2) :: (9, .slice A6 x3.length c6) :: (10, i6 x4) :: [])) (X' := [orow 5 1 A7 t7.1.length c7 cs5, orow 5 1 A8 t8.1.length c8 cs6, orow 25 3 A9 t9.1.length c9 cs7, orow 25 3 A10 t10.1.length c10 cs8]) (by kernel_rfl) rfl rfl rfl ?_
       refine RL.s 4 [(125, .bool true), (5, pt nx0 0), (7, .bool t1), (8, .slice A2 t2.length c2), (9, .slice A6 x3.length c6), (10, i6 x4)] ?_
       refine RL.nil (by kernel_rfl) ?_
       obtain rfl := Option.some.inj H
       refine QN.sel (K' := [(5, pt nx0 0), (7, .bool t1), (8, .slice A2 t2.length c2), (9, .slice A6 x3.length c6), (10, i6 x4), (125, .bool true)]) (L' := [⟨nx0, [i6 a2.f0, .string a2.f1, .slice A1 x1.length c1], 25⟩]) [] (by kernel_rfl) (by kernel_rfl) (.cons_cons _ .slnil) ?_
       refine QN.norm (X' := []) rfl rfl rfl (by kernel_rfl) ?_
       exact hJ5 _ _ _ _ _ ⟨true, rfl, rfl, rfl, hi23, HK4⟩
    ·skip
     have hc := (of_decide_eq_false hb)
     rw [if_neg hc] at H
     clear hb
     refine OK.ex 0 ?_
     refine QN.thenE ?_
     refine QN.outE hQ4 ?_
     refine QN.blkE ?_
     obtain rfl := Option.some.inj H
     exact QN.sb (hJ2 _ _ _ _ _ ⟨rfl, rfl, rfl, hi11, HK2⟩) (.cons_cons _ .slnil) (.refl _)
 ·intro Q_4 hJ1 hQ1
  obtain ⟨y1, H, HK1⟩ := bnd H
  refine OK.cd (decide ((a2.f2.length : Int) > 200)) (fun hb => ?_) (fun hb => ?_)
  ·skip
   have hc := (of_decide_eq_true hb)
   rw [if_pos hc] at H
   clear hb
   refine OK.rg ?_
   refine RL.simK (K' := [(32, .slice Ap2_2 a2.f2.length cp2_2), (0, .slice (slA Ap0 (0 : Int).toNat cp0 1) ((rpart a0 0 (iMin (a0.length : Int) 400)).length) (cp0 - (0 : Int).toNat)), (7, .bool t1), (5, pt nx0 0), (1, .slice Ap1 a1.length cp1)]) [] (RFacts.nil _ _ _) 2 [.no, .l 0] (by kernel_rfl) (by kernel_rfl) ?_
   obtain ⟨hs1_2, H⟩ := ifs H
   obtain ⟨hs2_2, H⟩ := ifs H
   refine RL.subH (T := 22) (e := 5) (l := a2.f2) (S := Ap2_2) (cap := cp2_2) (hi := 200) 1 .i64 (some 33) (by kernel_rfl) (by kernel_rfl) (by kernel_rfl) (by kernel_rfl) hlp2_2 hs1_2 hs2_2 (K' := [(33, .slice (slA Ap2_2 (0 : Int).toNat cp2_2 1) ((rpart a2.f2 0 (200 : Int)).length) (cp2_2 - (0 : Int).toNat)), (32, .slice Ap2_2 a2.f2.length cp2_2), (0, .slice (slA Ap0 (0 : Int).toNat cp0 1) ((rpart a0 0 (iMin (a0.length : Int) 400)).length) (cp0 - (0 : Int).toNat)), (7, .bool t1), (5, pt nx0 0), (1, .slice Ap1 a1.length cp1)]) (by kernel_rfl) ?_
   refine RL.simP (K' := [(0, .slice (slA Ap0 (0 : Int).toNat cp0 1) ((rpart a0 0 (iMin (a0.length : Int) 400)).length) (cp0 - (0 : Int).toNat)), (7, .bool t1), (5, pt nx0 0), (1, .slice Ap1 a1.length cp1)]) (nx' := nx1) (L' := [⟨nx0, [i6 a2.f0, .string a2.f1, .slice (slA Ap2_2 (0 : Int).toNat cp2_2 1) ((rpart a2.f2 0 (200 : Int)).length) (cp2_2 - (0 : Int).toNat)], 25⟩]) [] (RFacts.nil _ _ _) 2 [.no, .l 0] (by kernel_rfl) (by kernel_rfl) ?_
   refine RL.nil (by kernel_rfl) ?_
   obtain rfl := Option.some.inj H
   exact QN.sb (hJ1 _ _ _ _ _ ⟨rpart a2.f2 0 (200 : Int), (slA Ap2_2 (0 : Int).toNat cp2_2 1), (cp2_2 - (0 : Int).toNat), rfl, rfl, rfl, (Imm.le_refl _), (part_le hlp2_2 (Int.le_refl 0) hs1_2 hs2_2), (rd_sub (Rd.ext hi1 hrp2_2) hlp2_2 (Int.le_refl 0) hs1_2 hs2_2), HK1⟩) (.cons_cons _ .slnil) (.refl _)
  ·skip
   have hc := (of_decide_eq_false hb)
   rw [if_neg hc] at H
   clear hb
   refine OK.sk ?_
   obtain rfl := Option.some.inj H
   exact QN.sb (hJ1 _ _ _ _ _ ⟨a2.f2, Ap2_2, cp2_2, rfl, rfl, rfl, (Imm.le_refl _), hlp2_2, (Rd.ext hi1 hrp2_2), HK1⟩) (.cons_cons _ .slnil) (.refl _)

end Go.Proofs.YtiomeaoeegikkaaDoor
namespace Go.Proofs.YtiomeaoeegikkaaDoor
open Go Go.Proofs.YtiomeaoeegikkaaDoor.RW Go.Proofs.YtiomeaoeegikkaaDoor.led
set_option linter.unusedVariables false
theorem valid_any (e : S25) (hb : isBytes e.f2) (hl : e.f2.length ≤ 20000) : (codec_validEntry.f e = some true ∧ okE e) ∨ codec_validEntry.f e = some false := by
  unfold codec_validEntry.f codec_validEntry.k1
  by_cases h1 : e.f0 ≥ 1
  · by_cases h2 : e.f0 ≤ 4
    · by_cases h3 : (e.f1.size : Int) ≥ 1
      · by_cases h4 : (e.f1.size : Int) ≤ 40
        · left
          rw [if_pos h1, if_pos h2, if_pos h3, if_pos h4, decide_eq_true (by omega)]
          exact ⟨rfl, h1, h2, by omega, by omega, hl, hb⟩
        · right; rw [if_pos h1, if_pos h2, if_pos h3, if_neg h4]; rfl
      · right; rw [if_pos h1, if_pos h2, if_neg h3]; rfl
    · right; rw [if_pos h1, if_neg h2]; rfl
  · right; rw [if_neg h1]; rfl
theorem append_both (L : List Int) (e : S25) (hL : L.length ≤ 9000) (hb : isBytes e.f2) (hl : e.f2.length ≤ 20000) : ∃ t : List Int × Int, t.1.length < 1000000000 ∧ Ev (fun k => ledger_Append.f k L e) t ∧ Ev (fun k => armillaryref28_Append.f k L e) t := by
  rcases valid_any e hb hl with ⟨hv, hok⟩ | hv
  · have hle := enc_len hok
    refine ⟨(L ++ rec_ e, 0), by rw [List.length_append, rec_len]; omega, append_ev hok L (by omega), ?_⟩
    refine Ev.bind1 (r := true) hv ?_
    refine Ev.congr (fun k => if_pos rfl) ?_
    refine Ev.congr (fun k => if_pos (by simp only [List.length_nil]; omega)) ?_
    refine Ev.bind (rrec_ev hok) ?_
    refine Ev.congr (fun k => if_pos (by rw [List.nil_append, rec_len]; omega)) (Ev.const rfl)
  · refine ⟨([], 1), by decide, ?_, Ev.bind1 (r := false) hv (Ev.congr (fun k => if_neg (by decide)) (Ev.const rfl))⟩
    have h1 : ∀ k, codec_EncodeEntry.f k e = some ([], 1) := fun k => by
      unfold codec_EncodeEntry.f
      rw [hv]
      rfl
    have h2 : ∀ k, ledger_record.f k e = some ([], 1) := fun k => by
      unfold ledger_record.f
      rw [h1]
      rfl
    refine Ev.congr (g := fun _ => some ([], 1)) (fun k => ?_) (Ev.const rfl)
    unfold ledger_Append.f
    rw [h2]
    rfl
theorem match_l1 (a2 : S25) (x1 : List Int) (hb : isBytes x1) (hl : x1.length ≤ 20000) (xs : List (List Int)) (hxs : ∀ L ∈ xs, isBytes L ∧ L.length ≤ 9000) (hn : xs.length ≤ 100) : ∀ (d n : Nat), d + n = xs.length → Ev (fun k => armillarylaw28_LedgerMatchesReference.l1 a2 x1 k xs (n : Int)) (.inl ())
  | 0, n, h => Ev.succ (g := fun _ => some (.inl ())) (fun k => by rw [armillarylaw28_LedgerMatchesReference.l1, if_neg (by omega)]) (Ev.const rfl)
  | d + 1, n, h => by
    have hn' : n < xs.length := by omega
    obtain ⟨hLb, hLl⟩ := hxs _ (List.getElem_mem hn')
    have hg : xs.getD n [] = xs[n] := by rw [List.getD_eq_getElem?_getD, List.getElem?_eq_getElem hn']; rfl
    obtain ⟨L, hL⟩ : ∃ L, xs[n] = L := ⟨_, rfl⟩
    rw [hL] at hg hLb hLl
    have ih := match_l1 a2 x1 hb hl xs hxs hn d (n + 1) (by omega)
    obtain ⟨t, ht, h7, h8⟩ := append_both L (⟨a2.f0, a2.f1, x1⟩ : S25) hLl hb hl
    obtain ⟨es, r, x, hok, hLe, h9, h10⟩ := scan_both hLb hLl
    have hlen := congrArg List.length hLe
    rw [List.length_append] at hlen
    have hge := logOf_ge hok
    have h13 : Ev (fun k => ledger_Repair.f k L) (logOf es) := by
      have h := h9
      rw [hLe] at h ⊢
      exact repair_ev h (by omega)
    have h14 : Ev (fun k => armillaryref28_Repair.f k L) (logOf es) := by
      refine Ev.bind h10 ?_
      refine Ev.congr (fun k => if_pos (by show (0 : Int) ≤ ((logOf es).length : Int); omega)) ?_
      refine Ev.congr (fun k => if_pos (by show ((logOf es).length : Int) ≤ (L.length : Int); omega)) (Ev.const ?_)
      show some (rpart L 0 ((logOf es).length : Int)) = _
      rw [rpart_take, hLe, List.take_left]
    have hx : (n : Int) < (xs.length : Int) := by omega
    have h0 : (0 : Int) ≤ (n : Int) := by omega
    refine Ev.succ (fun k => by rw [armillarylaw28_LedgerMatchesReference.l1]) ?_
    simp only [tn, hg]
    refine Ev.congr (fun k => if_pos hx) ?_
    refine Ev.congr (fun k => if_pos h0) ?_
    refine Ev.congr (fun k => if_pos hx) ?_
    refine Ev.bind h7 ?_
    refine Ev.congr (fun k => if_pos h0) ?_
    refine Ev.congr (fun k => if_pos hx) ?_
    refine Ev.bind h8 ?_
    refine Ev.congr (fun k => if_pos h0) ?_
    refine Ev.congr (fun k => if_pos hx) ?_
    refine Ev.bind h9 ?_
    refine Ev.congr (fun k => if_pos h0) ?_
    refine Ev.congr (fun k => if_pos hx) ?_
    refine Ev.bind h10 ?_
    refine Ev.bind (r := false) ?_ ?_
    · refine Ev.bind (same_bytes (a := t.1) ht) ?_
      refine Ev.congr (fun k => if_pos rfl) ?_
      refine Ev.congr (fun k => if_neg (fun h => h rfl)) ?_
      refine Ev.bind (same_ev (a := es) (by omega)) ?_
      refine Ev.congr (fun k => if_pos rfl) ?_
      refine Ev.congr (fun k => if_neg (fun h => h rfl)) ?_
      refine Ev.congr (fun k => if_neg (fun h => h rfl)) ?_
      refine Ev.congr (fun k => if_pos h0) ?_
      refine Ev.congr (fun k => if_pos hx) ?_
      refine Ev.bind h13 ?_
      refine Ev.congr (fun k => if_pos h0) ?_
      refine Ev.congr (fun k => if_pos hx) ?_
      refine Ev.bind h14 ?_
      exact Ev.bind (same_bytes (a := logOf es) (by omega)) (Ev.const rfl)
    refine Ev.congr (fun k => if_neg (by decide)) ?_
    refine Ev.congr (fun k => ?_) ih
    rw [Wn (by omega)]
theorem armillarylaw28_LedgerMatchesReference_holds (a0 : List Int) (a1 : List S25) (a2 : S25) (hp0 : ∀ x ∈ a0, (Lit.int .u8 x).wf = true) (h0 : a0.length ≤ 9223372036854775807) (hp1 : ∀ x ∈ a1, p25 x) (h1 : a1.length ≤ 9223372036854775807) (hp2 : p25 a2) :
    ∃ k, armillarylaw28_LedgerMatchesReference.f k a0 a1 a2 = some true := by
  obtain ⟨es, e2, hok, hn, h60⟩ := made_ev a1 hp1 (by omega) 6 (by decide)
  have hl := logOf_small hok h60
  have e3 := rlog_ev es hok (by omega)
  have hm : iMin (a0.length : Int) 400 = ((min a0.length 400 : Nat) : Int) := by rw [iMin_eq]; omega
  obtain ⟨g, hg⟩ : ∃ g, rpart a0 0 (iMin (a0.length : Int) 400) = g := ⟨_, rfl⟩
  have hg2 : a0.take (min a0.length 400) = g := by rw [← hg, hm, rpart_take]
  have hgl : g.length ≤ 400 := by rw [← hg2, List.length_take]; omega
  have hgb : isBytes g := by rw [← hg2]; exact fun x hx => u8_wf (hp0 x (List.mem_of_mem_take hx))
  have hlb := logOf_bytes hok
  have hb2 : isBytes a2.f2 := fun x hx => u8_wf (hp2.2.2 x hx)
  have key : ∀ x1 : List Int, isBytes x1 → x1.length ≤ 20000 → Ev (fun k => armillarylaw28_LedgerMatchesReference.k4 k a0 a1 a2 true x1) true := by
    intro x1 hx hxl
    unfold armillarylaw28_LedgerMatchesReference.k4
    refine Ev.bind e2 (Ev.bind e3 (Ev.bind e3 ?_))
    rw [hg]
    refine Ev.congr (fun k => if_pos (by omega)) ?_
    refine Ev.bind (match_l1 a2 x1 hx hxl [g, logOf es, logOf es ++ g] (fun L hL => ?_) (by show 3 ≤ 100; decide) 3 0 rfl) ?_
    · simp only [List.mem_cons, List.not_mem_nil, or_false] at hL
      rcases hL with rfl | rfl | rfl
      · exact ⟨hgb, by omega⟩
      · exact ⟨hlb, by omega⟩
      · exact ⟨hlb.app hgb, by rw [List.length_append]; omega⟩
    · refine Ev.bind (r := true) ?_ (Ev.const rfl)
      refine Ev.bind (chain_ev es hok (by omega)) (Ev.bind (rchain_ev es.length es rfl hok (by omega)) ?_)
      exact Ev.congr (fun k => if_pos rfl) (Ev.const rfl)
  refine Ev.get (Ev.bind sanity_ev ?_)
  refine Ev.congr (fun k => if_pos (by omega)) ?_
  refine Ev.congr (fun k => if_pos (by omega)) ?_
  by_cases h200 : (a2.f2.length : Int) > 200
  · refine Ev.bind1 (r := a2.f2.take 200) ?_ (key _ (hb2.take _) (by rw [List.length_take]; omega))
    rw [if_pos h200, if_pos (by decide), if_pos (by omega)]
    rfl
  · exact Ev.bind1 (if_neg h200) (key _ hb2 (by omega))
end Go.Proofs.YtiomeaoeegikkaaDoor
namespace Go.Proofs.YtiomeaoeegikkaaDoor.ledgerMatchesReference
open Go.ChangeShapes Go.WideShapes Go.ChangeAt Go.RowKit Go.Proofs.YtiomeaoeegikkaaDoor Go.Proofs.YtiomeaoeegikkaaDoor.RW
open Go.ChangeMaps (open_string shut_string)
set_option linter.unusedVariables false
set_option maxRecDepth 1000000
set_option maxHeartbeats 8000000

theorem own : ownKnob Tryd.prog.godebug = none := by kernel_rfl
theorem laidOut : laidOutB Tryd.prog = true := by kernel_rfl
theorem lifted (os : Os) (started : os.Started) (H : Type) (enc : TypeId × Value → H) :
  ReturnsInHanded {} Tryd.checked os 3 .any (fun w args => (Rows.ledgerMatchesReferenceSpec.pre enc Tryd.prog Tryd.f3 [] false w args ∧ laidMetH Tryd.prog lh.laid w) ∧ sizedMet enc Tryd.prog Tryd.f3 (OpenSpec.ofChange Rows.ledgerMatchesReferenceSpec) false w args) (Rows.ledgerMatchesReferenceSpec.post enc Tryd.prog Tryd.f3 false true false false) := by
 refine returnsInHanded_of_change_and (C := Tryd.checked) (X := fun w _ => laidMetH Tryd.prog lh.laid w) (fun _ _ _ hh h => h.of_heap hh) own started (by kernel_rfl) Tryd.func3
  (ChangeSpec.witness_at (enc := enc) (C := Tryd.checked) (os := os) (X := fun w _ => laidMetH Tryd.prog lh.laid w) false (lh.laidWorld os) #[.slice none 0 0, .slice none 0 0, .agg #[.int .i64 0, .string (⟨#[]⟩ : ByteArray), .slice none 0 0]] 8 rfl (by kernel_rfl) (by kernel_rfl) (by kernel_rfl) (by kernel_rfl) (by kernel_rfl) (lh.laidWorld_met os _)) ?_
 intro W base args ds gs before hval0 hW hcnd _ hL _
 have hval : ∀ (j : Nat) t v, Tryd.f3.params[j]? = some t → args[j]? = some v → Value.okWide Tryd.prog W .any base t v := hval0
 have hW' := hW
 obtain ⟨p, q, hA0, hV, rfl, hfz, hnd⟩ := hW
 have hA : DataW.TrodAll enc Tryd.prog W 0 (fun _ => true) true Tryd.f3.params.toList args.toList ds p := hA0
 rw [Tryd.params3] at hA hval
 obtain ⟨v0, vs0, d0, ds0, p0, q0, hargs, rfl, rfl, h0, z0⟩ := trodAll_cons hA
 obtain ⟨v1, vs1, d1, ds1, p1, q1, rfl, rfl, rfl, h1, z1⟩ := trodAll_cons z0
 obtain ⟨v2, vs2, d2, ds2, p2, q2, rfl, rfl, rfl, h2, z2⟩ := trodAll_cons z1
 obtain ⟨rfl, rfl, rfl⟩ := trodAll_nil z2
 obtain rfl : args = #[v0, v1, v2] := by cases args; simp_all
 obtain ⟨rfl, rfl⟩ := trodVars_none hV
 have k0 := h0
 have lt0 : ∀ x ∈ p0, x.block < W.heap.size := by obtain ⟨m, hm⟩ := k0; exact DataW.trod_lt m _ _ _ hm
 obtain ⟨b0, len0, cap0, rfl⟩ := okWide_slice Tryd.underlying22 (hval 0 22 v0 rfl rfl)
 obtain ⟨fuel0, hf0⟩ := h0
 obtain ⟨a0, ⟨A0, c0, e0, l0, r0⟩, hp0⟩ := (opens_slice (e := 5) (opens_int (by kernel_rfl)) (by kernel_rfl) (by kernel_rfl) (Nat.le_of_ble_eq_true (by kernel_rfl)) : Opens Tryd.prog (Ty.slice (Ty.int .u8)) 22 (fun l => ∀ x ∈ l, (fun n => (Lit.int .u8 n).wf = true) x)) W 0 _ _ _ _ _ hf0
 obtain ⟨rfl, rfl, rfl⟩ : b0 = A0 ∧ len0 = a0.length ∧ cap0 = c0 := by simpa [Value.cells] using e0
 have k1 := h1
 have lt1 : ∀ x ∈ p1, x.block < W.heap.size := by obtain ⟨m, hm⟩ := k1; exact DataW.trod_lt m _ _ _ hm
 obtain ⟨b1, len1, cap1, rfl⟩ := okWide_slice Tryd.underlying23 (hval 1 23 v1 rfl rfl)
 obtain ⟨fuel1, hf1⟩ := h1
 obtain ⟨a1, ⟨A1, c1, e1, l1, r1⟩, hp1⟩ := (opens_slice (e := 25) o25 (by kernel_rfl) (by kernel_rfl) (Nat.le_of_ble_eq_true (by kernel_rfl)) : Opens Tryd.prog (Ty.slice t25) 23 (fun l => ∀ x ∈ l, p25 x)) W 0 _ _ _ _ _ hf1
 obtain ⟨rfl, rfl, rfl⟩ : b1 = A1 ∧ len1 = a1.length ∧ cap1 = c1 := by simpa [Value.cells] using e1
 have k2 := h2
 have lt2 : ∀ x ∈ p2, x.block < W.heap.size := by obtain ⟨m, hm⟩ := k2; exact DataW.trod_lt m _ _ _ hm
 obtain ⟨cs2, rfl⟩ : ∃ cs, v2 = .agg cs := by
  have hv := (hval 2 25 v2 rfl rfl)
  simp only [Value.okWide, Tryd.underlying25] at hv
  obtain ⟨cs, e, _⟩ := hv
  exact ⟨cs, e⟩
 obtain ⟨fuel2, hf2⟩ := h2
 obtain ⟨a2, hk2, hp2⟩ := o25 W 0 _ _ _ _ _ hf2
 obtain ⟨A2_2, c2_2, e2, l2_2, r2_2⟩ := t25_open hk2
 obtain rfl : cs2 = #[.int .i64 a2.f0, .string a2.f1, .slice A2_2 a2.f2.length c2_2] := by simpa [Value.cells] using congrArg List.toArray e2
 clear hA0 hval0
 obtain ⟨k, hk⟩ := armillarylaw28_LedgerMatchesReference_holds a0 a1 a2 hp0 r0.1 hp1 r1.1 hp2
 refine (armillarylaw28_LedgerMatchesReference.calls k (wImm W) a0 b0 cap0 a1 b1 cap1 a2 A2_2 c2_2 W (wImm_at W) (lh.glob_of_laid hL) l0 r0 l1 r1 l2_2 r2_2 true hk).mono ?_
 rintro e W' ⟨v, rfl, J, rfl, hg⟩
 have bel : Below W.heap.size W W' := ⟨hg.evo.os, hg.evo.tape, hg.evo.output, hg.evo.size, fun k hk => hg.evo.blk k hk (fun h => h)⟩
 exact ⟨_, rfl, _, _, _, [], _, [], hW', trodAll_mk1 (shut_bool Tryd.underlying4 _), (trodAll_cons_mk (Below.trod laidOut (by kernel_rfl) (of_decide_eq_true (by kernel_rfl)) k0 bel lt0) (trodAll_cons_mk (Below.trod laidOut (by kernel_rfl) (of_decide_eq_true (by kernel_rfl)) k1 bel lt1) (trodAll_cons_mk (Below.trod laidOut (by kernel_rfl) (of_decide_eq_true (by kernel_rfl)) k2 bel lt2) trodAll_mk0))), rfl, bel.frame _, fun h => by cases h⟩

theorem over : Rows.ledgerMatchesReferenceRow.holds Tryd.pinned (OpenSpec.ofChange Rows.ledgerMatchesReferenceSpec) :=
 OpenClaim.holds_of_wide 3 Tryd.f3 rfl rfl rfl rfl rfl rfl rfl ⟨rfl, rfl, rfl, rfl, rfl⟩ rfl rfl rfl rfl rfl (by kernel_rfl) Tryd.func3 (by kernel_rfl)
  (of_decide_eq_true (by kernel_rfl)) (by unfold Func.isWrapper; first | (rw [if_pos (by decide +kernel)]; kernel_rfl) | (rw [if_neg (by decide +kernel)]; exact ⟨rfl, rfl⟩))
  (fun os started H enc _ => lifted os started H enc)
theorem tied : Rows.LedgerMatchesReferenceCardSaid :=
  Claim7.holds_tied_plain_at .later [] [.handle] true (true, "fef0f658d46f2b31548aceb5a193b059c844c18693a0855299c2bac37f2f0ac5") true
    over (fun _ h => by cases h) (by kernel_rfl) (fun _ h => by cases h) ledgerMatchesReference_row_tie rfl ⟨rfl, rfl⟩ (by kernel_rfl) rfl
    (fun f fn hf hfn => by
      obtain rfl : f = 3 := Option.some.inj ((show Tryd.prog.funcNamed "armillary/armillarylaw28.LedgerMatchesReference" = some 3 by kernel_rfl).symm.trans hf) |>.symm
      obtain rfl : fn = Tryd.f3 := (Option.some.inj (Tryd.func3.symm.trans hfn)).symm
      refine ⟨by kernel_rfl, fun j t ht => ?_⟩
      have hm := Array.mem_of_getElem? ht
      rw [Tryd.params3] at hm
      simp only [List.mem_toArray, List.mem_cons, List.not_mem_nil, or_false] at hm
      first
        | (obtain rfl := hm; show Tryd.prog.wantsStandIn _ = false; kernel_rfl)
        | (rcases hm with rfl | rfl <;> show Tryd.prog.wantsStandIn _ = false <;> kernel_rfl)
        | (rcases hm with rfl | rfl | rfl <;> show Tryd.prog.wantsStandIn _ = false <;> kernel_rfl))
    (by kernel_rfl)
theorem proved : Rows.LedgerMatchesReferenceCardSaid := tied
#print axioms proved
end Go.Proofs.YtiomeaoeegikkaaDoor.ledgerMatchesReference
