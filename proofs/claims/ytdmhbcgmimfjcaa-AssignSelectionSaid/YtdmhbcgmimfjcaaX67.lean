/- Words of the walk, the functions' walks and plain laws, joined; no conditions beyond those that the theorems name. -/
import Derived.Test.YtdmhbcgmimfjcaaX62
import Derived.Test.YtdmhbcgmimfjcaaX66
import Derived.Test.YtdmhbcgmimfjcaaX65
import Derived.Test.YtdmhbcgmimfjcaaX64
import Derived.ChangeArms
import Derived.DataReads
import Derived.OpenShut
namespace Go.Proofs.Ytdmhbcgmimfjcaa
open Go Go.Proofs.Ytdmhbcgmimfjcaa.RW
set_option linter.unusedVariables false
set_option maxRecDepth 100000
set_option maxHeartbeats 8000000

/-! ### armillarylaw22_AssignSelection: function 6, armillary/armillarylaw22.AssignSelection -/
noncomputable def K6_0 : Code := cBody Try.f6
noncomputable def O6_36 : List Oper := cOps (cL (cR (cR (cR (cR (cR (cR (cR K6_0))))))))
noncomputable def O6_63 : List Oper := cOps (cR (cL (cR (cL (cL (cR (cL (cL (cR (cL (cR (cR (cR (cR (cR (cR (cR (cR (cR K6_0)))))))))))))))))))
noncomputable def O6_79 : List Oper := cOps (cL (cR (cR (cR (cR (cR (cR (cR (cR (cR (cR (cR K6_0))))))))))))
def armillarylaw22_AssignSelection.k1  (x6 : Bool) : Option (Bool) := (some x6)
def armillarylaw22_AssignSelection.k2 (k : Nat) (a1 : Int) (a2 : Int) (t1 : Bool) (t2 : List (List Int)) (t4 : Int × Bool) (t5 : Int) (x3 : Int) (x4 : Int) (x5 : Bool) : Option (Bool) := (if x5 = true then (some t1) else ((if 0 ≤ ((W .i64 (a1)).tmod (t2.length : Int)) then (if ((W .i64 (a1)).tmod (t2.length : Int)) < (t2.length : Int) then (if 0 ≤ ((W .i64 (a2)).tmod t5) then (if ((W .i64 (a2)).tmod t5) < ((t2.getD ((W .i64 (a1)).tmod (t2.length : Int)).toNat []).length : Int) then ((armillaryref22_Best.f k t2 (W .i64 (((W .i64 (a1)).tmod (t2.length : Int)) + 1))).bind fun t6 => (if 0 ≤ ((W .i64 (a2)).tmod t5) then (if 0 ≤ (bOr .i64 x3 (W .i64 (1 * 2 ^ (min ((W .i64 (a2)).tmod t5).toNat 64)))) then (if (bOr .i64 x3 (W .i64 (1 * 2 ^ (min ((W .i64 (a2)).tmod t5).toNat 64)))) < (t6.length : Int) then (if (W .i64 ((W .i64 (x4 + ((t2.getD ((W .i64 (a1)).tmod (t2.length : Int)).toNat []).getD ((W .i64 (a2)).tmod t5).toNat 0))) + (t6.getD (bOr .i64 x3 (W .i64 (1 * 2 ^ (min ((W .i64 (a2)).tmod t5).toNat 64)))).toNat 0))) < t4.1 then (some t1) else (some false)) else none) else none) else none)) else none) else none) else none) else none).bind (armillarylaw22_AssignSelection.k1)))
def armillarylaw22_AssignSelection.k3 (k : Nat) (a1 : Int) (a2 : Int) (t1 : Bool) (t2 : List (List Int)) (t3 : List Int × S26) (t4 : Int × Bool) (t5 : Int) : Int × Int → Option (Bool)
 | (x3, x4) => ((if 0 ≤ ((W .i64 (a2)).tmod t5) then (if (bAnd .i64 (Int.fdiv x3 (2 ^ (min ((W .i64 (a2)).tmod t5).toNat 64))) 1) = 1 then (some true) else (if 0 ≤ ((W .i64 (a1)).tmod (t2.length : Int)) then (if ((W .i64 (a1)).tmod (t2.length : Int)) < (t3.1.length : Int) then (if (t3.1.getD ((W .i64 (a1)).tmod (t2.length : Int)).toNat 0) ≥ 0 then (if 0 ≤ ((W .i64 (a1)).tmod (t2.length : Int)) then (if ((W .i64 (a1)).tmod (t2.length : Int)) < (t3.1.length : Int) then (some (decide (((W .i64 (a2)).tmod t5) ≥ (t3.1.getD ((W .i64 (a1)).tmod (t2.length : Int)).toNat 0)))) else none) else none) else (some false)) else none) else none)) else none).bind (armillarylaw22_AssignSelection.k2 k a1 a2 t1 t2 t4 t5 x3 x4))
def armillarylaw22_AssignSelection.l1 (a1 : Int) (t2 : List (List Int)) (t3 : List Int × S26) : Nat → Int → Int → Int → Option (Int × Int)
 | 0, _, _, _ => none
 | k + 1, x7, x8, x9 => (if x9 < ((W .i64 (a1)).tmod (t2.length : Int)) then (if 0 ≤ x9 then (if x9 < (t3.1.length : Int) then ((if (t3.1.getD (x9).toNat 0) ≥ 0 then (if 0 ≤ x9 then (if x9 < (t3.1.length : Int) then (if 0 ≤ (t3.1.getD (x9).toNat 0) then (if 0 ≤ x9 then (if x9 < (t2.length : Int) then (if 0 ≤ x9 then (if x9 < (t3.1.length : Int) then (if 0 ≤ (t3.1.getD (x9).toNat 0) then (if (t3.1.getD (x9).toNat 0) < ((t2.getD (x9).toNat []).length : Int) then (some (bOr .i64 x7 (W .i64 (1 * 2 ^ (min ((t3.1.getD (x9).toNat 0)).toNat 64))), W .i64 (x8 + ((t2.getD (x9).toNat []).getD ((t3.1.getD (x9).toNat 0)).toNat 0)))) else none) else none) else none) else none) else none) else none) else none) else none) else none) else (some (x7, x8))).bind (fun (x10, x11) => (armillarylaw22_AssignSelection.l1 a1 t2 t3 k x10 x11 (W .i64 (x9 + 1))))) else none) else none) else (some (x7, x8)))
def armillarylaw22_AssignSelection.k5 (k : Nat) (a1 : Int) (a2 : Int) (t1 : Bool) (t2 : List (List Int)) (t3 : List Int × S26) (t4 : Int × Bool) (x2 : Bool) : Option (Bool) := (if x2 = true then (some t1) else (if (t2.length : Int) = 0 then none else ((armillaryref22_Columns.f t2).bind fun t5 => (if t5 = 0 then none else ((armillarylaw22_AssignSelection.l1 a1 t2 t3 k 0 0 0).bind (armillarylaw22_AssignSelection.k3 k a1 a2 t1 t2 t3 t4 t5))))))
def armillarylaw22_AssignSelection.k6 (k : Nat) (a1 : Int) (a2 : Int) (t1 : Bool) (t2 : List (List Int)) (t3 : List Int × S26) (t4 : Int × Bool) (x1 : Bool) : Option (Bool) := (if x1 = true then (some false) else ((if (t2.length : Int) = 0 then (some true) else ((armillaryref22_Columns.f t2).bind fun t7 => (some (t7 == 0)))).bind (armillarylaw22_AssignSelection.k5 k a1 a2 t1 t2 t3 t4)))
def armillarylaw22_AssignSelection.f (k : Nat) (a0 : List (List Int)) (a1 : Int) (a2 : Int) : Option (Bool) := ((armillarylaw22_sanity.f k ).bind fun t1 => ((armillaryref22_Made.f k a0 7 6).bind fun t2 => ((assign_Solve.f k t2).bind fun t3 => ((assign_Value.f k t2 t3.1).bind fun t4 => ((if t4.2 = true then (if (t3.1.length : Int) ≠ (t2.length : Int) then (some true) else ((armillaryref22_Optimum.f k t2).bind fun t8 => (some (t4.1 != t8)))) else (some true)).bind (armillarylaw22_AssignSelection.k6 k a1 a2 t1 t2 t3 t4))))))
def armillarylaw22_AssignSelection.Post (I : Imm) (w : World) (r : Bool) (v : Value) (w' : World) : Prop :=
 ∃ (J : Imm), v = .bool r ∧ Got w w' I J []
noncomputable def a6_36n : List Nat := [0, 1, 0, 4, 15, 0, 32, 0, 128, 480, 415, 2047]
theorem a6_36 : ancs O6_36 [] = a6_36n := by kernel_rfl
theorem a6_36o : drawOk O6_36 a6_36n 11 = true := by kernel_rfl
noncomputable def u6d1l (t5 : Int) : List Ld :=
 [⟨8, fun x => i6 t5, fun x => [], fun x J => True, fun x J J' h f => trivial⟩]
noncomputable def u6d1g (a1 : Int) (a2 : Int) (t2 : List (List Int)) (t5 : Int) : List (Nat × ((Nat → Wt) → Value)) := [(4, fun u => i6 ((W .i64 (a1)).tmod (t2.length : Int))), (9, fun u => i6 ((W .i64 (a2)).tmod t5))]
noncomputable def u6d1q (a1 : Int) (a2 : Int) (t1 : Bool) (t2 : List (List Int)) (A1 : Option Addr) (c1 : Nat) (t3 : List Int × S26) (A2 : Option Addr) (c2 : Nat) (A3 : Option Addr) (c3 : Nat) (A4 : Option Addr) (c4 : Nat) (nx3 : Nat) (t4 : Int × Bool) (x2 : Bool) (t5 : Int) (u : Nat → Wt) : Option (List Value × List (Nat × Value) × List (Nat × Nat)) := qSim Try.prog [] [⟨nx3, [.slice A3 t3.2.f0.length c3, .slice A4 t3.2.f1.length c4], 26⟩] O6_36 ⟨141, []⟩ (Ld.vl (u6d1l t5)) (u6d1g a1 a2 t2 t5) u [.no, .no, .no, .no, .no, .no, .no, .no, .no, .no, .no] 0 (O6_36.take 11) [(1, .int .u8 a1), (2, .int .u8 a2), (7, .bool t1), (8, .slice A1 t2.length c1), (9, .slice A2 t3.1.length c2), (11, i6 t4.1), (54, .bool x2)]
noncomputable def u6d1s (a1 : Int) (a2 : Int) (t2 : List (List Int)) (A1 : Option Addr) (c1 : Nat) (t5 : Int) (u : Nat → Wt) : List Value := [.int .u8 a1, i6 (W .i64 (a1)), .slice A1 t2.length c1, i6 (t2.length : Int), i6 ((W .i64 (a1)).tmod (t2.length : Int)), .int .u8 a2, i6 (W .i64 (a2)), .slice A1 t2.length c1, i6 t5, i6 ((W .i64 (a2)).tmod t5), i6 ((W .i64 (a1)).tmod (t2.length : Int))]
noncomputable def u6d1f (a1 : Int) (a2 : Int) (t1 : Bool) (t2 : List (List Int)) (A1 : Option Addr) (c1 : Nat) (t3 : List Int × S26) (A2 : Option Addr) (c2 : Nat) (t4 : Int × Bool) (x2 : Bool) (t5 : Int) (i : Nat) (u : Nat → Wt) : List (Nat × Value) := foldPut ⟨141, []⟩ [(1, .int .u8 a1), (2, .int .u8 a2), (7, .bool t1), (8, .slice A1 t2.length c1), (9, .slice A2 t3.1.length c2), (11, i6 t4.1), (54, .bool x2)] (O6_36.take i) (((u6d1s a1 a2 t2 A1 c1 t5) u).take i)
theorem u6d1v (a1 : Int) (a2 : Int) (t1 : Bool) (t2 : List (List Int)) (A1 : Option Addr) (c1 : Nat) (t3 : List Int × S26) (A2 : Option Addr) (c2 : Nat) (A3 : Option Addr) (c3 : Nat) (A4 : Option Addr) (c4 : Nat) (nx3 : Nat) (t4 : Int × Bool) (x2 : Bool) (t5 : Int) (u : Nat → Wt) : (u6d1q a1 a2 t1 t2 A1 c1 t3 A2 c2 A3 c3 A4 c4 nx3 t4 x2 t5 u).map (fun x => (x.1, x.2.1)) = some ((u6d1s a1 a2 t2 A1 c1 t5) u, (u6d1f a1 a2 t1 t2 A1 c1 t3 A2 c2 t4 x2 t5 11) u) := by kernel_rfl
theorem u6d1e (a1 : Int) (a2 : Int) (t1 : Bool) (t2 : List (List Int)) (A1 : Option Addr) (c1 : Nat) (t3 : List Int × S26) (A2 : Option Addr) (c2 : Nat) (A3 : Option Addr) (c3 : Nat) (A4 : Option Addr) (c4 : Nat) (nx3 : Nat) (t4 : Int × Bool) (x2 : Bool) (t5 : Int) (u : Nat → Wt) : (u6d1q a1 a2 t1 t2 A1 c1 t3 A2 c2 A3 c3 A4 c4 nx3 t4 x2 t5 u).map (fun x => x.2.2.map (·.1)) = (u6d1q a1 a2 t1 t2 A1 c1 t3 A2 c2 A3 c3 A4 c4 nx3 t4 x2 t5 u).map (fun x => x.2.2.map (·.2)) := by kernel_rfl
noncomputable def a6_79n : List Nat := [0, 0, 0, 6, 14, 0, 62, 126, 255, 0, 0, 1024, 3584, 0, 0, 16384, 57344, 130560, 261632, 524287, 0, 2097151, 4194303, 8388607, 16777215, 33554431]
theorem a6_79 : ancs O6_79 [] = a6_79n := by kernel_rfl
theorem a6_79o : drawOk O6_79 a6_79n 21 = true := by kernel_rfl
noncomputable def u6d2l (t6 : List Int) : List Ld :=
 [⟨12, fun x => .slice ((x 0).1) t6.length ((x 0).2.1), fun x => [], fun x J => t6.length ≤ (x 0).2.1 ∧ Rd (Ty.int .i64) J (x 0).1 t6 ∧ True, fun x J J' h f => ⟨f.1, Rd.ext h f.2.1, trivial⟩⟩]
noncomputable def u6d2g (a1 : Int) (a2 : Int) (t2 : List (List Int)) (t5 : Int) (x3 : Int) (g1_ : Nat) (o1_ : Nat) (g2_ : Nat) (o2_ : Nat) (t6 : List Int) : List (Nat × ((Nat → Wt) → Value)) := [(3, fun u => pt g1_ (o1_ + ((W .i64 (a1)).tmod (t2.length : Int)).toNat * 1)), (6, fun u => pt g2_ (o2_ + ((W .i64 (a2)).tmod t5).toNat * 1)), (15, fun u => i6 (W .i64 (1 * 2 ^ (min ((W .i64 (a2)).tmod t5).toNat 64)))), (17, fun u => idxP ((u 12 0).1) ((bOr .i64 x3 (W .i64 (1 * 2 ^ (min ((W .i64 (a2)).tmod t5).toNat 64)))).toNat * 1)), (18, fun u => i6 (t6.getD (bOr .i64 x3 (W .i64 (1 * 2 ^ (min ((W .i64 (a2)).tmod t5).toNat 64)))).toNat 0))]
noncomputable def u6d2q (a1 : Int) (a2 : Int) (t1 : Bool) (t2 : List (List Int)) (A1 : Option Addr) (c1 : Nat) (t3 : List Int × S26) (A3 : Option Addr) (c3 : Nat) (A4 : Option Addr) (c4 : Nat) (nx3 : Nat) (t4 : Int × Bool) (t5 : Int) (x3 : Int) (x4 : Int) (x5 : Bool) (A1_ : Option Addr) (c1_ : Nat) (g1_ : Nat) (o1_ : Nat) (g2_ : Nat) (o2_ : Nat) (t6 : List Int) (u : Nat → Wt) : Option (List Value × List (Nat × Value) × List (Nat × Nat)) := qSim Try.prog [(⟨g1_, o1_ + ((W .i64 (a1)).tmod (t2.length : Int)).toNat * 1, none⟩, .slice A1_ ((t2.getD ((W .i64 (a1)).tmod (t2.length : Int)).toNat []).length) c1_), (⟨g2_, o2_ + ((W .i64 (a2)).tmod t5).toNat * 1, none⟩, i6 ((t2.getD ((W .i64 (a1)).tmod (t2.length : Int)).toNat []).getD ((W .i64 (a2)).tmod t5).toNat 0))] [⟨nx3, [.slice A3 t3.2.f0.length c3, .slice A4 t3.2.f1.length c4], 26⟩] O6_79 ⟨141, []⟩ (Ld.vl (u6d2l t6)) (u6d2g a1 a2 t2 t5 x3 g1_ o1_ g2_ o2_ t6) u [.no, .no, .no, .no, .r 0, .no, .no, .r 1, .no, .no, .no, .no, .no, .no, .no, .no, .no, .no, .no, .no, .no] 0 (O6_79.take 21) [(7, .bool t1), (8, .slice A1 t2.length c1), (11, i6 t4.1), (13, i6 ((W .i64 (a1)).tmod (t2.length : Int))), (14, i6 ((W .i64 (a2)).tmod t5)), (15, i6 x3), (16, i6 x4), (114, .bool x5)]
noncomputable def u6d2s (a1 : Int) (a2 : Int) (t2 : List (List Int)) (A1 : Option Addr) (c1 : Nat) (t4 : Int × Bool) (t5 : Int) (x3 : Int) (x4 : Int) (A1_ : Option Addr) (c1_ : Nat) (g1_ : Nat) (o1_ : Nat) (g2_ : Nat) (o2_ : Nat) (t6 : List Int) (u : Nat → Wt) : List Value := [i6 x4, .slice A1 t2.length c1, i6 ((W .i64 (a1)).tmod (t2.length : Int)), pt g1_ (o1_ + ((W .i64 (a1)).tmod (t2.length : Int)).toNat * 1), .slice A1_ ((t2.getD ((W .i64 (a1)).tmod (t2.length : Int)).toNat []).length) c1_, i6 ((W .i64 (a2)).tmod t5), pt g2_ (o2_ + ((W .i64 (a2)).tmod t5).toNat * 1), i6 ((t2.getD ((W .i64 (a1)).tmod (t2.length : Int)).toNat []).getD ((W .i64 (a2)).tmod t5).toNat 0), i6 (W .i64 (x4 + ((t2.getD ((W .i64 (a1)).tmod (t2.length : Int)).toNat []).getD ((W .i64 (a2)).tmod t5).toNat 0))), .slice A1 t2.length c1, i6 ((W .i64 (a1)).tmod (t2.length : Int)), i6 (W .i64 (((W .i64 (a1)).tmod (t2.length : Int)) + 1)), .slice ((u 12 0).1) t6.length ((u 12 0).2.1), i6 x3, i6 ((W .i64 (a2)).tmod t5), i6 (W .i64 (1 * 2 ^ (min ((W .i64 (a2)).tmod t5).toNat 64))), i6 (bOr .i64 x3 (W .i64 (1 * 2 ^ (min ((W .i64 (a2)).tmod t5).toNat 64)))), idxP ((u 12 0).1) ((bOr .i64 x3 (W .i64 (1 * 2 ^ (min ((W .i64 (a2)).tmod t5).toNat 64)))).toNat * 1), i6 (t6.getD (bOr .i64 x3 (W .i64 (1 * 2 ^ (min ((W .i64 (a2)).tmod t5).toNat 64)))).toNat 0), i6 (W .i64 ((W .i64 (x4 + ((t2.getD ((W .i64 (a1)).tmod (t2.length : Int)).toNat []).getD ((W .i64 (a2)).tmod t5).toNat 0))) + (t6.getD (bOr .i64 x3 (W .i64 (1 * 2 ^ (min ((W .i64 (a2)).tmod t5).toNat 64)))).toNat 0))), i6 t4.1]
noncomputable def u6d2f (a1 : Int) (a2 : Int) (t1 : Bool) (t2 : List (List Int)) (A1 : Option Addr) (c1 : Nat) (t4 : Int × Bool) (t5 : Int) (x3 : Int) (x4 : Int) (x5 : Bool) (A1_ : Option Addr) (c1_ : Nat) (g1_ : Nat) (o1_ : Nat) (g2_ : Nat) (o2_ : Nat) (t6 : List Int) (i : Nat) (u : Nat → Wt) : List (Nat × Value) := foldPut ⟨141, []⟩ [(7, .bool t1), (8, .slice A1 t2.length c1), (11, i6 t4.1), (13, i6 ((W .i64 (a1)).tmod (t2.length : Int))), (14, i6 ((W .i64 (a2)).tmod t5)), (15, i6 x3), (16, i6 x4), (114, .bool x5)] (O6_79.take i) (((u6d2s a1 a2 t2 A1 c1 t4 t5 x3 x4 A1_ c1_ g1_ o1_ g2_ o2_ t6) u).take i)
theorem u6d2v (a1 : Int) (a2 : Int) (t1 : Bool) (t2 : List (List Int)) (A1 : Option Addr) (c1 : Nat) (t3 : List Int × S26) (A3 : Option Addr) (c3 : Nat) (A4 : Option Addr) (c4 : Nat) (nx3 : Nat) (t4 : Int × Bool) (t5 : Int) (x3 : Int) (x4 : Int) (x5 : Bool) (A1_ : Option Addr) (c1_ : Nat) (g1_ : Nat) (o1_ : Nat) (g2_ : Nat) (o2_ : Nat) (t6 : List Int) (u : Nat → Wt) : (u6d2q a1 a2 t1 t2 A1 c1 t3 A3 c3 A4 c4 nx3 t4 t5 x3 x4 x5 A1_ c1_ g1_ o1_ g2_ o2_ t6 u).map (fun x => (x.1, x.2.1)) = some ((u6d2s a1 a2 t2 A1 c1 t4 t5 x3 x4 A1_ c1_ g1_ o1_ g2_ o2_ t6) u, (u6d2f a1 a2 t1 t2 A1 c1 t4 t5 x3 x4 x5 A1_ c1_ g1_ o1_ g2_ o2_ t6 21) u) := by kernel_rfl
theorem u6d2e (a1 : Int) (a2 : Int) (t1 : Bool) (t2 : List (List Int)) (A1 : Option Addr) (c1 : Nat) (t3 : List Int × S26) (A3 : Option Addr) (c3 : Nat) (A4 : Option Addr) (c4 : Nat) (nx3 : Nat) (t4 : Int × Bool) (t5 : Int) (x3 : Int) (x4 : Int) (x5 : Bool) (A1_ : Option Addr) (c1_ : Nat) (g1_ : Nat) (o1_ : Nat) (g2_ : Nat) (o2_ : Nat) (t6 : List Int) (u : Nat → Wt) : (u6d2q a1 a2 t1 t2 A1 c1 t3 A3 c3 A4 c4 nx3 t4 t5 x3 x4 x5 A1_ c1_ g1_ o1_ g2_ o2_ t6 u).map (fun x => x.2.2.map (·.1)) = (u6d2q a1 a2 t1 t2 A1 c1 t3 A3 c3 A4 c4 nx3 t4 t5 x3 x4 x5 A1_ c1_ g1_ o1_ g2_ o2_ t6 u).map (fun x => x.2.2.map (·.2)) := by kernel_rfl
noncomputable def a6_63n : List Nat := [0, 0, 0, 6, 14, 0, 0, 96, 224, 510, 1022, 2047, 4095]
theorem a6_63 : ancs O6_63 [] = a6_63n := by kernel_rfl
theorem a6_63o : drawOk O6_63 a6_63n 11 = true := by kernel_rfl
noncomputable def u6d3l  : List Ld :=
 []
noncomputable def u6d3g (t3 : List Int × S26) (x9 : Int) (g7_ : Nat) (o7_ : Nat) (g8_ : Nat) (g9_ : Nat) (o9_ : Nat) : List (Nat × ((Nat → Wt) → Value)) := [(3, fun u => pt g7_ (o7_ + (x9).toNat * 1)), (7, fun u => pt g8_ (0 + (x9).toNat * 1)), (9, fun u => pt g9_ (o9_ + ((t3.1.getD (x9).toNat 0)).toNat * 1))]
noncomputable def u6d3q (a1 : Int) (a2 : Int) (t1 : Bool) (t2 : List (List Int)) (A1 : Option Addr) (c1 : Nat) (t3 : List Int × S26) (A2 : Option Addr) (c2 : Nat) (A3 : Option Addr) (c3 : Nat) (A4 : Option Addr) (c4 : Nat) (nx3 : Nat) (t4 : Int × Bool) (t5 : Int) (x7 : Int) (x8 : Int) (x9 : Int) (A7_ : Option Addr) (c7_ : Nat) (g7_ : Nat) (o7_ : Nat) (g8_ : Nat) (g9_ : Nat) (o9_ : Nat) (u : Nat → Wt) : Option (List Value × List (Nat × Value) × List (Nat × Nat)) := qSim Try.prog [(⟨g7_, o7_ + (x9).toNat * 1, none⟩, .slice A7_ ((t2.getD (x9).toNat []).length) c7_), (⟨g8_, 0 + (x9).toNat * 1, none⟩, i6 (t3.1.getD (x9).toNat 0)), (⟨g9_, o9_ + ((t3.1.getD (x9).toNat 0)).toNat * 1, none⟩, i6 ((t2.getD (x9).toNat []).getD ((t3.1.getD (x9).toNat 0)).toNat 0))] [⟨nx3, [.slice A3 t3.2.f0.length c3, .slice A4 t3.2.f1.length c4], 26⟩] O6_63 ⟨141, []⟩ (Ld.vl u6d3l) (u6d3g t3 x9 g7_ o7_ g8_ g9_ o9_) u [.no, .no, .no, .no, .r 0, .no, .no, .no, .r 1, .no, .r 2] 0 (O6_63.take 11) [(15, i6 (bOr .i64 x7 (W .i64 (1 * 2 ^ (min ((t3.1.getD (x9).toNat 0)).toNat 64))))), (7, .bool t1), (8, .slice A1 t2.length c1), (9, .slice A2 t3.1.length c2), (11, i6 t4.1), (13, i6 ((W .i64 (a1)).tmod (t2.length : Int))), (14, i6 ((W .i64 (a2)).tmod t5)), (16, i6 x8), (17, i6 x9)]
noncomputable def u6d3s (t2 : List (List Int)) (A1 : Option Addr) (c1 : Nat) (t3 : List Int × S26) (A2 : Option Addr) (c2 : Nat) (x8 : Int) (x9 : Int) (A7_ : Option Addr) (c7_ : Nat) (g7_ : Nat) (o7_ : Nat) (g8_ : Nat) (g9_ : Nat) (o9_ : Nat) (u : Nat → Wt) : List Value := [i6 x8, .slice A1 t2.length c1, i6 x9, pt g7_ (o7_ + (x9).toNat * 1), .slice A7_ ((t2.getD (x9).toNat []).length) c7_, .slice A2 t3.1.length c2, i6 x9, pt g8_ (0 + (x9).toNat * 1), i6 (t3.1.getD (x9).toNat 0), pt g9_ (o9_ + ((t3.1.getD (x9).toNat 0)).toNat * 1), i6 ((t2.getD (x9).toNat []).getD ((t3.1.getD (x9).toNat 0)).toNat 0)]
noncomputable def u6d3f (a1 : Int) (a2 : Int) (t1 : Bool) (t2 : List (List Int)) (A1 : Option Addr) (c1 : Nat) (t3 : List Int × S26) (A2 : Option Addr) (c2 : Nat) (t4 : Int × Bool) (t5 : Int) (x7 : Int) (x8 : Int) (x9 : Int) (A7_ : Option Addr) (c7_ : Nat) (g7_ : Nat) (o7_ : Nat) (g8_ : Nat) (g9_ : Nat) (o9_ : Nat) (i : Nat) (u : Nat → Wt) : List (Nat × Value) := foldPut ⟨141, []⟩ [(15, i6 (bOr .i64 x7 (W .i64 (1 * 2 ^ (min ((t3.1.getD (x9).toNat 0)).toNat 64))))), (7, .bool t1), (8, .slice A1 t2.length c1), (9, .slice A2 t3.1.length c2), (11, i6 t4.1), (13, i6 ((W .i64 (a1)).tmod (t2.length : Int))), (14, i6 ((W .i64 (a2)).tmod t5)), (16, i6 x8), (17, i6 x9)] (O6_63.take i) (((u6d3s t2 A1 c1 t3 A2 c2 x8 x9 A7_ c7_ g7_ o7_ g8_ g9_ o9_) u).take i)
theorem u6d3v (a1 : Int) (a2 : Int) (t1 : Bool) (t2 : List (List Int)) (A1 : Option Addr) (c1 : Nat) (t3 : List Int × S26) (A2 : Option Addr) (c2 : Nat) (A3 : Option Addr) (c3 : Nat) (A4 : Option Addr) (c4 : Nat) (nx3 : Nat) (t4 : Int × Bool) (t5 : Int) (x7 : Int) (x8 : Int) (x9 : Int) (A7_ : Option Addr) (c7_ : Nat) (g7_ : Nat) (o7_ : Nat) (g8_ : Nat) (g9_ : Nat) (o9_ : Nat) (u : Nat → Wt) : (u6d3q a1 a2 t1 t2 A1 c1 t3 A2 c2 A3 c3 A4 c4 nx3 t4 t5 x7 x8 x9 A7_ c7_ g7_ o7_ g8_ g9_ o9_ u).map (fun x => (x.1, x.2.1)) = some ((u6d3s t2 A1 c1 t3 A2 c2 x8 x9 A7_ c7_ g7_ o7_ g8_ g9_ o9_) u, (u6d3f a1 a2 t1 t2 A1 c1 t3 A2 c2 t4 t5 x7 x8 x9 A7_ c7_ g7_ o7_ g8_ g9_ o9_ 11) u) := by kernel_rfl
theorem u6d3e (a1 : Int) (a2 : Int) (t1 : Bool) (t2 : List (List Int)) (A1 : Option Addr) (c1 : Nat) (t3 : List Int × S26) (A2 : Option Addr) (c2 : Nat) (A3 : Option Addr) (c3 : Nat) (A4 : Option Addr) (c4 : Nat) (nx3 : Nat) (t4 : Int × Bool) (t5 : Int) (x7 : Int) (x8 : Int) (x9 : Int) (A7_ : Option Addr) (c7_ : Nat) (g7_ : Nat) (o7_ : Nat) (g8_ : Nat) (g9_ : Nat) (o9_ : Nat) (u : Nat → Wt) : (u6d3q a1 a2 t1 t2 A1 c1 t3 A2 c2 A3 c3 A4 c4 nx3 t4 t5 x7 x8 x9 A7_ c7_ g7_ o7_ g8_ g9_ o9_ u).map (fun x => x.2.2.map (·.1)) = (u6d3q a1 a2 t1 t2 A1 c1 t3 A2 c2 A3 c3 A4 c4 nx3 t4 t5 x7 x8 x9 A7_ c7_ g7_ o7_ g8_ g9_ o9_ u).map (fun x => x.2.2.map (·.2)) := by kernel_rfl
theorem armillarylaw22_AssignSelection.calls (k : Nat) (I0 : Imm) (a0 : List (List Int)) (Ap0 : Option Addr) (cp0 : Nat) (a1 : Int) (a2 : Int) (w : World) (hI : I0.at_ w) (hlp0 : a0.length ≤ cp0) (hrp0 : Rd (Ty.slice (Ty.int .i64)) I0 Ap0 a0) (r : Bool) (h : armillarylaw22_AssignSelection.f k a0 a1 a2 = some r) :
  Calls Try.prog 6 [.slice Ap0 a0.length cp0, .int .u8 a1, .int .u8 a2].toArray w fun e w' => ∃ v, e = .returned v ∧ armillarylaw22_AssignSelection.Post I0 w r v w' := by
 have H : ((armillarylaw22_sanity.f k ).bind fun t1 => ((armillaryref22_Made.f k a0 7 6).bind fun t2 => ((assign_Solve.f k t2).bind fun t3 => ((assign_Value.f k t2 t3.1).bind fun t4 => ((if t4.2 = true then (if (t3.1.length : Int) ≠ (t2.length : Int) then (some true) else ((armillaryref22_Optimum.f k t2).bind fun t8 => (some (t4.1 != t8)))) else (some true)).bind (armillarylaw22_AssignSelection.k6 k a1 a2 t1 t2 t3 t4)))))) = some r := h
 clear h
 refine calls_body Try.func6 (by kernel_rfl) 141 (by kernel_rfl) (by kernel_rfl) ⟨w, fun _ => False, I0⟩ I0 [] [(0, .slice Ap0 a0.length cp0), (1, .int .u8 a1), (2, .int .u8 a2)] (by kernel_rfl) (Sat.start w _ I0 hI) ?_
 generalize w.heap.size = nx0
 show OK _ K6_0 _ _ _ _ _ _ _ _
 refine OK.sr ?_
 refine RL.st 1 [(0, .slice Ap0 a0.length cp0), (1, .int .u8 a1), (2, .int .u8 a2)] ?_
 refine OK.sr ?_
 obtain ⟨t1, hA1, H⟩ := bnd H
 refine RL.callP 10 [] (some 18) (fun w => armillarylaw22_sanity.Post I0 w t1) (by kernel_rfl) (by kernel_rfl) (fun w hs => armillarylaw22_sanity.calls k I0  w hs.im  t1 hA1) ?_
 rintro w v w' hs ⟨I1, rfl, hg⟩
 have hi1 := hg.le
 refine RL.resume (X' := []) rfl (hs.call hg) ?_
 clear hs hg
 generalize w'.heap.size = nx1
 clear w w'
 refine RL.st 1 [(7, .bool t1), (0, .slice Ap0 a0.length cp0), (1, .int .u8 a1), (2, .int .u8 a2)] ?_
 refine OK.sr ?_
 refine RL.s 1 [(19, .slice Ap0 a0.length cp0), (7, .bool t1), (1, .int .u8 a1), (2, .int .u8 a2)] ?_
 obtain ⟨t2, hA2, H⟩ := bnd H
 refine RL.callP 13 [.slice Ap0 a0.length cp0, i6 7, i6 6] (some 20) (fun w => armillaryref22_Made.Post I1 w t2) (by kernel_rfl) (by kernel_rfl) (fun w hs => armillaryref22_Made.calls k I1 a0 Ap0 cp0 7 6 w hs.im hlp0 (Rd.ext hi1 hrp0) t2 hA2) ?_
 rintro w v w' hs ⟨I2, A1, c1, cs1, rfl, hg, hp1⟩
 have hi2 := hg.le
 refine RL.resume (X' := [orow 24 1 A1 t2.length c1 cs1]) rfl (hs.call hg) ?_
 clear hs hg
 generalize w'.heap.size = nx2
 clear w w'
 refine RL.st 1 [(8, .slice A1 t2.length c1), (7, .bool t1), (1, .int .u8 a1), (2, .int .u8 a2)] ?_
 refine OK.sr ?_
 refine RL.s 1 [(22, .slice A1 t2.length c1), (8, .slice A1 t2.length c1), (7, .bool t1), (1, .int .u8 a1), (2, .int .u8 a2)] ?_
 refine RL.freeze (e := 24) (sz := 1) (S := A1) (n := t2.length) (cap := c1) 0 (by kernel_rfl) hp1 rfl (fun I3 hi3 hl1 hr1 => ?_)
 skip
 obtain ⟨t3, hA3, H⟩ := bnd H
 refine RL.callP 14 [.slice A1 t2.length c1] (some 23) (fun w => assign_Solve.Post I3 w t3) (by kernel_rfl) (by kernel_rfl) (fun w hs => assign_Solve.calls k I3 t2 A1 c1 w hs.im hl1 hr1 t3 hA3) ?_
 rintro w v w' hs ⟨I4, A2, c2, cs2, A3, c3, cs3, A4, c4, cs4, rfl, hg, hp2, hp3, hp4⟩
 have hi4 := hg.le
 refine RL.resume (X' := [orow 3 1 A2 t3.1.length c2 cs2, orow 2 1 A3 t3.2.f0.length c3 cs3, orow 2 1 A4 t3.2.f1.length c4 cs4]) rfl (hs.call hg) ?_
 clear hs hg
 generalize w'.heap.size = nx3
 clear w w'
 refine RL.freeze (e := 2) (sz := 1) (S := A3) (n := t3.2.f0.length) (cap := c3) 1 (by kernel_rfl) hp3 rfl (fun I5 hi5 hl2 hr2 => ?_)
 skip
 refine RL.freeze (e := 2) (sz := 1) (S := A4) (n := t3.2.f1.length) (cap := c4) 1 (by kernel_rfl) (Reps.ext hi5 hp4) rfl (fun I6 hi6 hl3 hr3 => ?_)
 skip
 refine RL.simP (K' := [(9, .slice A2 t3.1.length c2), (8, .slice A1 t2.length c1), (7, .bool t1), (1, .int .u8 a1), (2, .int .u8 a2)]) (nx' := nx3 + 1) (L' := [⟨nx3, [.slice A3 t3.2.f0.length c3, .slice A4 t3.2.f1.length c4], 26⟩]) [] (RFacts.nil _ _ _) 6 [.no, .no, .no, .no, .no, .l 0] (by kernel_rfl) (by kernel_rfl) ?_
 refine RL.nt ?_
 refine OK.sr ?_
 refine RL.s 2 [(28, .slice A2 t3.1.length c2), (27, .slice A1 t2.length c1), (9, .slice A2 t3.1.length c2), (8, .slice A1 t2.length c1), (7, .bool t1), (1, .int .u8 a1), (2, .int .u8 a2)] ?_
 obtain ⟨t4, hA4, H⟩ := bnd H
 refine RL.callP 15 [.slice A1 t2.length c1, .slice A2 t3.1.length c2] (some 29) (fun w v w' => ∃ I', Imm.le I6 I' ∧ assign_Value.Post I' w t4 v w') (by kernel_rfl) (by kernel_rfl) (fun w hs => ?_) ?_
 ·skip
  obtain ⟨JL1, hj1, hn1, hw1, hs⟩ := Sat.freeze (e := 3) (sz := 1) (S := A2) (n := t3.1.length) (cap := c2) (m := 0) hs (by kernel_rfl) (Reps.ext (Imm.le_trans hi5 hi6) hp2) rfl
  exact (assign_Value.calls k JL1 t2 A1 c1 t3.1 A2 c2 _ hs.im hl1 (Rd.ext hj1 (Rd.ext (Imm.le_trans (Imm.le_trans hi4 hi5) hi6) hr1)) hn1 hw1 t4 hA4).mono (fun e w' ⟨v, hv, hp⟩ => ⟨v, hv, JL1, hj1, hp⟩)
 rintro w v w' hs ⟨I', hle, J, rfl, hg⟩
 refine RL.resume (X' := [orow 3 1 A2 t3.1.length c2 cs2]) rfl (hs.call (hg.back hle)) ?_
 clear hs hg hle I' J
 generalize w'.heap.size = nx4
 clear w w'
 refine RL.st 5 [(12, .bool t4.2), (11, i6 t4.1), (9, .slice A2 t3.1.length c2), (8, .slice A1 t2.length c1), (7, .bool t1), (1, .int .u8 a1), (2, .int .u8 a2)] ?_
 refine OK.sq ?_
 refine OK.sq ?_
 refine OK.join (fun K' I' _ L' X' => ∃ (x1 : Bool), K' = [(1, .int .u8 a1), (2, .int .u8 a2), (7, .bool t1), (8, .slice A1 t2.length c1), (9, .slice A2 t3.1.length c2), (11, i6 t4.1), (46, .bool x1)] ∧ L' = [⟨nx3, [.slice A3 t3.2.f0.length c3, .slice A4 t3.2.f1.length c4], 26⟩] ∧ X' = [orow 3 1 A2 t3.1.length c2 cs2] ∧ Imm.le I6 I' ∧ armillarylaw22_AssignSelection.k6 k a1 a2 t1 t2 t3 t4 x1 = some r) ?_ ?_
 ·rintro _ I7 nx5 _ _ ⟨x1, rfl, rfl, rfl, hi7, H⟩
  rw [armillarylaw22_AssignSelection.k6] at H
  refine QN.then_ ?_
  refine OK.cd x1 (fun hb => ?_) (fun hb => ?_)
  ·skip
   have hc := hb
   rw [if_pos hc] at H
   clear hb
   refine OK.sr ?_
   refine RL.st 1 [(6, .bool false)] ?_
   refine OK.re ?_
   refine QN.thenR ?_
   obtain rfl := Option.some.inj H
   refine QN.body rfl [] (RFacts.nil _ _ _) (.no) (.bool false) (by kernel_rfl) (by kernel_rfl) (by kernel_rfl) ?_ _ (.inr rfl)
   exact fun w' hs' => ⟨_, rfl, I7, rfl, hs'.got _ (.cons _ .slnil)⟩
  ·skip
   have hc := (Bool.eq_false_iff.1 hb)
   rw [if_neg hc] at H
   clear hb
   refine OK.skt ?_
   refine OK.sq ?_
   refine OK.sq ?_
   refine OK.join (fun K' I' _ L' X' => ∃ (x2 : Bool), K' = [(1, .int .u8 a1), (2, .int .u8 a2), (7, .bool t1), (8, .slice A1 t2.length c1), (9, .slice A2 t3.1.length c2), (11, i6 t4.1), (54, .bool x2)] ∧ L' = [⟨nx3, [.slice A3 t3.2.f0.length c3, .slice A4 t3.2.f1.length c4], 26⟩] ∧ X' = [orow 3 1 A2 t3.1.length c2 cs2] ∧ Imm.le I7 I' ∧ armillarylaw22_AssignSelection.k5 k a1 a2 t1 t2 t3 t4 x2 = some r) ?_ ?_
   ·rintro _ I8 nx6 _ _ ⟨x2, rfl, rfl, rfl, hi8, H⟩
    rw [armillarylaw22_AssignSelection.k5] at H
    refine QN.then_ ?_
    refine OK.cd x2 (fun hb => ?_) (fun hb => ?_)
    ·skip
     have hc := hb
     rw [if_pos hc] at H
     clear hb
     refine OK.sr ?_
     refine RL.st 2 [(6, .bool t1)] ?_
     refine OK.re ?_
     refine QN.thenR ?_
     obtain rfl := Option.some.inj H
     refine QN.body rfl [] (RFacts.nil _ _ _) (.no) (.bool t1) (by kernel_rfl) (by kernel_rfl) (by kernel_rfl) ?_ _ (.inr rfl)
     exact fun w' hs' => ⟨_, rfl, I8, rfl, hs'.got _ (.cons _ .slnil)⟩
    ·skip
     have hc := (Bool.eq_false_iff.1 hb)
     rw [if_neg hc] at H
     clear hb
     refine OK.skt ?_
     refine OK.sq ?_
     by_cases hc1 : (t2.length : Int) = 0
     ·rw [if_pos hc1] at H; cases H
     rw [if_neg hc1] at H
     obtain ⟨t5, hA5, H⟩ := bnd H
     by_cases hc2 : t5 = 0
     ·rw [if_pos hc2] at H; cases H
     rw [if_neg hc2] at H
     refine OK.drawnC 9 11 O6_36 a6_36n (by kernel_rfl) (by kernel_rfl) (u6d1l t5) (u6d1g a1 a2 t2 t5) [] (RI.nil _) [.no, .no, .no, .no, .no, .no, .no, .no, .no, .no, .no] a6_36 a6_36o (by kernel_rfl) (by kernel_rfl) (u6d1s a1 a2 t2 A1 c1 t5) (u6d1f a1 a2 t1 t2 A1 c1 t3 A2 c2 t4 x2 t5 11) (u6d1v a1 a2 t1 t2 A1 c1 t3 A2 c2 A3 c3 A4 c4 nx3 t4 x2 t5) (u6d1e a1 a2 t1 t2 A1 c1 t3 A2 c2 A3 c3 A4 c4 nx3 t4 x2 t5) [u6d1f a1 a2 t1 t2 A1 c1 t3 A2 c2 t4 x2 t5 8] (framesOk.cons (fun u => rfl) framesOk.nil) ?_ [u6d1f a1 a2 t1 t2 A1 c1 t3 A2 c2 t4 x2 t5 4, u6d1f a1 a2 t1 t2 A1 c1 t3 A2 c2 t4 x2 t5 9] (framesOk.cons (fun u => rfl) (framesOk.cons (fun u => rfl) framesOk.nil)) ?_ ?_
     ·refine LoudsG.cons ?_ (LoudsG.nil)
      ·intro D u J w hp hJ hs hF
       refine Does.call 21 [.slice A1 t2.length c1] (by kernel_rfl) ((armillaryref22_Columns.calls J t2 A1 c1 w hs.im hl1 (Rd.ext (Imm.le_trans (Imm.le_trans (Imm.le_trans (Imm.le_trans (Imm.le_trans hi4 hi5) hi6) hi7) hi8) hJ) hr1) t5 hA5).mono ?_)
       rintro e w' ⟨v, rfl, J2, rfl, hg⟩
       exact ⟨_, rfl, fun _ => (none, 0, []), J2, rfl, hg, trivial⟩
     ·refine Givens.cons (fun u w =>  ?_) (fun _ _ _ => rfl) (Givens.cons (fun u w =>  ?_) (fun _ _ _ => rfl) (Givens.nil))
      ·exact giv_rem .i64 (W .i64 (a1)) (t2.length : Int) (by kernel_rfl) hc1 w
      ·exact giv_rem .i64 (W .i64 (a2)) t5 (by kernel_rfl) hc2 w
     intro u I9 nx7 hi9 hF
     clear hF
     refine RL.norm (K' := [(13, i6 ((W .i64 (a1)).tmod (t2.length : Int))), (65, i6 ((W .i64 (a2)).tmod t5)), (64, i6 t5), (63, .slice A1 t2.length c1), (62, i6 (W .i64 (a2))), (61, .int .u8 a2), (60, i6 ((W .i64 (a1)).tmod (t2.length : Int))), (59, i6 (t2.length : Int)), (58, .slice A1 t2.length c1), (57, i6 (W .i64 (a1))), (56, .int .u8 a1), (1, .int .u8 a1), (2, .int .u8 a2), (7, .bool t1), (8, .slice A1 t2.length c1), (9, .slice A2 t3.1.length c2), (11, i6 t4.1), (54, .bool x2)]) (X' := [orow 3 1 A2 t3.1.length c2 cs2]) (by kernel_rfl) rfl rfl rfl ?_
     refine RL.st 1 [(14, i6 ((W .i64 (a2)).tmod t5)), (13, i6 ((W .i64 (a1)).tmod (t2.length : Int))), (7, .bool t1), (8, .slice A1 t2.length c1), (9, .slice A2 t3.1.length c2), (11, i6 t4.1)] ?_
     refine OK.sr ?_
     refine RL.st 2 [(16, i6 0), (15, i6 0), (14, i6 ((W .i64 (a2)).tmod t5)), (13, i6 ((W .i64 (a1)).tmod (t2.length : Int))), (7, .bool t1), (8, .slice A1 t2.length c1), (9, .slice A2 t3.1.length c2), (11, i6 t4.1)] ?_
     refine OK.sq ?_
     refine OK.sr ?_
     refine RL.st 1 [(17, i6 0), (16, i6 0), (15, i6 0), (14, i6 ((W .i64 (a2)).tmod t5)), (13, i6 ((W .i64 (a1)).tmod (t2.length : Int))), (7, .bool t1), (8, .slice A1 t2.length c1), (9, .slice A2 t3.1.length c2), (11, i6 t4.1)] ?_
     refine OK.join (fun K' I' _ L' X' => ∃ (x3 : Int) (x4 : Int), K' = [(7, .bool t1), (8, .slice A1 t2.length c1), (9, .slice A2 t3.1.length c2), (11, i6 t4.1), (13, i6 ((W .i64 (a1)).tmod (t2.length : Int))), (14, i6 ((W .i64 (a2)).tmod t5)), (15, i6 x3), (16, i6 x4)] ∧ L' = [⟨nx3, [.slice A3 t3.2.f0.length c3, .slice A4 t3.2.f1.length c4], 26⟩] ∧ X' = [orow 3 1 A2 t3.1.length c2 cs2] ∧ Imm.le I9 I' ∧ armillarylaw22_AssignSelection.k3 k a1 a2 t1 t2 t3 t4 t5 (x3, x4) = some r) ?_ ?_
     ·rintro _ I10 nx8 _ _ ⟨x3, x4, rfl, rfl, rfl, hi10, H⟩
      rw [armillarylaw22_AssignSelection.k3] at H
      refine QN.then_ ?_
      refine OK.sq ?_
      refine OK.sq ?_
      refine OK.join (fun K' I' _ L' X' => ∃ (x5 : Bool), K' = [(7, .bool t1), (8, .slice A1 t2.length c1), (11, i6 t4.1), (13, i6 ((W .i64 (a1)).tmod (t2.length : Int))), (14, i6 ((W .i64 (a2)).tmod t5)), (15, i6 x3), (16, i6 x4), (114, .bool x5)] ∧ L' = [⟨nx3, [.slice A3 t3.2.f0.length c3, .slice A4 t3.2.f1.length c4], 26⟩] ∧ X' = [] ∧ Imm.le I10 I' ∧ armillarylaw22_AssignSelection.k2 k a1 a2 t1 t2 t4 t5 x3 x4 x5 = some r) ?_ ?_
      ·rintro _ I11 nx9 _ _ ⟨x5, rfl, rfl, rfl, hi11, H⟩
       rw [armillarylaw22_AssignSelection.k2] at H
       refine QN.then_ ?_
       refine OK.cd x5 (fun hb => ?_) (fun hb => ?_)
       ·skip
        have hc := hb
        rw [if_pos hc] at H
        clear hb
        refine OK.sr ?_
        refine RL.st 2 [(6, .bool t1)] ?_
        refine OK.re ?_
        refine QN.thenR ?_
        obtain rfl := Option.some.inj H
        refine QN.body rfl [] (RFacts.nil _ _ _) (.no) (.bool t1) (by kernel_rfl) (by kernel_rfl) (by kernel_rfl) ?_ _ (.inr rfl)
        exact fun w' hs' => ⟨_, rfl, I11, rfl, hs'.got _ .slnil⟩
       ·skip
        have hc := (Bool.eq_false_iff.1 hb)
        rw [if_neg hc] at H
        clear hb
        refine OK.skt ?_
        refine OK.sq ?_
        refine OK.join (fun K' I' _ L' X' => ∃ (x6 : Bool), K' = [(6, .bool x6)] ∧ L' = [⟨nx3, [.slice A3 t3.2.f0.length c3, .slice A4 t3.2.f1.length c4], 26⟩] ∧ X' = [] ∧ Imm.le I11 I' ∧ armillarylaw22_AssignSelection.k1 x6 = some r) ?_ ?_
        ·rintro _ I12 nx10 _ _ ⟨x6, rfl, rfl, rfl, hi12, H⟩
         rw [armillarylaw22_AssignSelection.k1] at H
         refine QN.then_ ?_
         refine OK.re ?_
         obtain rfl := Option.some.inj H
         refine QN.body rfl [] (RFacts.nil _ _ _) (.no) (.bool x6) (by kernel_rfl) (by kernel_rfl) (by kernel_rfl) ?_ _ (.inr rfl)
         exact fun w' hs' => ⟨_, rfl, I12, rfl, hs'.got _ .slnil⟩
        ·intro Q_1 hJ5 hQ5
         obtain ⟨y5, H, HK5⟩ := bnd H
         obtain ⟨hi0_1, H⟩ := ifs H
         obtain ⟨hi1_1, H⟩ := ifs H
         obtain ⟨g1_, o1_, hA1_, A1_, c1_, hl1_, hr1_, hc1_⟩ := Ty.slice_at (Rd.ext (Imm.le_trans (Imm.le_trans (Imm.le_trans (Imm.le_trans (Imm.le_trans (Imm.le_trans (Imm.le_trans hi4 hi5) hi6) hi7) hi8) hi9) hi10) hi11) hr1) ((W .i64 (a1)).tmod (t2.length : Int)) hi0_1 hi1_1
         obtain ⟨hi0_2, H⟩ := ifs H
         obtain ⟨hi1_2, H⟩ := ifs H
         obtain ⟨g2_, o2_, hA2_, hc2_⟩ := Ty.int_at hr1_ ((W .i64 (a2)).tmod t5) hi0_2 hi1_2
         obtain ⟨t6, hA6, H⟩ := bnd H
         obtain ⟨hc3, H⟩ := ifs H
         obtain ⟨hi0_3, H⟩ := ifs H
         obtain ⟨hi1_3, H⟩ := ifs H
         refine OK.drawnC 19 21 O6_79 a6_79n (by kernel_rfl) (by kernel_rfl) (u6d2l t6) (u6d2g a1 a2 t2 t5 x3 g1_ o1_ g2_ o2_ t6) [(⟨g1_, o1_ + ((W .i64 (a1)).tmod (t2.length : Int)).toNat * 1, none⟩, .slice A1_ ((t2.getD ((W .i64 (a1)).tmod (t2.length : Int)).toNat []).length) c1_), (⟨g2_, o2_ + ((W .i64 (a2)).tmod t5).toNat * 1, none⟩, i6 ((t2.getD ((W .i64 (a1)).tmod (t2.length : Int)).toNat []).getD ((W .i64 (a2)).tmod t5).toNat 0))] (RI.cons (hc1_ 0 _ rfl) (RI.cons (hc2_ 0 _ rfl) (RI.nil _))) [.no, .no, .no, .no, .r 0, .no, .no, .r 1, .no, .no, .no, .no, .no, .no, .no, .no, .no, .no, .no, .no, .no] a6_79 a6_79o (by kernel_rfl) (by kernel_rfl) (u6d2s a1 a2 t2 A1 c1 t4 t5 x3 x4 A1_ c1_ g1_ o1_ g2_ o2_ t6) (u6d2f a1 a2 t1 t2 A1 c1 t4 t5 x3 x4 x5 A1_ c1_ g1_ o1_ g2_ o2_ t6 21) (u6d2v a1 a2 t1 t2 A1 c1 t3 A3 c3 A4 c4 nx3 t4 t5 x3 x4 x5 A1_ c1_ g1_ o1_ g2_ o2_ t6) (u6d2e a1 a2 t1 t2 A1 c1 t3 A3 c3 A4 c4 nx3 t4 t5 x3 x4 x5 A1_ c1_ g1_ o1_ g2_ o2_ t6) [u6d2f a1 a2 t1 t2 A1 c1 t4 t5 x3 x4 x5 A1_ c1_ g1_ o1_ g2_ o2_ t6 12] (framesOk.cons (fun u => rfl) framesOk.nil) ?_ [u6d2f a1 a2 t1 t2 A1 c1 t4 t5 x3 x4 x5 A1_ c1_ g1_ o1_ g2_ o2_ t6 3, u6d2f a1 a2 t1 t2 A1 c1 t4 t5 x3 x4 x5 A1_ c1_ g1_ o1_ g2_ o2_ t6 6, u6d2f a1 a2 t1 t2 A1 c1 t4 t5 x3 x4 x5 A1_ c1_ g1_ o1_ g2_ o2_ t6 15, u6d2f a1 a2 t1 t2 A1 c1 t4 t5 x3 x4 x5 A1_ c1_ g1_ o1_ g2_ o2_ t6 17, u6d2f a1 a2 t1 t2 A1 c1 t4 t5 x3 x4 x5 A1_ c1_ g1_ o1_ g2_ o2_ t6 18] (framesOk.cons (fun u => rfl) (framesOk.cons (fun u => rfl) (framesOk.cons (fun u => rfl) (framesOk.cons (fun u => rfl) (framesOk.cons (fun u => rfl) framesOk.nil))))) ?_ ?_
         ·refine LoudsG.cons ?_ (LoudsG.nil)
          ·intro D u J w hp hJ hs hF
           refine Does.call 24 [.slice A1 t2.length c1, i6 (W .i64 (((W .i64 (a1)).tmod (t2.length : Int)) + 1))] (by kernel_rfl) ((armillaryref22_Best.calls k J t2 A1 c1 (W .i64 (((W .i64 (a1)).tmod (t2.length : Int)) + 1)) w hs.im hl1 (Rd.ext (Imm.le_trans (Imm.le_trans (Imm.le_trans (Imm.le_trans (Imm.le_trans (Imm.le_trans (Imm.le_trans (Imm.le_trans hi4 hi5) hi6) hi7) hi8) hi9) hi10) hi11) hJ) hr1) t6 hA6).mono ?_)
           rintro e w' ⟨v, rfl, J2, A0_, c0_, cs0_, rfl, hg, hp0_⟩
           obtain ⟨J2', hj0_, hg', hl0_, hr0_⟩ := hg.freeze 0 rfl hp0_ rfl
           exact ⟨_, rfl, fun _ => (A0_, c0_, cs0_), J2', rfl, hg', hl0_, hr0_, trivial⟩
         ·refine Givens.cons (fun u w =>  ?_) (fun _ _ _ => rfl) (Givens.cons (fun u w =>  ?_) (fun _ _ _ => rfl) (Givens.cons (fun u w =>  ?_) (fun _ _ _ => rfl) (Givens.consU (fun D u w hp hS =>  ?_) (fun u u' h => by simp only [h 12 (by kernel_rfl) (by kernel_rfl)]) (Givens.consU (fun D u w hp hS =>  ?_) (fun _ _ _ => rfl) (Givens.nil)))))
          ·exact giv_idx (T := 22) (e := 24) 1 .i64 ((W .i64 (a1)).tmod (t2.length : Int)) hA1_ t2.length c1 (by kernel_rfl) (by kernel_rfl) (by kernel_rfl) hi0_1 hi1_1 w
          ·exact giv_idx (T := 24) (e := 2) 1 .i64 ((W .i64 (a2)).tmod t5) hA2_ ((t2.getD ((W .i64 (a1)).tmod (t2.length : Int)).toNat []).length) c1_ (by kernel_rfl) (by kernel_rfl) (by kernel_rfl) hi0_2 hi1_2 w
          ·exact giv_shl .i64 .i64 1 ((W .i64 (a2)).tmod t5) (by kernel_rfl) hc3 w
          ·obtain ⟨J, hJ, hs, hF⟩ := hS
           obtain ⟨g_, o_, hA_, hc_⟩ := Ty.int_at ((hF.1 (hp 12 (by kernel_rfl) (by kernel_rfl))).2.1) (bOr .i64 x3 (W .i64 (1 * 2 ^ (min ((W .i64 (a2)).tmod t5).toNat 64)))) hi0_3 hi1_3
           exact giv_idxU (T := 24) (e := 2) 1 .i64 (bOr .i64 x3 (W .i64 (1 * 2 ^ (min ((W .i64 (a2)).tmod t5).toNat 64)))) ⟨g_, o_, hA_⟩ t6.length ((u 12 0).2.1) (by kernel_rfl) (by kernel_rfl) (by kernel_rfl) hi0_3 hi1_3 w
          ·obtain ⟨J, hJ, hs, hF⟩ := hS
           obtain ⟨g_, o_, hA_, hc_⟩ := Ty.int_at ((hF.1 (hp 12 (by kernel_rfl) (by kernel_rfl))).2.1) (bOr .i64 x3 (W .i64 (1 * 2 ^ (min ((W .i64 (a2)).tmod t5).toNat 64)))) hi0_3 hi1_3
           exact giv_ldU (T := 2) hA_ (hc_ 0 _ rfl) hs.im (by kernel_rfl) (fun _ _ => by kernel_rfl) (fun _ _ => by kernel_rfl)
         intro u I13 nx11 hi13 hF
         have hf1 := ((hF.1 rfl).1)
         have hf2 := ((hF.1 rfl).2.1)
         clear hF
         refine RL.norm (K' := ((136, i6 t4.1) :: (135, i6 (W .i64 ((W .i64 (x4 + ((t2.getD ((W .i64 (a1)).tmod (t2.length : Int)).toNat []).getD ((W .i64 (a2)).tmod t5).toNat 0))) + (t6.getD (bOr .i64 x3 (W .i64 (1 * 2 ^ (min ((W .i64 (a2)).tmod t5).toNat 64)))).toNat 0)))) :: (134, i6 (t6.getD (bOr .i64 x3 (W .i64 (1 * 2 ^ (min ((W .i64 (a2)).tmod t5).toNat 64)))).toNat 0)) :: (133, idxP ((u 12 0).1) ((bOr .i64 x3 (W .i64 (1 * 2 ^ (min ((W .i64 (a2)).tmod t5).toNat 64)))).toNat * 1)) :: (132, i6 (bOr .i64 x3 (W .i64 (1 * 2 ^ (min ((W .i64 (a2)).tmod t5).toNat 64))))) :: (131, i6 (W .i64 (1 * 2 ^ (min ((W .i64 (a2)).tmod t5).toNat 64)))) :: (130, i6 ((W .i64 (a2)).tmod t5)) :: (129, i6 x3) :: (128, .slice ((u 12 0).1) t6.length ((u 12 0).2.1)) :: (127, i6 (W .i64 (((W .i64 (a1)).tmod (t2.length : Int)) + 1))) :: (126, i6 ((W .i64 (a1)).tmod (t2.length : Int))) :: (125, .slice A1 t2.length c1) :: (124, i6 (W .i64 (x4 + ((t2.getD ((W .i64 (a1)).tmod (t2.length : Int)).toNat []).getD ((W .i64 (a2)).tmod t5).toNat 0)))) :: (123, i6 ((t2.getD ((W .i64 (a1)).tmod (t2.length : Int)).toNat []).getD ((W .i64 (a2)).tmod t5).toNat 0)) :: (122, pt g2_ (o2_ + ((W .i64 (a2)).tmod t5).toNat * 1)) :: (121, i6 ((W .i64 (a2)).tmod t5)) :: (120, .slice A1_ ((t2.getD ((W .i64 (a1)).tmod (t2.length : Int)).toNat []).length) c1_) :: (119, pt g1_ (o1_ + ((W .i64 (a1)).tmod (t2.length : Int)).toNat * 1)) :: (118, i6 ((W .i64 (a1)).tmod (t2.length : Int))) :: (117, .slice A1 t2.length c1) :: (116, i6 x4) :: (7, .bool t1) :: (8, .slice A1 t2.length c1) :: (11, i6 t4.1) :: (13, i6 ((W .i64 (a1)).tmod (t2.length : Int))) :: (14, i6 ((W .i64 (a2)).tmod t5)) :: (15, i6 x3) :: (16, i6 x4) :: (114, .bool x5) :: [])) (X' := []) (by kernel_rfl) rfl rfl rfl ?_
         revert hf1 hf2
         generalize (u 12 0).1 = A5
         generalize (u 12 0).2.1 = c5
         generalize (u 12 0).2.2 = cs5
         intro hf1 hf2
         clear u
         refine RL.s 2 [(138, .bool (decide ((W .i64 ((W .i64 (x4 + ((t2.getD ((W .i64 (a1)).tmod (t2.length : Int)).toNat []).getD ((W .i64 (a2)).tmod t5).toNat 0))) + (t6.getD (bOr .i64 x3 (W .i64 (1 * 2 ^ (min ((W .i64 (a2)).tmod t5).toNat 64)))).toNat 0))) < t4.1))), (7, .bool t1)] ?_
         refine RL.cases (decide ((W .i64 ((W .i64 (x4 + ((t2.getD ((W .i64 (a1)).tmod (t2.length : Int)).toNat []).getD ((W .i64 (a2)).tmod t5).toNat 0))) + (t6.getD (bOr .i64 x3 (W .i64 (1 * 2 ^ (min ((W .i64 (a2)).tmod t5).toNat 64)))).toNat 0))) < t4.1)) (fun hb => ?_) (fun hb => ?_)
         ·have hc := (of_decide_eq_true hb)
          rw [hb]
          rw [if_pos hc] at H; clear hb
          refine RL.s 3 [(6, .bool t1)] ?_
          refine RL.nil (by kernel_rfl) ?_
          obtain rfl := Option.some.inj H
          exact QN.sb (hJ5 _ _ _ _ _ ⟨t1, rfl, rfl, rfl, hi13, HK5⟩) (.cons_cons _ .slnil) (.refl _)
         ·have hc := (of_decide_eq_false hb)
          rw [hb]
          rw [if_neg hc] at H; clear hb
          refine RL.s 3 [(6, .bool false)] ?_
          refine RL.nil (by kernel_rfl) ?_
          obtain rfl := Option.some.inj H
          exact QN.sb (hJ5 _ _ _ _ _ ⟨false, rfl, rfl, rfl, hi13, HK5⟩) (.cons_cons _ .slnil) (.refl _)
      ·intro Q_2 hJ4 hQ4
       obtain ⟨y4, H, HK4⟩ := bnd H
       refine OK.rg ?_
       refine RL.s 2 [(96, i6 ((W .i64 (a2)).tmod t5)), (95, i6 x3), (7, .bool t1), (8, .slice A1 t2.length c1), (9, .slice A2 t3.1.length c2), (11, i6 t4.1), (13, i6 ((W .i64 (a1)).tmod (t2.length : Int))), (14, i6 ((W .i64 (a2)).tmod t5)), (15, i6 x3), (16, i6 x4)] ?_
       obtain ⟨hc, H⟩ := ifs H
       refine RL.shr .i64 .i64 x3 ((W .i64 (a2)).tmod t5) (some 97) (by kernel_rfl) (by kernel_rfl) hc (K' := [(97, i6 (Int.fdiv x3 (2 ^ (min ((W .i64 (a2)).tmod t5).toNat 64)))), (96, i6 ((W .i64 (a2)).tmod t5)), (95, i6 x3), (7, .bool t1), (8, .slice A1 t2.length c1), (9, .slice A2 t3.1.length c2), (11, i6 t4.1), (13, i6 ((W .i64 (a1)).tmod (t2.length : Int))), (14, i6 ((W .i64 (a2)).tmod t5)), (15, i6 x3), (16, i6 x4)]) (by kernel_rfl) ?_
       refine RL.s 3 [(100, .bool ((bAnd .i64 (Int.fdiv x3 (2 ^ (min ((W .i64 (a2)).tmod t5).toNat 64))) 1) == 1)), (7, .bool t1), (8, .slice A1 t2.length c1), (9, .slice A2 t3.1.length c2), (11, i6 t4.1), (13, i6 ((W .i64 (a1)).tmod (t2.length : Int))), (14, i6 ((W .i64 (a2)).tmod t5)), (15, i6 x3), (16, i6 x4)] ?_
       refine RL.cases ((bAnd .i64 (Int.fdiv x3 (2 ^ (min ((W .i64 (a2)).tmod t5).toNat 64))) 1) == 1) (fun hb => ?_) (fun hb => ?_)
       ·have hc := (beq_iff_eq.1 hb)
        rw [hb]
        rw [if_pos hc] at H; clear hb
        refine RL.s 14 [(114, .bool true), (7, .bool t1), (8, .slice A1 t2.length c1), (11, i6 t4.1), (13, i6 ((W .i64 (a1)).tmod (t2.length : Int))), (14, i6 ((W .i64 (a2)).tmod t5)), (15, i6 x3), (16, i6 x4)] ?_
        refine RL.nil (by kernel_rfl) ?_
        obtain rfl := Option.some.inj H
        refine QN.sel (K' := [(7, .bool t1), (8, .slice A1 t2.length c1), (11, i6 t4.1), (13, i6 ((W .i64 (a1)).tmod (t2.length : Int))), (14, i6 ((W .i64 (a2)).tmod t5)), (15, i6 x3), (16, i6 x4), (114, .bool true)]) (L' := [⟨nx3, [.slice A3 t3.2.f0.length c3, .slice A4 t3.2.f1.length c4], 26⟩]) [] (by kernel_rfl) (by kernel_rfl) (.cons_cons _ .slnil) ?_
        refine QN.norm (X' := []) rfl rfl rfl (by kernel_rfl) ?_
        exact hJ4 _ _ _ _ _ ⟨true, rfl, rfl, rfl, (Imm.le_refl _), HK4⟩
       ·have hc := (beq_eq_false_iff_ne.1 hb)
        rw [hb]
        rw [if_neg hc] at H; clear hb
        refine RL.s 2 [(102, i6 ((W .i64 (a1)).tmod (t2.length : Int))), (101, .slice A2 t3.1.length c2), (100, .bool false), (7, .bool t1), (8, .slice A1 t2.length c1), (9, .slice A2 t3.1.length c2), (11, i6 t4.1), (13, i6 ((W .i64 (a1)).tmod (t2.length : Int))), (14, i6 ((W .i64 (a2)).tmod t5)), (15, i6 x3), (16, i6 x4)] ?_
        obtain ⟨hib0, H⟩ := ifs H
        obtain ⟨hib1, H⟩ := ifs H
        have hx03_ := hib0; have hx13_ := hib1
        refine RL.ownAddr (e := 3) (sz := 1) (S := A2) (n := t3.1.length) (cap := c2) (cs := cs2) 0 (by kernel_rfl) (by omega) (fun g3_ hA3_ => ?_)
        have hc3_ := Ty.int_own (Reps.ext (Imm.le_trans (Imm.le_trans (Imm.le_trans (Imm.le_trans (Imm.le_trans hi5 hi6) hi7) hi8) hi9) hi10) hp2) ((W .i64 (a1)).tmod (t2.length : Int)) hib0 hib1
        refine RL.idx 1 .i64 ((W .i64 (a1)).tmod (t2.length : Int)) hA3_ t3.1.length c2 (some 103) (by kernel_rfl) (by kernel_rfl) (T := 23) (e := 3) (by kernel_rfl) (by kernel_rfl) hib0 hib1 (K' := [(103, pt g3_ (0 + ((W .i64 (a1)).tmod (t2.length : Int)).toNat * 1)), (102, i6 ((W .i64 (a1)).tmod (t2.length : Int))), (101, .slice A2 t3.1.length c2), (100, .bool false), (7, .bool t1), (8, .slice A1 t2.length c1), (9, .slice A2 t3.1.length c2), (11, i6 t4.1), (13, i6 ((W .i64 (a1)).tmod (t2.length : Int))), (14, i6 ((W .i64 (a2)).tmod t5)), (15, i6 x3), (16, i6 x4)]) (by kernel_rfl) ?_
        refine RL.simK (K' := [(106, .bool (decide ((t3.1.getD ((W .i64 (a1)).tmod (t2.length : Int)).toNat 0) ≥ 0))), (100, .bool false), (7, .bool t1), (8, .slice A1 t2.length c1), (9, .slice A2 t3.1.length c2), (11, i6 t4.1), (13, i6 ((W .i64 (a1)).tmod (t2.length : Int))), (14, i6 ((W .i64 (a2)).tmod t5)), (15, i6 x3), (16, i6 x4)]) [(⟨g3_, 0 + ((W .i64 (a1)).tmod (t2.length : Int)).toNat * 1, none⟩, i6 (t3.1.getD ((W .i64 (a1)).tmod (t2.length : Int)).toNat 0))] (RFacts.ownQ (e := 3) (sz := 1) (S := A2) (n := t3.1.length) (cap := c2) (cs := cs2) 0 (by kernel_rfl) hA3_ (0 + ((W .i64 (a1)).tmod (t2.length : Int)).toNat * 1) (((W .i64 (a1)).tmod (t2.length : Int)).toNat * 1 + 0) (by omega) (hc3_ 0 _ rfl) (RFacts.nil _ _ _)) 3 [.r 0, .no, .no] (by kernel_rfl) (by kernel_rfl) ?_
        refine RL.cases (decide ((t3.1.getD ((W .i64 (a1)).tmod (t2.length : Int)).toNat 0) ≥ 0)) (fun hb => ?_) (fun hb => ?_)
        ·have hc := (of_decide_eq_true hb)
         rw [hb]
         rw [if_pos hc] at H; clear hb
         refine RL.s 3 [(109, i6 ((W .i64 (a1)).tmod (t2.length : Int))), (108, .slice A2 t3.1.length c2), (107, i6 ((W .i64 (a2)).tmod t5)), (106, .bool true), (100, .bool false), (7, .bool t1), (8, .slice A1 t2.length c1), (11, i6 t4.1), (13, i6 ((W .i64 (a1)).tmod (t2.length : Int))), (14, i6 ((W .i64 (a2)).tmod t5)), (15, i6 x3), (16, i6 x4)] ?_
         obtain ⟨hib0, H⟩ := ifs H
         obtain ⟨hib1, H⟩ := ifs H
         have hx04_ := hib0; have hx14_ := hib1
         refine RL.ownAddr (e := 3) (sz := 1) (S := A2) (n := t3.1.length) (cap := c2) (cs := cs2) 0 (by kernel_rfl) (by omega) (fun g4_ hA4_ => ?_)
         have hc4_ := Ty.int_own (Reps.ext (Imm.le_trans (Imm.le_trans (Imm.le_trans (Imm.le_trans (Imm.le_trans hi5 hi6) hi7) hi8) hi9) hi10) hp2) ((W .i64 (a1)).tmod (t2.length : Int)) hib0 hib1
         refine RL.idx 1 .i64 ((W .i64 (a1)).tmod (t2.length : Int)) hA4_ t3.1.length c2 (some 110) (by kernel_rfl) (by kernel_rfl) (T := 23) (e := 3) (by kernel_rfl) (by kernel_rfl) hib0 hib1 (K' := [(110, pt g4_ (0 + ((W .i64 (a1)).tmod (t2.length : Int)).toNat * 1)), (109, i6 ((W .i64 (a1)).tmod (t2.length : Int))), (108, .slice A2 t3.1.length c2), (107, i6 ((W .i64 (a2)).tmod t5)), (106, .bool true), (100, .bool false), (7, .bool t1), (8, .slice A1 t2.length c1), (11, i6 t4.1), (13, i6 ((W .i64 (a1)).tmod (t2.length : Int))), (14, i6 ((W .i64 (a2)).tmod t5)), (15, i6 x3), (16, i6 x4)]) (by kernel_rfl) ?_
         refine RL.simK (K' := [(114, .bool (decide (((W .i64 (a2)).tmod t5) ≥ (t3.1.getD ((W .i64 (a1)).tmod (t2.length : Int)).toNat 0)))), (7, .bool t1), (8, .slice A1 t2.length c1), (11, i6 t4.1), (13, i6 ((W .i64 (a1)).tmod (t2.length : Int))), (14, i6 ((W .i64 (a2)).tmod t5)), (15, i6 x3), (16, i6 x4)]) [(⟨g4_, 0 + ((W .i64 (a1)).tmod (t2.length : Int)).toNat * 1, none⟩, i6 (t3.1.getD ((W .i64 (a1)).tmod (t2.length : Int)).toNat 0))] (RFacts.ownQ (e := 3) (sz := 1) (S := A2) (n := t3.1.length) (cap := c2) (cs := cs2) 0 (by kernel_rfl) hA4_ (0 + ((W .i64 (a1)).tmod (t2.length : Int)).toNat * 1) (((W .i64 (a1)).tmod (t2.length : Int)).toNat * 1 + 0) (by omega) (hc4_ 0 _ rfl) (RFacts.nil _ _ _)) 4 [.r 0, .no, .no, .no] (by kernel_rfl) (by kernel_rfl) ?_
         refine RL.nil (by kernel_rfl) ?_
         obtain rfl := Option.some.inj H
         refine QN.sel (K' := [(7, .bool t1), (8, .slice A1 t2.length c1), (11, i6 t4.1), (13, i6 ((W .i64 (a1)).tmod (t2.length : Int))), (14, i6 ((W .i64 (a2)).tmod t5)), (15, i6 x3), (16, i6 x4), (114, .bool (decide (((W .i64 (a2)).tmod t5) ≥ (t3.1.getD ((W .i64 (a1)).tmod (t2.length : Int)).toNat 0))))]) (L' := [⟨nx3, [.slice A3 t3.2.f0.length c3, .slice A4 t3.2.f1.length c4], 26⟩]) [] (by kernel_rfl) (by kernel_rfl) (.cons_cons _ .slnil) ?_
         refine QN.norm (X' := []) rfl rfl rfl (by kernel_rfl) ?_
         exact hJ4 _ _ _ _ _ ⟨(decide (((W .i64 (a2)).tmod t5) ≥ (t3.1.getD ((W .i64 (a1)).tmod (t2.length : Int)).toNat 0))), rfl, rfl, rfl, (Imm.le_refl _), HK4⟩
        ·have hc := (of_decide_eq_false hb)
         rw [hb]
         rw [if_neg hc] at H; clear hb
         refine RL.s 8 [(114, .bool false), (7, .bool t1), (8, .slice A1 t2.length c1), (11, i6 t4.1), (13, i6 ((W .i64 (a1)).tmod (t2.length : Int))), (14, i6 ((W .i64 (a2)).tmod t5)), (15, i6 x3), (16, i6 x4)] ?_
         refine RL.nil (by kernel_rfl) ?_
         obtain rfl := Option.some.inj H
         refine QN.sel (K' := [(7, .bool t1), (8, .slice A1 t2.length c1), (11, i6 t4.1), (13, i6 ((W .i64 (a1)).tmod (t2.length : Int))), (14, i6 ((W .i64 (a2)).tmod t5)), (15, i6 x3), (16, i6 x4), (114, .bool false)]) (L' := [⟨nx3, [.slice A3 t3.2.f0.length c3, .slice A4 t3.2.f1.length c4], 26⟩]) [] (by kernel_rfl) (by kernel_rfl) (.cons_cons _ .slnil) ?_
         refine QN.norm (X' := []) rfl rfl rfl (by kernel_rfl) ?_
         exact hJ4 _ _ _ _ _ ⟨false, rfl, rfl, rfl, (Imm.le_refl _), HK4⟩
     ·intro Q_3 hJ3 hQ3
      obtain ⟨y3, H, HK3⟩ := bnd H
      refine OK.bk 0 ?_
      refine OK.sub (K' := [(7, .bool t1), (8, .slice A1 t2.length c1), (9, .slice A2 t3.1.length c2), (11, i6 t4.1), (13, i6 ((W .i64 (a1)).tmod (t2.length : Int))), (14, i6 ((W .i64 (a2)).tmod t5)), (15, i6 0), (16, i6 0), (17, i6 0)]) (L' := [⟨nx3, [.slice A3 t3.2.f0.length c3, .slice A4 t3.2.f1.length c4], 26⟩]) (by kernel_rfl) (.cons_cons _ .slnil) (.refl _) ?_
      refine OK.lp (fun n_ K' I' _ L' X' => ∃ (x7 : Int) (x8 : Int) (x9 : Int), K' = [(7, .bool t1), (8, .slice A1 t2.length c1), (9, .slice A2 t3.1.length c2), (11, i6 t4.1), (13, i6 ((W .i64 (a1)).tmod (t2.length : Int))), (14, i6 ((W .i64 (a2)).tmod t5)), (15, i6 x7), (16, i6 x8), (17, i6 x9)] ∧ L' = [⟨nx3, [.slice A3 t3.2.f0.length c3, .slice A4 t3.2.f1.length c4], 26⟩] ∧ X' = [orow 3 1 A2 t3.1.length c2 cs2] ∧ Imm.le I9 I' ∧ armillarylaw22_AssignSelection.l1 a1 t2 t3 n_ x7 x8 x9 = some y3) k ⟨0, 0, 0, rfl, rfl, rfl, (Imm.le_refl _), H⟩ ?_ ?_
      ·rintro _ _ _ _ _ ⟨x7, x8, x9, rfl, rfl, rfl, _, H⟩
       cases H
      ·rintro kq1 _ I14 nx12 _ _ ⟨x7, x8, x9, rfl, rfl, rfl, hi14, H⟩ Q_l1 hJ6 hQ6
       rw [armillarylaw22_AssignSelection.l1] at H
       refine OK.sq ?_
       refine OK.sr ?_
       refine RL.st 3 [(68, .bool (decide (x9 < ((W .i64 (a1)).tmod (t2.length : Int))))), (7, .bool t1), (8, .slice A1 t2.length c1), (9, .slice A2 t3.1.length c2), (11, i6 t4.1), (13, i6 ((W .i64 (a1)).tmod (t2.length : Int))), (14, i6 ((W .i64 (a2)).tmod t5)), (15, i6 x7), (16, i6 x8), (17, i6 x9)] ?_
       refine OK.cd (decide (x9 < ((W .i64 (a1)).tmod (t2.length : Int)))) (fun hb => ?_) (fun hb => ?_)
       ·skip
        have hc := (of_decide_eq_true hb)
        rw [if_pos hc] at H
        clear hb
        refine OK.skt ?_
        refine OK.sq ?_
        refine OK.bk 1 ?_
        refine OK.sr ?_
        refine RL.s 2 [(72, i6 x9), (71, .slice A2 t3.1.length c2), (7, .bool t1), (8, .slice A1 t2.length c1), (9, .slice A2 t3.1.length c2), (11, i6 t4.1), (13, i6 ((W .i64 (a1)).tmod (t2.length : Int))), (14, i6 ((W .i64 (a2)).tmod t5)), (15, i6 x7), (16, i6 x8), (17, i6 x9)] ?_
        obtain ⟨hib0, H⟩ := ifs H
        obtain ⟨hib1, H⟩ := ifs H
        have hx05_ := hib0; have hx15_ := hib1
        refine RL.ownAddr (e := 3) (sz := 1) (S := A2) (n := t3.1.length) (cap := c2) (cs := cs2) 0 (by kernel_rfl) (by omega) (fun g5_ hA5_ => ?_)
        have hc5_ := Ty.int_own (Reps.ext (Imm.le_trans (Imm.le_trans (Imm.le_trans (Imm.le_trans (Imm.le_trans hi5 hi6) hi7) hi8) hi9) hi14) hp2) x9 hib0 hib1
        refine RL.idx 1 .i64 x9 hA5_ t3.1.length c2 (some 73) (by kernel_rfl) (by kernel_rfl) (T := 23) (e := 3) (by kernel_rfl) (by kernel_rfl) hib0 hib1 (K' := [(73, pt g5_ (0 + (x9).toNat * 1)), (72, i6 x9), (71, .slice A2 t3.1.length c2), (7, .bool t1), (8, .slice A1 t2.length c1), (9, .slice A2 t3.1.length c2), (11, i6 t4.1), (13, i6 ((W .i64 (a1)).tmod (t2.length : Int))), (14, i6 ((W .i64 (a2)).tmod t5)), (15, i6 x7), (16, i6 x8), (17, i6 x9)]) (by kernel_rfl) ?_
        refine RL.simK (K' := [(75, .bool (decide ((t3.1.getD (x9).toNat 0) ≥ 0))), (7, .bool t1), (8, .slice A1 t2.length c1), (9, .slice A2 t3.1.length c2), (11, i6 t4.1), (13, i6 ((W .i64 (a1)).tmod (t2.length : Int))), (14, i6 ((W .i64 (a2)).tmod t5)), (15, i6 x7), (16, i6 x8), (17, i6 x9)]) [(⟨g5_, 0 + (x9).toNat * 1, none⟩, i6 (t3.1.getD (x9).toNat 0))] (RFacts.ownQ (e := 3) (sz := 1) (S := A2) (n := t3.1.length) (cap := c2) (cs := cs2) 0 (by kernel_rfl) hA5_ (0 + (x9).toNat * 1) ((x9).toNat * 1 + 0) (by omega) (hc5_ 0 _ rfl) (RFacts.nil _ _ _)) 2 [.r 0, .no] (by kernel_rfl) (by kernel_rfl) ?_
        refine RL.nt ?_
        refine OK.join (fun K' I' _ L' X' => ∃ (x10 : Int) (x11 : Int), K' = [(7, .bool t1), (8, .slice A1 t2.length c1), (9, .slice A2 t3.1.length c2), (11, i6 t4.1), (13, i6 ((W .i64 (a1)).tmod (t2.length : Int))), (14, i6 ((W .i64 (a2)).tmod t5)), (15, i6 x10), (16, i6 x11), (17, i6 x9)] ∧ L' = [⟨nx3, [.slice A3 t3.2.f0.length c3, .slice A4 t3.2.f1.length c4], 26⟩] ∧ X' = [orow 3 1 A2 t3.1.length c2 cs2] ∧ Imm.le I14 I' ∧ (armillarylaw22_AssignSelection.l1 a1 t2 t3 kq1 x10 x11 (W .i64 (x9 + 1))) = some y3) ?_ ?_
        ·rintro _ I15 nx13 _ _ ⟨x10, x11, rfl, rfl, rfl, hi15, H⟩
         replace H : (armillarylaw22_AssignSelection.l1 a1 t2 t3 kq1 x10 x11 (W .i64 (x9 + 1))) = some y3 := H
         refine QN.blkN ?_
         refine QN.then_ ?_
         refine OK.rg ?_
         refine RL.s 3 [(17, i6 (W .i64 (x9 + 1))), (7, .bool t1), (8, .slice A1 t2.length c1), (9, .slice A2 t3.1.length c2), (11, i6 t4.1), (13, i6 ((W .i64 (a1)).tmod (t2.length : Int))), (14, i6 ((W .i64 (a2)).tmod t5)), (15, i6 x10), (16, i6 x11)] ?_
         refine RL.nil (by kernel_rfl) ?_
         exact QN.sb (hJ6 _ _ _ _ _ ⟨x10, x11, W .i64 (x9 + 1), rfl, rfl, rfl, (Imm.le_trans hi14 hi15), H⟩) (.cons_cons _ .slnil) (.refl _)
        ·intro Q_4 hJ7 hQ7
         obtain ⟨y6, H, HK6⟩ := bnd H
         refine OK.cd (decide ((t3.1.getD (x9).toNat 0) ≥ 0)) (fun hb => ?_) (fun hb => ?_)
         ·skip
          have hc := (of_decide_eq_true hb)
          rw [if_pos hc] at H
          clear hb
          refine OK.sr ?_
          refine RL.s 3 [(78, i6 x9), (77, .slice A2 t3.1.length c2), (76, i6 x7), (7, .bool t1), (8, .slice A1 t2.length c1), (9, .slice A2 t3.1.length c2), (11, i6 t4.1), (13, i6 ((W .i64 (a1)).tmod (t2.length : Int))), (14, i6 ((W .i64 (a2)).tmod t5)), (15, i6 x7), (16, i6 x8), (17, i6 x9)] ?_
          obtain ⟨hib0, H⟩ := ifs H
          obtain ⟨hib1, H⟩ := ifs H
          have hx06_ := hib0; have hx16_ := hib1
          refine RL.ownAddr (e := 3) (sz := 1) (S := A2) (n := t3.1.length) (cap := c2) (cs := cs2) 0 (by kernel_rfl) (by omega) (fun g6_ hA6_ => ?_)
          have hc6_ := Ty.int_own (Reps.ext (Imm.le_trans (Imm.le_trans (Imm.le_trans (Imm.le_trans (Imm.le_trans hi5 hi6) hi7) hi8) hi9) hi14) hp2) x9 hib0 hib1
          refine RL.idx 1 .i64 x9 hA6_ t3.1.length c2 (some 79) (by kernel_rfl) (by kernel_rfl) (T := 23) (e := 3) (by kernel_rfl) (by kernel_rfl) hib0 hib1 (K' := [(79, pt g6_ (0 + (x9).toNat * 1)), (78, i6 x9), (77, .slice A2 t3.1.length c2), (76, i6 x7), (7, .bool t1), (8, .slice A1 t2.length c1), (9, .slice A2 t3.1.length c2), (11, i6 t4.1), (13, i6 ((W .i64 (a1)).tmod (t2.length : Int))), (14, i6 ((W .i64 (a2)).tmod t5)), (15, i6 x7), (16, i6 x8), (17, i6 x9)]) (by kernel_rfl) ?_
          refine RL.simK (K' := [(80, i6 (t3.1.getD (x9).toNat 0)), (76, i6 x7), (7, .bool t1), (8, .slice A1 t2.length c1), (9, .slice A2 t3.1.length c2), (11, i6 t4.1), (13, i6 ((W .i64 (a1)).tmod (t2.length : Int))), (14, i6 ((W .i64 (a2)).tmod t5)), (15, i6 x7), (16, i6 x8), (17, i6 x9)]) [(⟨g6_, 0 + (x9).toNat * 1, none⟩, i6 (t3.1.getD (x9).toNat 0))] (RFacts.ownQ (e := 3) (sz := 1) (S := A2) (n := t3.1.length) (cap := c2) (cs := cs2) 0 (by kernel_rfl) hA6_ (0 + (x9).toNat * 1) ((x9).toNat * 1 + 0) (by omega) (hc6_ 0 _ rfl) (RFacts.nil _ _ _)) 1 [.r 0] (by kernel_rfl) (by kernel_rfl) ?_
          obtain ⟨hc, H⟩ := ifs H
          refine RL.shl .i64 .i64 1 (t3.1.getD (x9).toNat 0) (some 81) (by kernel_rfl) (by kernel_rfl) hc (K' := [(81, i6 (W .i64 (1 * 2 ^ (min ((t3.1.getD (x9).toNat 0)).toNat 64)))), (80, i6 (t3.1.getD (x9).toNat 0)), (76, i6 x7), (7, .bool t1), (8, .slice A1 t2.length c1), (9, .slice A2 t3.1.length c2), (11, i6 t4.1), (13, i6 ((W .i64 (a1)).tmod (t2.length : Int))), (14, i6 ((W .i64 (a2)).tmod t5)), (15, i6 x7), (16, i6 x8), (17, i6 x9)]) (by kernel_rfl) ?_
          refine RL.st 2 [(15, i6 (bOr .i64 x7 (W .i64 (1 * 2 ^ (min ((t3.1.getD (x9).toNat 0)).toNat 64))))), (7, .bool t1), (8, .slice A1 t2.length c1), (9, .slice A2 t3.1.length c2), (11, i6 t4.1), (13, i6 ((W .i64 (a1)).tmod (t2.length : Int))), (14, i6 ((W .i64 (a2)).tmod t5)), (16, i6 x8), (17, i6 x9)] ?_
          obtain ⟨hi0_4, H⟩ := ifs H
          obtain ⟨hi1_4, H⟩ := ifs H
          obtain ⟨g7_, o7_, hA7_, A7_, c7_, hl7_, hr7_, hc7_⟩ := Ty.slice_at (Rd.ext (Imm.le_trans (Imm.le_trans (Imm.le_trans (Imm.le_trans (Imm.le_trans (Imm.le_trans hi4 hi5) hi6) hi7) hi8) hi9) hi14) hr1) x9 hi0_4 hi1_4
          obtain ⟨hi0_5, H⟩ := ifs H
          obtain ⟨hi1_5, H⟩ := ifs H
          refine OK.ownAddr (e := 3) (sz := 1) (S := A2) (n := t3.1.length) (cap := c2) (cs := cs2) 0 (by kernel_rfl) (by omega) (fun g8_ hA8_ => ?_)
          have hc8_ := Ty.int_own (Reps.ext (Imm.le_trans (Imm.le_trans (Imm.le_trans (Imm.le_trans (Imm.le_trans hi5 hi6) hi7) hi8) hi9) hi14) hp2) x9 hi0_5 hi1_5
          have hx08_ := hi0_5; have hx18_ := hi1_5
          obtain ⟨hi0_6, H⟩ := ifs H
          obtain ⟨hi1_6, H⟩ := ifs H
          obtain ⟨g9_, o9_, hA9_, hc9_⟩ := Ty.int_at hr7_ (t3.1.getD (x9).toNat 0) hi0_6 hi1_6
          refine OK.drawnC 16 11 O6_63 a6_63n (by kernel_rfl) (by kernel_rfl) u6d3l (u6d3g t3 x9 g7_ o7_ g8_ g9_ o9_) [(⟨g7_, o7_ + (x9).toNat * 1, none⟩, .slice A7_ ((t2.getD (x9).toNat []).length) c7_), (⟨g8_, 0 + (x9).toNat * 1, none⟩, i6 (t3.1.getD (x9).toNat 0)), (⟨g9_, o9_ + ((t3.1.getD (x9).toNat 0)).toNat * 1, none⟩, i6 ((t2.getD (x9).toNat []).getD ((t3.1.getD (x9).toNat 0)).toNat 0))] (RI.cons (hc7_ 0 _ rfl) (RI.own (e := 3) (sz := 1) (S := A2) (n := t3.1.length) (cap := c2) (cs := cs2) 0 (by kernel_rfl) hA8_ (0 + (x9).toNat * 1) ((x9).toNat * 1 + 0) (by omega) (hc8_ 0 _ rfl) (RI.cons (hc9_ 0 _ rfl) (RI.nil _)))) [.no, .no, .no, .no, .r 0, .no, .no, .no, .r 1, .no, .r 2] a6_63 a6_63o (by kernel_rfl) (by kernel_rfl) (u6d3s t2 A1 c1 t3 A2 c2 x8 x9 A7_ c7_ g7_ o7_ g8_ g9_ o9_) (u6d3f a1 a2 t1 t2 A1 c1 t3 A2 c2 t4 t5 x7 x8 x9 A7_ c7_ g7_ o7_ g8_ g9_ o9_ 11) (u6d3v a1 a2 t1 t2 A1 c1 t3 A2 c2 A3 c3 A4 c4 nx3 t4 t5 x7 x8 x9 A7_ c7_ g7_ o7_ g8_ g9_ o9_) (u6d3e a1 a2 t1 t2 A1 c1 t3 A2 c2 A3 c3 A4 c4 nx3 t4 t5 x7 x8 x9 A7_ c7_ g7_ o7_ g8_ g9_ o9_) [] framesOk.nil ?_ [u6d3f a1 a2 t1 t2 A1 c1 t3 A2 c2 t4 t5 x7 x8 x9 A7_ c7_ g7_ o7_ g8_ g9_ o9_ 3, u6d3f a1 a2 t1 t2 A1 c1 t3 A2 c2 t4 t5 x7 x8 x9 A7_ c7_ g7_ o7_ g8_ g9_ o9_ 7, u6d3f a1 a2 t1 t2 A1 c1 t3 A2 c2 t4 t5 x7 x8 x9 A7_ c7_ g7_ o7_ g8_ g9_ o9_ 9] (framesOk.cons (fun u => rfl) (framesOk.cons (fun u => rfl) (framesOk.cons (fun u => rfl) framesOk.nil))) ?_ ?_
          ·refine LoudsG.nil
          ·refine Givens.cons (fun u w =>  ?_) (fun _ _ _ => rfl) (Givens.cons (fun u w =>  ?_) (fun _ _ _ => rfl) (Givens.cons (fun u w =>  ?_) (fun _ _ _ => rfl) (Givens.nil)))
           ·exact giv_idx (T := 22) (e := 24) 1 .i64 x9 hA7_ t2.length c1 (by kernel_rfl) (by kernel_rfl) (by kernel_rfl) hi0_4 hi1_4 w
           ·exact giv_idx (T := 23) (e := 3) 1 .i64 x9 hA8_ t3.1.length c2 (by kernel_rfl) (by kernel_rfl) (by kernel_rfl) hi0_5 hi1_5 w
           ·exact giv_idx (T := 24) (e := 2) 1 .i64 (t3.1.getD (x9).toNat 0) hA9_ ((t2.getD (x9).toNat []).length) c7_ (by kernel_rfl) (by kernel_rfl) (by kernel_rfl) hi0_6 hi1_6 w
          intro u I16 nx14 hi16 hF
          clear hF
          refine RL.norm (K' := [(93, i6 ((t2.getD (x9).toNat []).getD ((t3.1.getD (x9).toNat 0)).toNat 0)), (92, pt g9_ (o9_ + ((t3.1.getD (x9).toNat 0)).toNat * 1)), (91, i6 (t3.1.getD (x9).toNat 0)), (90, pt g8_ (0 + (x9).toNat * 1)), (89, i6 x9), (88, .slice A2 t3.1.length c2), (87, .slice A7_ ((t2.getD (x9).toNat []).length) c7_), (86, pt g7_ (o7_ + (x9).toNat * 1)), (85, i6 x9), (84, .slice A1 t2.length c1), (83, i6 x8), (15, i6 (bOr .i64 x7 (W .i64 (1 * 2 ^ (min ((t3.1.getD (x9).toNat 0)).toNat 64))))), (7, .bool t1), (8, .slice A1 t2.length c1), (9, .slice A2 t3.1.length c2), (11, i6 t4.1), (13, i6 ((W .i64 (a1)).tmod (t2.length : Int))), (14, i6 ((W .i64 (a2)).tmod t5)), (16, i6 x8), (17, i6 x9)]) (X' := [orow 3 1 A2 t3.1.length c2 cs2]) (by kernel_rfl) rfl rfl rfl ?_
          refine RL.s 2 [(16, i6 (W .i64 (x8 + ((t2.getD (x9).toNat []).getD ((t3.1.getD (x9).toNat 0)).toNat 0)))), (15, i6 (bOr .i64 x7 (W .i64 (1 * 2 ^ (min ((t3.1.getD (x9).toNat 0)).toNat 64))))), (7, .bool t1), (8, .slice A1 t2.length c1), (9, .slice A2 t3.1.length c2), (11, i6 t4.1), (13, i6 ((W .i64 (a1)).tmod (t2.length : Int))), (14, i6 ((W .i64 (a2)).tmod t5)), (17, i6 x9)] ?_
          refine RL.nil (by kernel_rfl) ?_
          obtain rfl := Option.some.inj H
          exact QN.sb (hJ7 _ _ _ _ _ ⟨bOr .i64 x7 (W .i64 (1 * 2 ^ (min ((t3.1.getD (x9).toNat 0)).toNat 64))), W .i64 (x8 + ((t2.getD (x9).toNat []).getD ((t3.1.getD (x9).toNat 0)).toNat 0)), rfl, rfl, rfl, hi16, HK6⟩) (.cons_cons _ .slnil) (.refl _)
         ·skip
          have hc := (of_decide_eq_false hb)
          rw [if_neg hc] at H
          clear hb
          refine OK.sk ?_
          obtain rfl := Option.some.inj H
          exact QN.sb (hJ7 _ _ _ _ _ ⟨x7, x8, rfl, rfl, rfl, (Imm.le_refl _), HK6⟩) (.cons_cons _ .slnil) (.refl _)
       ·skip
        have hc := (of_decide_eq_false hb)
        rw [if_neg hc] at H
        clear hb
        refine OK.ex 0 ?_
        refine QN.thenE ?_
        refine QN.outE hQ6 ?_
        refine QN.blkE ?_
        obtain rfl := Option.some.inj H
        exact QN.sb (hJ3 _ _ _ _ _ ⟨x7, x8, rfl, rfl, rfl, hi14, HK3⟩) (.cons_cons _ .slnil) (.refl _)
   ·intro Q_5 hJ2 hQ2
    obtain ⟨y2, H, HK2⟩ := bnd H
    refine OK.rg ?_
    refine RL.s 4 [(50, .bool ((t2.length : Int) == 0)), (1, .int .u8 a1), (2, .int .u8 a2), (7, .bool t1), (8, .slice A1 t2.length c1), (9, .slice A2 t3.1.length c2), (11, i6 t4.1)] ?_
    refine RL.cases ((t2.length : Int) == 0) (fun hb => ?_) (fun hb => ?_)
    ·have hc := (beq_iff_eq.1 hb)
     rw [hb]
     rw [if_pos hc] at H; clear hb
     refine RL.s 4 [(54, .bool true), (1, .int .u8 a1), (2, .int .u8 a2), (7, .bool t1), (8, .slice A1 t2.length c1), (9, .slice A2 t3.1.length c2), (11, i6 t4.1)] ?_
     refine RL.nil (by kernel_rfl) ?_
     obtain rfl := Option.some.inj H
     exact QN.sb (hJ2 _ _ _ _ _ ⟨true, rfl, rfl, rfl, (Imm.le_refl _), HK2⟩) (.cons_cons _ .slnil) (.refl _)
    ·have hc := (beq_eq_false_iff_ne.1 hb)
     rw [hb]
     rw [if_neg hc] at H; clear hb
     refine RL.s 1 [(51, .slice A1 t2.length c1), (50, .bool false), (1, .int .u8 a1), (2, .int .u8 a2), (7, .bool t1), (8, .slice A1 t2.length c1), (9, .slice A2 t3.1.length c2), (11, i6 t4.1)] ?_
     obtain ⟨t7, hA7, H⟩ := bnd H
     refine RL.callP 21 [.slice A1 t2.length c1] (some 52) (fun w => armillaryref22_Columns.Post I7 w t7) (by kernel_rfl) (by kernel_rfl) (fun w hs => armillaryref22_Columns.calls I7 t2 A1 c1 w hs.im hl1 (Rd.ext (Imm.le_trans (Imm.le_trans (Imm.le_trans hi4 hi5) hi6) hi7) hr1) t7 hA7) ?_
     rintro w v w' hs ⟨I17, rfl, hg⟩
     have hi17 := hg.le
     refine RL.resume (X' := [orow 3 1 A2 t3.1.length c2 cs2]) rfl (hs.call hg) ?_
     clear hs hg
     generalize w'.heap.size = nx15
     clear w w'
     refine RL.s 2 [(54, .bool (t7 == 0)), (1, .int .u8 a1), (2, .int .u8 a2), (7, .bool t1), (8, .slice A1 t2.length c1), (9, .slice A2 t3.1.length c2), (11, i6 t4.1)] ?_
     refine RL.nil (by kernel_rfl) ?_
     obtain rfl := Option.some.inj H
     exact QN.sb (hJ2 _ _ _ _ _ ⟨(t7 == 0), rfl, rfl, rfl, hi17, HK2⟩) (.cons_cons _ .slnil) (.refl _)
 ·intro Q_6 hJ1 hQ1
  obtain ⟨y1, H, HK1⟩ := bnd H
  refine OK.rg ?_
  refine RL.s 3 [(34, .bool (!t4.2)), (11, i6 t4.1), (9, .slice A2 t3.1.length c2), (8, .slice A1 t2.length c1), (7, .bool t1), (1, .int .u8 a1), (2, .int .u8 a2)] ?_
  refine RL.cases t4.2 (fun hb => ?_) (fun hb => ?_)
  ·have hc := hb
   rw [hb]
   rw [if_pos hc] at H; clear hb
   refine RL.s 7 [(41, .bool ((t3.1.length : Int) != (t2.length : Int))), (11, i6 t4.1), (9, .slice A2 t3.1.length c2), (8, .slice A1 t2.length c1), (7, .bool t1), (1, .int .u8 a1), (2, .int .u8 a2)] ?_
   refine RL.cases ((t3.1.length : Int) != (t2.length : Int)) (fun hb => ?_) (fun hb => ?_)
   ·have hc := (bne_iff_ne.1 hb)
    rw [hb]
    rw [if_pos hc] at H; clear hb
    refine RL.s 5 [(46, .bool true), (11, i6 t4.1), (9, .slice A2 t3.1.length c2), (8, .slice A1 t2.length c1), (7, .bool t1), (1, .int .u8 a1), (2, .int .u8 a2)] ?_
    refine RL.nil (by kernel_rfl) ?_
    obtain rfl := Option.some.inj H
    exact QN.sb (hJ1 _ _ _ _ _ ⟨true, rfl, rfl, rfl, (Imm.le_refl _), HK1⟩) (.cons_cons _ .slnil) (.refl _)
   ·have hc := (not_not_intro (bne_eq_false_iff_eq.1 hb))
    rw [hb]
    rw [if_neg hc] at H; clear hb
    refine RL.s 2 [(43, .slice A1 t2.length c1), (42, i6 t4.1), (41, .bool false), (11, i6 t4.1), (9, .slice A2 t3.1.length c2), (8, .slice A1 t2.length c1), (7, .bool t1), (1, .int .u8 a1), (2, .int .u8 a2)] ?_
    obtain ⟨t8, hA8, H⟩ := bnd H
    refine RL.callP 23 [.slice A1 t2.length c1] (some 44) (fun w => armillaryref22_Optimum.Post I6 w t8) (by kernel_rfl) (by kernel_rfl) (fun w hs => armillaryref22_Optimum.calls k I6 t2 A1 c1 w hs.im hl1 (Rd.ext (Imm.le_trans (Imm.le_trans hi4 hi5) hi6) hr1) t8 hA8) ?_
    rintro w v w' hs ⟨I18, rfl, hg⟩
    have hi18 := hg.le
    refine RL.resume (X' := [orow 3 1 A2 t3.1.length c2 cs2]) rfl (hs.call hg) ?_
    clear hs hg
    generalize w'.heap.size = nx16
    clear w w'
    refine RL.s 2 [(46, .bool (t4.1 != t8)), (11, i6 t4.1), (9, .slice A2 t3.1.length c2), (8, .slice A1 t2.length c1), (7, .bool t1), (1, .int .u8 a1), (2, .int .u8 a2)] ?_
    refine RL.nil (by kernel_rfl) ?_
    obtain rfl := Option.some.inj H
    exact QN.sb (hJ1 _ _ _ _ _ ⟨(t4.1 != t8), rfl, rfl, rfl, hi18, HK1⟩) (.cons_cons _ .slnil) (.refl _)
  ·have hc := (Bool.eq_false_iff.1 hb)
   rw [hb]
   rw [if_neg hc] at H; clear hb
   refine RL.s 12 [(46, .bool true), (11, i6 t4.1), (9, .slice A2 t3.1.length c2), (8, .slice A1 t2.length c1), (7, .bool t1), (1, .int .u8 a1), (2, .int .u8 a2)] ?_
   refine RL.nil (by kernel_rfl) ?_
   obtain rfl := Option.some.inj H
   exact QN.sb (hJ1 _ _ _ _ _ ⟨true, rfl, rfl, rfl, (Imm.le_refl _), HK1⟩) (.cons_cons _ .slnil) (.refl _)

end Go.Proofs.Ytdmhbcgmimfjcaa
namespace Go.Proofs.Ytdmhbcgmimfjcaa.RW
open Go Go.RowKit

/-- The whole memory, as cells that never turn. -/
def wImm (W : World) : Imm := look W
theorem wImm_at (W : World) : (wImm W).at_ W := fun _ _ h => h
/-- What reads as a datum of type t is told by d, with p. -/
def Opens (P : Program) {α : Type} (d : Ty α) (t : TypeId) (p : α → Prop) : Prop :=
 ∀ {H : Type} {enc : TypeId × Value → H} (W : World) (base : Nat) (sp : Nat → Bool) (held : Bool) (fuel : Nat) (cs : List Value) (x : DataW H × List MemPlace), DataW.trod enc P W base sp held fuel t cs = some x → ∃ a, d.K (wImm W) a cs ∧ p a

section
variable {P : Program} {α β : Type} {d : Ty α} {t e : TypeId} {p : α → Prop}
theorem opens_int {k : IntKind} (ht : P.underlying t = some (.int k)) : Opens P (Ty.int k) t (fun n => (Lit.int k n).wf = true) := by
 intro H enc W base sp held fuel cs x h
 obtain ⟨n, rfl, _, hw⟩ := DataW.trod_int ht h
 exact ⟨n, rfl, hw⟩
theorem opens_bool (ht : P.underlying t = some .bool) : Opens P Ty.bool t (fun _ => True) := by
 intro H enc W base sp held fuel cs x h
 obtain ⟨b, rfl, _⟩ := DataW.trod_bool ht h
 exact ⟨b, rfl, trivial⟩
theorem opens_string (ht : P.underlying t = some .string) : Opens P Ty.string t (fun s => s.size ≤ maxLen) := by
 intro H enc W base sp held fuel cs x h
 obtain ⟨s, rfl, _, hs⟩ := DataW.trod_string ht h
 exact ⟨s, rfl, hs⟩
theorem add_add {a : Addr} (h : a.spot = none) (n m : Nat) : (a.add n).add m = ⟨a.block, a.off + n + m, none⟩ := by
 obtain ⟨b, o, s⟩ := a
 obtain rfl : s = none := h
 unfold Addr.add
 split <;> split <;> simp_all
theorem opens_slice (ho : Opens P d e p) (ht : P.underlying t = some (.slice e)) (hsz : P.cellsOf e = d.sz) (hpos : 0 < d.sz) : Opens P (Ty.slice d) t (fun l => ∀ x ∈ l, p x) := by
 intro H enc W base sp held fuel cs x h
 rcases DataW.trod_slice ht h with ⟨rfl, _⟩ | ⟨a, len, cap, elems, rest, n, _, rfl, _, hb, hl, hm, hlen, hel, _, _⟩
 ·exact ⟨[], ⟨none, 0, rfl, Nat.le_refl _, Rd.nil _ _ _⟩, fun x hx => by cases hx⟩
 ·have hsp0 : 0 < len → a.spot = none := by
   intro hi
   have h1 := hel 0 hi
   rw [List.getElem?_eq_getElem (by rw [hlen]; exact hi), Option.bind_eq_some_iff] at h1
   obtain ⟨c, hc, hy⟩ := h1
   obtain ⟨_, hcl, hcell⟩ := World.cells?_some hc
   have h2 := hcell 0 (by rw [hsz]; exact hpos)
   have hlt : 0 < c.length := by rw [hcl, hsz]; exact hpos
   rw [List.getElem?_eq_getElem hlt, show (a.add (0 * P.cellsOf e)).add 0 = a from by simp [Addr.add]] at h2
   cases hsp : a.spot with
   | none => rfl
   | some s =>
    exfalso
    unfold World.cell? at h2
    split at h2
    ·rw [hsp] at h2; simp at h2
    ·cases h2
  have each : ∀ i, i < len → ∃ v c, d.K (wImm W) v c ∧ p v ∧ a.spot = none ∧ ∀ q u, c[q]? = some u → wImm W ⟨a.block, a.off + i * d.sz + q, none⟩ = some u := by
   intro i hi
   have h1 := hel i hi
   rw [List.getElem?_eq_getElem (by rw [hlen]; exact hi), Option.bind_eq_some_iff] at h1
   obtain ⟨c, hc, hy⟩ := h1
   obtain ⟨v, hk, hp⟩ := ho W base sp held n c _ hy
   obtain ⟨_, hcl, hcell⟩ := World.cells?_some hc
   have hspot := hsp0 (by omega)
   refine ⟨v, c, hk, hp, hspot, fun q u hu => ?_⟩
   have hql : q < c.length := (List.getElem?_eq_some_iff.1 hu).1
   have h2 := hcell q (by rw [← hcl]; exact hql)
   rw [add_add hspot, hsz, hu] at h2
   exact h2
  have build : ∀ n, n ≤ len → ∃ l : List α, l.length = n ∧ (∀ x ∈ l, p x) ∧ ∀ (j : Nat) (v : α), l[j]? = some v → ∃ c, d.K (wImm W) v c ∧ a.spot = none ∧ ∀ q u, c[q]? = some u → wImm W ⟨a.block, a.off + j * d.sz + q, none⟩ = some u := by
   intro n
   induction n with
   | zero => intro _; exact ⟨[], rfl, (fun x hx => by cases hx), fun j v hj => by cases hj⟩
   | succ n ih =>
    intro hn
    obtain ⟨l, hl1, hl2, hl3⟩ := ih (by omega)
    obtain ⟨v, c, hk, hp, hs, hc⟩ := each n (by omega)
    refine ⟨l ++ [v], by simp [hl1], fun x hx => ?_, fun j w hj => ?_⟩
    ·rcases List.mem_append.1 hx with hx | hx
     ·exact hl2 x hx
     ·rw [List.mem_singleton.1 hx]; exact hp
    ·rcases Nat.lt_or_ge j l.length with hlt | hge
     ·rw [List.getElem?_append_left hlt] at hj
      exact hl3 j w hj
     ·rw [List.getElem?_append_right hge] at hj
      have hj0 : j - l.length = 0 := by
       rcases Nat.eq_zero_or_pos (j - l.length) with h0 | h0
       ·exact h0
       ·rw [List.getElem?_eq_none (by simp; omega)] at hj; cases hj
      rw [hj0] at hj
      simp only [List.getElem?_cons_zero, Option.some.injEq] at hj
      subst hj
      obtain rfl : j = n := by omega
      exact ⟨c, hk, hs, hc⟩
  obtain ⟨l, hl1, hl2, hl3⟩ := build len (Nat.le_refl _)
  refine ⟨l, ⟨some a, cap, by rw [hl1], by omega, ⟨by unfold maxLen at hm; omega, fun hne => ?_⟩⟩, hl2⟩
  have h0 : 0 < l.length := List.length_pos_iff.2 hne
  obtain ⟨_, _, hs, _⟩ := hl3 0 _ (List.getElem?_eq_getElem h0)
  refine ⟨a.block, a.off, by obtain ⟨b, o, s⟩ := a; simp_all, fun j v hj => ?_⟩
  obtain ⟨c, hk, _, hc⟩ := hl3 j v hj
  exact ⟨c, hk, hc⟩

/-- The fields of a struct, from cell 'off' on. -/
def offs : Nat → List (TypeId × Nat) → List (TypeId × Nat × Nat)
 | _, [] => []
 | o, (t, n) :: r => (t, o, n) :: offs (o + n) r
def total : List (TypeId × Nat) → Nat
 | [] => 0
 | (_, n) :: r => n + total r
def OpensF (P : Program) {α : Type} (d : Ty α) (fl : List (TypeId × Nat)) (p : α → Prop) : Prop :=
 ∀ {H : Type} {enc : TypeId × Value → H} (W : World) (base : Nat) (sp : Nat → Bool) (held : Bool) (fuel off : Nat) (cs : List Value),
  (∀ q ∈ offs off fl, ∃ x, DataW.trod enc P W base sp held fuel q.1 ((cs.drop q.2.1).take q.2.2) = some x) → cs.length = off + total fl → ∃ a, d.K (wImm W) a (cs.drop off) ∧ p a
theorem opensF_one (ho : Opens P d t p) (n : Nat) : OpensF P d [(t, n)] p := by
 intro H enc W base sp held fuel off cs h hl
 obtain ⟨x, hx⟩ := h _ List.mem_cons_self
 simp only [total, Nat.add_zero] at hl
 have e : (cs.drop off).take n = cs.drop off := List.take_of_length_le (by rw [List.length_drop]; omega)
 simp only at hx
 rw [e] at hx
 exact ho W base sp held fuel _ x hx
theorem opensF_cons {d2 : Ty β} {fl : List (TypeId × Nat)} {q : β → Prop} (n : Nat) (ho : Opens P d t p) (hr : OpensF P d2 fl q) : OpensF P (Ty.pair d d2) ((t, n) :: fl) (fun x => p x.1 ∧ q x.2) := by
 intro H enc W base sp held fuel off cs h hl
 simp only [total] at hl
 obtain ⟨x, hx⟩ := h _ List.mem_cons_self
 obtain ⟨a, hk, hp⟩ := ho W base sp held fuel _ x hx
 obtain ⟨b, hk2, hp2⟩ := hr (enc := enc) W base sp held fuel (off + n) cs (fun q hq => h q (List.mem_cons_of_mem _ hq)) (by omega)
 refine ⟨(a, b), ⟨_, _, ?_, hk, hk2⟩, hp, hp2⟩
 simp only
 rw [← List.drop_drop, List.take_append_drop]
theorem opens_struct {fl : List (TypeId × Nat)} (ho : OpensF P d fl p) (ht : P.underlying t = some (.struct (P.fieldsOf t))) (hf : (P.fieldsOf t).toList.map (fun f => (f.type, f.offset, P.cellsOf f.type)) = offs 0 fl) (hc : P.cellsOf t = total fl)
  (f : β → α) (g : α → β) (hg : ∀ y, f (g y) = y) : Opens P (Ty.iso d f) t (fun x => p (f x)) := by
 intro H enc W base sp held fuel cs x h
 obtain ⟨xs, n, _, _, hcl, hxl, hx⟩ := DataW.trod_struct ht h
 have hseg : ∀ q ∈ offs 0 fl, ∃ x, DataW.trod enc P W base sp held n q.1 ((cs.drop q.2.1).take q.2.2) = some x := by
  intro q hq
  rw [← hf] at hq
  obtain ⟨f, hfm, rfl⟩ := List.mem_map.1 hq
  obtain ⟨i, hi, hif⟩ := List.getElem_of_mem hfm
  have h1 := hx i f (by rw [← Array.getElem?_toList, List.getElem?_eq_getElem hi, hif])
  have h2 : i < xs.length := by rw [hxl]; simpa using hi
  rw [List.getElem?_eq_getElem h2] at h1
  exact ⟨_, h1⟩
 obtain ⟨a, hk, hp⟩ := ho W base sp held n 0 cs hseg (by rw [hcl, hc, Nat.zero_add])
 refine ⟨g a, ?_, by show p (f (g a)); rw [hg]; exact hp⟩
 show d.K (wImm W) (f (g a)) cs
 rw [hg]
 exact hk
theorem opens_array {n : Nat} {fl : List (TypeId × Nat)} (ho : OpensF P d fl p) (ht : P.underlying t = some (.array n e)) (hf : (List.range n).map (fun i => (e, i * P.cellsOf e, P.cellsOf e)) = offs 0 fl) (hc : P.cellsOf t = total fl)
  (f : β → α) (g : α → β) (hg : ∀ y, f (g y) = y) : Opens P (Ty.iso d f) t (fun x => p (f x)) := by
 intro H enc W base sp held fuel cs x h
 obtain ⟨xs, m, _, _, hcl, hxl, hx⟩ := DataW.trod_array ht h
 have hseg : ∀ q ∈ offs 0 fl, ∃ x, DataW.trod enc P W base sp held m q.1 ((cs.drop q.2.1).take q.2.2) = some x := by
  intro q hq
  rw [← hf] at hq
  obtain ⟨i, hi, rfl⟩ := List.mem_map.1 hq
  have hi' := List.mem_range.1 hi
  have h1 := hx i hi'
  rw [List.getElem?_eq_getElem (show i < xs.length by omega)] at h1
  exact ⟨_, h1⟩
 obtain ⟨a, hk, hp⟩ := ho W base sp held m 0 cs hseg (by rw [hcl, hc, Nat.zero_add])
 refine ⟨g a, ?_, by show p (f (g a)); rw [hg]; exact hp⟩
 show d.K (wImm W) (f (g a)) cs
 rw [hg]
 exact hk
end
end Go.Proofs.Ytdmhbcgmimfjcaa.RW
namespace Go.Proofs.Ytdmhbcgmimfjcaa
open Go Go.Proofs.Ytdmhbcgmimfjcaa.RW
set_option linter.unusedVariables false
set_option maxRecDepth 100000
set_option maxHeartbeats 8000000

-- p58: no reading of the kind array
def p26 (x : S26) : Prop := (fun l => ∀ x ∈ l, (fun n => (Lit.int .i64 n).wf = true) x) x.f0 ∧ (fun l => ∀ x ∈ l, (fun n => (Lit.int .i64 n).wf = true) x) x.f1
theorem o26 : Opens Try.prog t26 26 p26 :=
 opens_struct (fl := [(24, 1), (24, 1)]) (opensF_cons 1 (opens_slice (e := 2) (opens_int (by kernel_rfl)) (by kernel_rfl) (by kernel_rfl) (Nat.le_of_ble_eq_true (by kernel_rfl))) (opensF_one (opens_slice (e := 2) (opens_int (by kernel_rfl)) (by kernel_rfl) (by kernel_rfl) (Nat.le_of_ble_eq_true (by kernel_rfl))) 1)) (by kernel_rfl) (by kernel_rfl) (by kernel_rfl) (fun (x : S26) => (x.f0, x.f1)) (fun y => ⟨y.1, y.2⟩) (fun _ => rfl)
def p39 (x : S39) : Prop := (fun n => (Lit.int .i32 n).wf = true) x.f0 ∧ (fun n => (Lit.int .i32 n).wf = true) x.f1
theorem o39 : Opens Try.prog t39 39 p39 :=
 opens_array (n := 2) (e := 21) (fl := [(21, 1), (21, 1)]) (opensF_cons 1 (opens_int (by kernel_rfl)) (opensF_one (opens_int (by kernel_rfl)) 1)) (by kernel_rfl) (by kernel_rfl) (by kernel_rfl) (fun (x : S39) => (x.f0, x.f1)) (fun y => ⟨y.1, y.2⟩) (fun _ => rfl)

end Go.Proofs.Ytdmhbcgmimfjcaa
namespace Go.Proofs.Ytdmhbcgmimfjcaa
open Go Go.Proofs.Ytdmhbcgmimfjcaa.RW hun
set_option linter.unusedVariables false
set_option maxRecDepth 100000
set_option maxHeartbeats 4000000
namespace selec
theorem place {a : Int} (ha : 0 ≤ a ∧ a ≤ 255) {n : Nat} (hn : 0 < n) : ∃ i : Nat, (W .i64 a).tmod (n : Int) = (i : Int) ∧ i < n := by
  rw [W64 (by omega) (by omega)]
  have h1 := Int.tmod_nonneg (n : Int) ha.1
  have h2 := Int.tmod_lt_of_pos a (by omega : (0 : Int) < (n : Int))
  exact ⟨(a.tmod (n : Int)).toNat, by omega, by omega⟩
section
variable {w : List (List Int)} {m : Nat} {l : List Int} {d : S26} {V : Int}
theorem loop (h : Vw w m) (hm6 : m ≤ 6) (s : Solved w m l d V) (a1 : Int) {i : Nat} (hi : (W .i64 a1).tmod (w.length : Int) = (i : Int)) (hin : i < w.length) : ∀ (q k n x : Nat), q + n = i → q < k → x < 2 ^ m → (∀ j, j < m → x.testBit j = taken (g l) n j) →
    ∃ x' : Nat, armillarylaw22_AssignSelection.l1 a1 w (l, d) k (x : Int) (hun.ahead w (g l) n) (n : Int) = some ((x' : Int), hun.ahead w (g l) i) ∧ x' < 2 ^ m ∧ ∀ j, j < m → x'.testBit j = taken (g l) i j := by
  have hn12 := h.nr
  have hll := s.ll
  have hp := (bitP m (by omega)).2
  intro q
  induction q with
  | zero =>
    intro k n x hq hk hx ht
    obtain ⟨k, rfl⟩ : ∃ m, k = m + 1 := ⟨k - 1, by omega⟩
    obtain rfl : n = i := by omega
    refine ⟨x, ?_, hx, ht⟩
    simp only [armillarylaw22_AssignSelection.l1]
    rw [hi, if_neg (by omega)]
  | succ q ih =>
    intro k n x hq hk hx ht
    obtain ⟨k, rfl⟩ : ∃ m, k = m + 1 := ⟨k - 1, by omega⟩
    have hn : n < w.length := by omega
    have hrl := h.rl n hn
    have hlen : ((w.getD n []).length : Int) = (m : Int) := by show ((row w n).length : Int) = _; omega
    have hb := ahead_b h (l := l) n (by omega) (fun i hi => (s.isa.rg i (by omega)).imp id (fun h1 => ⟨h1.2.1, h1.2.2.1⟩))
    simp only [armillarylaw22_AssignSelection.l1, tn, hlen]
    rw [hi, if_pos (by omega), if_pos (by omega), if_pos (by omega), Wn (by omega)]
    rcases s.isa.rg n hn with e | ⟨_, h1, h2, _⟩
    · rw [if_neg (by show ¬ g l n ≥ 0; omega), Option.bind_some]
      obtain ⟨x', h3, h4⟩ := ih k (n + 1) x (by omega) (by omega) hx (fun j hj => by rw [taken_succ, ht j hj, e, beq_eq_false_iff_ne.2 (by omega : (-1 : Int) ≠ (j : Int)), Bool.or_false])
      refine ⟨x', ?_, h4⟩
      rw [← h3, ahead_succ, if_pos e, Int.add_zero]
    · obtain ⟨c, hc⟩ : ∃ c : Nat, g l n = (c : Int) := ⟨(g l n).toNat, by omega⟩
      have he := h.eb n c hn (by omega)
      rw [show l.getD n 0 = (c : Int) from hc, tn]
      rw [if_pos (by omega), if_pos (by omega), if_pos (by omega), if_pos (by omega), if_pos (by omega), if_pos (by omega), if_pos (by omega), if_pos (by omega), if_pos (by omega), if_pos (by omega), Option.bind_some, bitO x (by omega) c (by omega)]
      rw [show W .i64 (hun.ahead w (g l) n + (w.getD n []).getD c 0) = hun.ahead w (g l) n + we w n c from W64 (by show _ ≤ hun.ahead w (g l) n + we w n c; omega) (by show hun.ahead w (g l) n + we w n c ≤ _; omega)]
      obtain ⟨x', h3, h4⟩ := ih k (n + 1) (x ||| 2 ^ c) (by omega) (by omega) (bitL hx (by omega)) (fun j hj => by
        rw [bitT, taken_succ]
        show (if j = c then true else x.testBit j) = _
        by_cases e2 : j = c
        · rw [if_pos e2, beq_iff_eq.2 (by omega : g l n = (j : Int)), Bool.or_true]
        · rw [if_neg e2, beq_eq_false_iff_ne.2 (by omega : g l n ≠ (j : Int)), Bool.or_false, ht j hj])
      refine ⟨x', ?_, h4⟩
      rw [← h3, ahead_succ, if_neg (by omega), hc, tn]
end
end selec
theorem armillarylaw22_AssignSelection_main (a0 : List (List Int)) (a1 a2 : Int) (hl : a0.length ≤ 9223372036854775807) (ha : 0 ≤ a1 ∧ a1 ≤ 255) (hb : 0 ≤ a2 ∧ a2 ≤ 255) : ∃ k, armillarylaw22_AssignSelection.f k a0 a1 a2 = some true := by
  refine ⟨a0.length + 2000, ?_⟩
  obtain ⟨w, m, e1, h, _, hm6⟩ := made a0 7 6 (by omega) (by omega) hl (k := a0.length + 2000) (by omega)
  obtain ⟨l, d, V, e2, s⟩ := solve h (k := a0.length + 2000) (by omega)
  have e3 := value_ok h (s.vd h).va (k := a0.length + 2000) (by omega)
  have hn := h.nr
  have hll := s.ll
  have hp := (bitP m (by omega)).2
  have hpos : 0 < 2 ^ m := Nat.two_pow_pos m
  obtain ⟨t0, e4, ht0⟩ := best_tab h hm6 w.length (a0.length + 2000) 0 (by omega) (by omega)
  have htl := ht0.len
  have hV : g t0 0 = V := ((ht0.at_ 0 hpos).congr (used' := none') (fun j _ => by simp)).uniq s.opt
  have e5 : armillaryref22_Optimum.f (a0.length + 2000) w = some V := by
    unfold armillaryref22_Optimum.f
    rw [show armillaryref22_Best.f (a0.length + 2000) w 0 = some t0 from e4, Option.bind_some, if_pos (by omega)]
    show some (g t0 0) = _
    rw [hV]
  unfold armillarylaw22_AssignSelection.f
  rw [show armillarylaw22_sanity.f (a0.length + 2000) = some true from sane (a0.length + 1940), Option.bind_some]
  rw [show armillaryref22_Made.f (a0.length + 2000) a0 7 6 = some w from e1, Option.bind_some, e2, Option.bind_some, e3, Option.bind_some, if_pos rfl, if_neg (by rw [hll]; simp), e5, Option.bind_some, Option.bind_some, s.val]
  have hvv : (V != V) = false := by simp
  rw [show ((V, true).1 != V) = false from hvv]
  unfold armillarylaw22_AssignSelection.k6
  rw [if_neg (by decide)]
  by_cases hw0 : (w.length : Int) = 0
  · rw [if_pos hw0, Option.bind_some]
    rfl
  · rw [if_neg hw0, columnsR h, Option.bind_some, Option.bind_some]
    by_cases hm0 : (m : Int) = 0
    · rw [beq_iff_eq.2 hm0]
      rfl
    · rw [beq_eq_false_iff_ne.2 hm0]
      unfold armillarylaw22_AssignSelection.k5
      rw [if_neg (by decide), if_neg hw0, columnsR h, Option.bind_some, if_neg hm0]
      obtain ⟨i, hi, hin⟩ := selec.place ha (n := w.length) (by omega)
      obtain ⟨j, hj, hjm⟩ := selec.place hb (n := m) (by omega)
      obtain ⟨x, e6, hx, ht⟩ := selec.loop h hm6 s a1 hi hin i (a0.length + 2000) 0 0 (by omega) (by omega) hpos (fun j hj => by simp [taken])
      rw [show armillarylaw22_AssignSelection.l1 a1 w (l, d) (a0.length + 2000) 0 0 0 = _ from e6, Option.bind_some]
      obtain ⟨t, e7, htab⟩ := best_tab h hm6 (w.length - (i + 1)) (a0.length + 2000) (i + 1) (by omega) (by omega)
      have htl2 := htab.len
      have hlt := bitL hx hjm
      have hrl := h.rl i hin
      have hlen : ((w.getD i []).length : Int) = (m : Int) := by show ((row w i).length : Int) = _; omega
      have he := h.eb i j hin hjm
      have htb := htab.b h (by omega) hlt
      have hab := ahead_b h (l := l) i (by omega) (fun i' hi' => (s.isa.rg i' (by omega)).imp id (fun h1 => ⟨h1.2.1, h1.2.2.1⟩))
      simp only [armillarylaw22_AssignSelection.k3, hi, hj, tn]
      rw [if_pos (by omega), bitA x (by omega) j (by omega)]
      by_cases hbit : x.testBit j = true
      · simp only [if_pos hbit]
        rw [if_pos trivial, Option.bind_some]
        rfl
      · have hbf : x.testBit j = false := by revert hbit; cases x.testBit j <;> simp
        simp only [if_neg hbit]
        rw [if_neg (by decide), if_pos (by omega), if_pos (by omega)]
        have fin : (g l i = -1 ∨ (j : Int) < g l i) → armillarylaw22_AssignSelection.k2 (a0.length + 2000) a1 a2 true w (V, true) (m : Int) (x : Int) (hun.ahead w (g l) i) false = some true := fun hc => by
          obtain ⟨Vj, h3, h4⟩ := s.ch.lex i hin j hjm (by rw [← ht j hjm]; exact hbf) hc
          have hVj : g t (x ||| 2 ^ j) = Vj := by
            have h5 := htab.at_ _ hlt
            rw [bitT] at h5
            refine (h5.congr fun q hq => ?_).uniq h3
            show (if q = j then true else x.testBit q) = if q = j then true else taken (g l) i q
            rw [ht q hq]
          unfold armillarylaw22_AssignSelection.k2
          simp only [hi, hj, tn, hlen]
          rw [if_neg (by decide), if_pos (by omega), if_pos (by omega), if_pos (by omega), if_pos (by omega), Wn (by omega), e7, Option.bind_some, if_pos (by omega), bitO x (by omega) j (by omega)]
          rw [if_pos (by omega), if_pos (by omega), tn]
          rw [show W .i64 (hun.ahead w (g l) i + (w.getD i []).getD j 0) = hun.ahead w (g l) i + we w i j from W64 (by show _ ≤ hun.ahead w (g l) i + we w i j; omega) (by show hun.ahead w (g l) i + we w i j ≤ _; omega)]
          rw [show W .i64 (hun.ahead w (g l) i + we w i j + t.getD (x ||| 2 ^ j) 0) = hun.ahead w (g l) i + we w i j + g t (x ||| 2 ^ j) from W64 (by show _ ≤ hun.ahead w (g l) i + we w i j + g t (x ||| 2 ^ j); omega) (by show hun.ahead w (g l) i + we w i j + g t (x ||| 2 ^ j) ≤ _; omega)]
          rw [if_pos (by show _ < V; omega)]
          rfl
        by_cases hge : g l i ≥ 0
        · rw [if_pos (show l.getD i 0 ≥ 0 from hge), if_pos (by omega), if_pos (by omega), Option.bind_some]
          by_cases hjl : (j : Int) ≥ g l i
          · rw [decide_eq_true (show (j : Int) ≥ l.getD i 0 from hjl)]
            rfl
          · rw [decide_eq_false (show ¬ (j : Int) ≥ l.getD i 0 from hjl)]
            exact fin (.inr (by omega))
        · rw [if_neg (show ¬ l.getD i 0 ≥ 0 from hge), Option.bind_some]
          exact fin (.inl (by rcases s.isa.rg i hin with e | ⟨_, h1, _⟩ <;> omega))
theorem armillarylaw22_AssignSelection_holds {p0 : List Int → Prop} (a0 : List (List Int)) (a1 a2 : Int) (hp0 : ∀ x ∈ a0, p0 x) (hl : a0.length ≤ 9223372036854775807) (hp1 : (Lit.int .u8 a1).wf = true) (hp2 : (Lit.int .u8 a2).wf = true) : ∃ k, armillarylaw22_AssignSelection.f k a0 a1 a2 = some true :=
  armillarylaw22_AssignSelection_main a0 a1 a2 hl (by simpa [Lit.wf, IntKind.min, IntKind.max, IntKind.signed, IntKind.bits] using hp1) (by simpa [Lit.wf, IntKind.min, IntKind.max, IntKind.signed, IntKind.bits] using hp2)
end Go.Proofs.Ytdmhbcgmimfjcaa
