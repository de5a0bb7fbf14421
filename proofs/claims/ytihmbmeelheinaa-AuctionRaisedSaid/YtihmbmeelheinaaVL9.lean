/- What a function of the program computes, and the walk that shows it; made by a program of the session's out of the translation; no conditions beyond those that the theorems name. -/
import Derived.Test.YtihmbmeelheinaaV2
import Derived.Test.YtihmbmeelheinaaV6
import Derived.Test.YtihmbmeelheinaaV5
import Derived.Test.YtihmbmeelheinaaV7
import Derived.Test.YtihmbmeelheinaaRows
import Derived.WalkKit
import Derived.ProofKit
import Derived.OpenShut
import Derived.ShutString
import Derived.ChangeOld
import Derived.Below
import Derived.Carry
import Derived.WideShapes
namespace Go.Proofs.Ytihmbmeelheinaa
open Go Go.Proofs.Ytihmbmeelheinaa.RW
set_option linter.unusedVariables false
set_option maxRecDepth 100000
set_option maxHeartbeats 8000000

/-! ### armillarylaw23_AuctionRaised: function 9, armillary/armillarylaw23.AuctionRaised -/
noncomputable def K9_0 : Code := cBody Try.f9
noncomputable def O9_64 : List Oper := cOps (cL (cL (cL (cR (cL (cL (cR (cL (cR (cR (cR (cR (cR (cR (cR (cR (cR K9_0)))))))))))))))))
noncomputable def O9_86 : List Oper := cOps (cL (cR (cR (cR (cR (cR (cR (cR (cR (cR (cR (cR (cR K9_0)))))))))))))
def armillarylaw23_AuctionRaised.k1  (x4 : Bool) : Option (Bool) := (some x4)
def armillarylaw23_AuctionRaised.k2 (k : Nat) (a1 : Int) (a2 : Int) (t1 : Bool) (t2 : List S48) (t3 : S29 × Int) (x2 : List S48) (t4 : S29 × Int) (x3 : Bool) : Option (Bool) := (if x3 = true then (some false) else ((if 0 ≤ ((W .i64 (a1)).tmod (t3.1.f0.length : Int)) then (if ((W .i64 (a1)).tmod (t3.1.f0.length : Int)) < (t4.1.f1.length : Int) then (if 0 ≤ ((W .i64 (a1)).tmod (t3.1.f0.length : Int)) then (if ((W .i64 (a1)).tmod (t3.1.f0.length : Int)) < (t3.1.f1.length : Int) then (if (t4.1.f1.getD ((W .i64 (a1)).tmod (t3.1.f0.length : Int)).toNat 0) = (t3.1.f1.getD ((W .i64 (a1)).tmod (t3.1.f0.length : Int)).toNat 0) then (if 0 ≤ ((W .i64 (a1)).tmod (t3.1.f0.length : Int)) then (if ((W .i64 (a1)).tmod (t3.1.f0.length : Int)) < (t4.1.f2.length : Int) then (if 0 ≤ ((W .i64 (a1)).tmod (t3.1.f0.length : Int)) then (if ((W .i64 (a1)).tmod (t3.1.f0.length : Int)) < (t3.1.f2.length : Int) then (if (t4.1.f2.getD ((W .i64 (a1)).tmod (t3.1.f0.length : Int)).toNat 0) = (t3.1.f2.getD ((W .i64 (a1)).tmod (t3.1.f0.length : Int)).toNat 0) then ((auction_Welfare.f k x2 t4.1).bind fun t5 => ((auction_Welfare.f k t2 t3.1).bind fun t6 => (if t5 = (W .i64 (t6 + (W .i64 (a2)))) then (some t1) else (some false)))) else (some false)) else none) else none) else none) else none) else (some false)) else none) else none) else none) else none).bind (armillarylaw23_AuctionRaised.k1)))
def armillarylaw23_AuctionRaised.k3 (k : Nat) (a1 : Int) (a2 : Int) (t1 : Bool) (t2 : List S48) (t3 : S29 × Int) (x2 : List S48) : Option (Bool) := ((auction_Clear.f k x2).bind fun t4 => ((if t4.2 ≠ 0 then (some true) else ((armillarylaw23_shaped.f t4.1).bind fun t7 => (if t7 = true then ((armillarylaw23_sameInts.f k t3.1.f0 t4.1.f0).bind fun t8 => (some (!t8))) else (some true)))).bind (armillarylaw23_AuctionRaised.k2 k a1 a2 t1 t2 t3 x2 t4)))
def armillarylaw23_AuctionRaised.l1 (a1 : Int) (a2 : Int) (t3 : S29 × Int) : Nat → (List S48) → Int → Option (List S48)
 | 0, _, _ => none
 | k + 1, x5, x6 => (if x6 < (x5.length : Int) then ((if 0 ≤ x6 then (if x6 < (x5.length : Int) then (if 0 ≤ ((W .i64 (a1)).tmod (t3.1.f0.length : Int)) then (if ((W .i64 (a1)).tmod (t3.1.f0.length : Int)) < (t3.1.f0.length : Int) then (if ((x5.getD (x6).toNat z48).f0) = (t3.1.f0.getD ((W .i64 (a1)).tmod (t3.1.f0.length : Int)).toNat 0) then (if 0 ≤ x6 then (if x6 < (x5.length : Int) then (if 0 ≤ ((W .i64 (a1)).tmod (t3.1.f0.length : Int)) then (if ((W .i64 (a1)).tmod (t3.1.f0.length : Int)) < (t3.1.f1.length : Int) then (some (((x5.getD (x6).toNat z48).f1) == (t3.1.f1.getD ((W .i64 (a1)).tmod (t3.1.f0.length : Int)).toNat 0))) else none) else none) else none) else none) else (some false)) else none) else none) else none) else none).bind (fun x7 => ((if x7 = true then (if 0 ≤ x6 then (if x6 < (x5.length : Int) then (if 0 ≤ x6 then (if x6 < (x5.length : Int) then (some (x5.set (x6).toNat (⟨(x5.getD (x6).toNat z48).f0, (x5.getD (x6).toNat z48).f1, W .i64 (((x5.getD (x6).toNat z48).f2) + (W .i64 (a2)))⟩ : S48))) else none) else none) else none) else none) else (some x5)).bind (fun x8 => (armillarylaw23_AuctionRaised.l1 a1 a2 t3 k x8 (W .i64 (x6 + 1))))))) else (some x5))
def armillarylaw23_AuctionRaised.k6 (k : Nat) (a1 : Int) (a2 : Int) (t1 : Bool) (t2 : List S48) (t3 : S29 × Int) (x1 : Bool) : Option (Bool) := (if x1 = true then (some false) else (if (t3.1.f0.length : Int) = 0 then (some t1) else (if (t3.1.f0.length : Int) = 0 then none else (if 0 ≤ ((W .i64 (a1)).tmod (t3.1.f0.length : Int)) then (if ((W .i64 (a1)).tmod (t3.1.f0.length : Int)) < (t3.1.f1.length : Int) then (if (t3.1.f1.getD ((W .i64 (a1)).tmod (t3.1.f0.length : Int)).toNat 0) < 0 then (some t1) else (if (([] : List S48).length + t2.length) * 24 ≤ 140737488355328 then ((armillarylaw23_AuctionRaised.l1 a1 a2 t3 k (([] : List S48) ++ t2) 0).bind (armillarylaw23_AuctionRaised.k3 k a1 a2 t1 t2 t3)) else none)) else none) else none))))
def armillarylaw23_AuctionRaised.f (k : Nat) (a0 : List S48) (a1 : Int) (a2 : Int) : Option (Bool) := ((armillarylaw23_sanity.f k ).bind fun t1 => ((armillaryref23_Made.f k a0).bind fun t2 => ((auction_Clear.f k t2).bind fun t3 => ((if t3.2 ≠ 0 then (some true) else ((armillarylaw23_shaped.f t3.1).bind fun t9 => (some (!t9)))).bind (armillarylaw23_AuctionRaised.k6 k a1 a2 t1 t2 t3)))))
def armillarylaw23_AuctionRaised.Post (I : Imm) (w : World) (r : Bool) (v : Value) (w' : World) : Prop :=
 ∃ (J : Imm), v = .bool r ∧ Got w w' I J []
noncomputable def a9_86n : List Nat := (0 :: 1 :: 0 :: 7 :: 15 :: 0 :: 32 :: 0 :: 224 :: 480 :: 1023 :: 2047 :: 4095 :: 8191 :: 4095 :: 32767 :: 65535 :: 4095 :: 135167 :: 4095 :: 921599 :: 1970175 :: 4194303 :: 8388607 :: 16777215 :: 33554431 :: 33554431 :: 134217727 :: 33554431 :: 33554431 :: 1073741823 :: 33554431 :: 2181038079 :: 8589934591 :: 17179869183 :: 34359738367 :: 68719476735 :: 137438953471 :: 274877906943 :: 549755813887 :: [])
theorem a9_86 : ancs O9_86 [] = a9_86n := by kernel_rfl
theorem a9_86o : drawOk O9_86 a9_86n 33 = true := by kernel_rfl
noncomputable def u9d1l (t5 : Int) (t6 : Int) : List Ld :=
 [⟨27, fun x => i6 t5, fun x => [], fun x J => True, fun x J J' h f => trivial⟩,
  ⟨30, fun x => i6 t6, fun x => [], fun x J => True, fun x J J' h f => trivial⟩]
noncomputable def u9d1g (a1 : Int) (t3 : S29 × Int) (g2_ : Nat) (o2_ : Nat) (g3_ : Nat) (o3_ : Nat) (g4_ : Nat) (o4_ : Nat) (g5_ : Nat) (o5_ : Nat) : List (Nat × ((Nat → Wt) → Value)) := [(3, fun u => pt g2_ (o2_ + ((W .i64 (a1)).tmod (t3.1.f0.length : Int)).toNat * 1)), (8, fun u => pt g3_ (o3_ + ((W .i64 (a1)).tmod (t3.1.f0.length : Int)).toNat * 1)), (11, fun u => .bool true), (15, fun u => pt g4_ (o4_ + ((W .i64 (a1)).tmod (t3.1.f0.length : Int)).toNat * 1)), (20, fun u => pt g5_ (o5_ + ((W .i64 (a1)).tmod (t3.1.f0.length : Int)).toNat * 1)), (24, fun u => .bool true)]
noncomputable def u9d1q (a1 : Int) (a2 : Int) (t1 : Bool) (t2 : List S48) (A1 : Option Addr) (c1 : Nat) (t3 : S29 × Int) (A2 : Option Addr) (c2 : Nat) (A3 : Option Addr) (c3 : Nat) (A4 : Option Addr) (c4 : Nat) (nx3 : Nat) (x2 : List S48) (A6 : Option Addr) (c6 : Nat) (t4 : S29 × Int) (A7 : Option Addr) (c7 : Nat) (A8 : Option Addr) (c8 : Nat) (A9 : Option Addr) (c9 : Nat) (nx7 : Nat) (x3 : Bool) (g2_ : Nat) (o2_ : Nat) (g3_ : Nat) (o3_ : Nat) (g4_ : Nat) (o4_ : Nat) (g5_ : Nat) (o5_ : Nat) (t5 : Int) (t6 : Int) (u : Nat → Wt) : Option (List Value × List (Nat × Value) × List (Nat × Nat)) := qSim Try.prog [(⟨g2_, o2_ + ((W .i64 (a1)).tmod (t3.1.f0.length : Int)).toNat * 1, none⟩, i6 (t4.1.f1.getD ((W .i64 (a1)).tmod (t3.1.f0.length : Int)).toNat 0)), (⟨g3_, o3_ + ((W .i64 (a1)).tmod (t3.1.f0.length : Int)).toNat * 1, none⟩, i6 (t3.1.f1.getD ((W .i64 (a1)).tmod (t3.1.f0.length : Int)).toNat 0)), (⟨g4_, o4_ + ((W .i64 (a1)).tmod (t3.1.f0.length : Int)).toNat * 1, none⟩, i6 (t4.1.f2.getD ((W .i64 (a1)).tmod (t3.1.f0.length : Int)).toNat 0)), (⟨g5_, o5_ + ((W .i64 (a1)).tmod (t3.1.f0.length : Int)).toNat * 1, none⟩, i6 (t3.1.f2.getD ((W .i64 (a1)).tmod (t3.1.f0.length : Int)).toNat 0))] [⟨nx3, [.slice A2 t3.1.f0.length c2, .slice A3 t3.1.f1.length c3, .slice A4 t3.1.f2.length c4], 29⟩, ⟨nx7, [.slice A7 t4.1.f0.length c7, .slice A8 t4.1.f1.length c8, .slice A9 t4.1.f2.length c9], 29⟩] O9_86 ⟨153, []⟩ (Ld.vl (u9d1l t5 t6)) (u9d1g a1 t3 g2_ o2_ g3_ o3_ g4_ o4_ g5_ o5_) u (.no :: .l 1 :: .no :: .no :: .r 0 :: .no :: .l 0 :: .no :: .no :: .r 1 :: .no :: .no :: .no :: .l 1 :: .no :: .no :: .r 2 :: .no :: .l 0 :: .no :: .no :: .r 3 :: .no :: .no :: .no :: .no :: .l 1 :: .no :: .no :: .l 0 :: .no :: .no :: .no :: []) 0 (O9_86.take 33) [(2, .int .u16 a2), (7, .bool t1), (8, .slice A1 t2.length c1), (9, pt nx3 0), (11, i6 ((W .i64 (a1)).tmod (t3.1.f0.length : Int))), (12, .slice A6 x2.length c6), (14, pt nx7 0), (113, .bool x3)]
noncomputable def u9d1s (a1 : Int) (a2 : Int) (t2 : List S48) (A1 : Option Addr) (c1 : Nat) (t3 : S29 × Int) (A2 : Option Addr) (c2 : Nat) (A3 : Option Addr) (c3 : Nat) (A4 : Option Addr) (c4 : Nat) (nx3 : Nat) (x2 : List S48) (A6 : Option Addr) (c6 : Nat) (t4 : S29 × Int) (A7 : Option Addr) (c7 : Nat) (A8 : Option Addr) (c8 : Nat) (A9 : Option Addr) (c9 : Nat) (nx7 : Nat) (g2_ : Nat) (o2_ : Nat) (g3_ : Nat) (o3_ : Nat) (g4_ : Nat) (o4_ : Nat) (g5_ : Nat) (o5_ : Nat) (t5 : Int) (t6 : Int) (u : Nat → Wt) : List Value := (pt nx7 1 :: .slice A8 t4.1.f1.length c8 :: i6 ((W .i64 (a1)).tmod (t3.1.f0.length : Int)) :: pt g2_ (o2_ + ((W .i64 (a1)).tmod (t3.1.f0.length : Int)).toNat * 1) :: i6 (t4.1.f1.getD ((W .i64 (a1)).tmod (t3.1.f0.length : Int)).toNat 0) :: pt nx3 1 :: .slice A3 t3.1.f1.length c3 :: i6 ((W .i64 (a1)).tmod (t3.1.f0.length : Int)) :: pt g3_ (o3_ + ((W .i64 (a1)).tmod (t3.1.f0.length : Int)).toNat * 1) :: i6 (t3.1.f1.getD ((W .i64 (a1)).tmod (t3.1.f0.length : Int)).toNat 0) :: .bool ((t4.1.f1.getD ((W .i64 (a1)).tmod (t3.1.f0.length : Int)).toNat 0) == (t3.1.f1.getD ((W .i64 (a1)).tmod (t3.1.f0.length : Int)).toNat 0)) :: .bool true :: pt nx7 2 :: .slice A9 t4.1.f2.length c9 :: i6 ((W .i64 (a1)).tmod (t3.1.f0.length : Int)) :: pt g4_ (o4_ + ((W .i64 (a1)).tmod (t3.1.f0.length : Int)).toNat * 1) :: i6 (t4.1.f2.getD ((W .i64 (a1)).tmod (t3.1.f0.length : Int)).toNat 0) :: pt nx3 2 :: .slice A4 t3.1.f2.length c4 :: i6 ((W .i64 (a1)).tmod (t3.1.f0.length : Int)) :: pt g5_ (o5_ + ((W .i64 (a1)).tmod (t3.1.f0.length : Int)).toNat * 1) :: i6 (t3.1.f2.getD ((W .i64 (a1)).tmod (t3.1.f0.length : Int)).toNat 0) :: .bool ((t4.1.f2.getD ((W .i64 (a1)).tmod (t3.1.f0.length : Int)).toNat 0) == (t3.1.f2.getD ((W .i64 (a1)).tmod (t3.1.f0.length : Int)).toNat 0)) :: .bool ((t4.1.f2.getD ((W .i64 (a1)).tmod (t3.1.f0.length : Int)).toNat 0) == (t3.1.f2.getD ((W .i64 (a1)).tmod (t3.1.f0.length : Int)).toNat 0)) :: .bool true :: .slice A6 x2.length c6 :: .agg #[.slice A7 t4.1.f0.length c7, .slice A8 t4.1.f1.length c8, .slice A9 t4.1.f2.length c9] :: i6 t5 :: .slice A1 t2.length c1 :: .agg #[.slice A2 t3.1.f0.length c2, .slice A3 t3.1.f1.length c3, .slice A4 t3.1.f2.length c4] :: i6 t6 :: .int .u16 a2 :: i6 (W .i64 (a2)) :: [])
noncomputable def u9d1f (a1 : Int) (a2 : Int) (t1 : Bool) (t2 : List S48) (A1 : Option Addr) (c1 : Nat) (t3 : S29 × Int) (A2 : Option Addr) (c2 : Nat) (A3 : Option Addr) (c3 : Nat) (A4 : Option Addr) (c4 : Nat) (nx3 : Nat) (x2 : List S48) (A6 : Option Addr) (c6 : Nat) (t4 : S29 × Int) (A7 : Option Addr) (c7 : Nat) (A8 : Option Addr) (c8 : Nat) (A9 : Option Addr) (c9 : Nat) (nx7 : Nat) (x3 : Bool) (g2_ : Nat) (o2_ : Nat) (g3_ : Nat) (o3_ : Nat) (g4_ : Nat) (o4_ : Nat) (g5_ : Nat) (o5_ : Nat) (t5 : Int) (t6 : Int) (i : Nat) (u : Nat → Wt) : List (Nat × Value) := foldPut ⟨153, []⟩ [(2, .int .u16 a2), (7, .bool t1), (8, .slice A1 t2.length c1), (9, pt nx3 0), (11, i6 ((W .i64 (a1)).tmod (t3.1.f0.length : Int))), (12, .slice A6 x2.length c6), (14, pt nx7 0), (113, .bool x3)] (O9_86.take i) (((u9d1s a1 a2 t2 A1 c1 t3 A2 c2 A3 c3 A4 c4 nx3 x2 A6 c6 t4 A7 c7 A8 c8 A9 c9 nx7 g2_ o2_ g3_ o3_ g4_ o4_ g5_ o5_ t5 t6) u).take i)
theorem u9d1v (a1 : Int) (a2 : Int) (t1 : Bool) (t2 : List S48) (A1 : Option Addr) (c1 : Nat) (t3 : S29 × Int) (A2 : Option Addr) (c2 : Nat) (A3 : Option Addr) (c3 : Nat) (A4 : Option Addr) (c4 : Nat) (nx3 : Nat) (x2 : List S48) (A6 : Option Addr) (c6 : Nat) (t4 : S29 × Int) (A7 : Option Addr) (c7 : Nat) (A8 : Option Addr) (c8 : Nat) (A9 : Option Addr) (c9 : Nat) (nx7 : Nat) (x3 : Bool) (g2_ : Nat) (o2_ : Nat) (g3_ : Nat) (o3_ : Nat) (g4_ : Nat) (o4_ : Nat) (g5_ : Nat) (o5_ : Nat) (t5 : Int) (t6 : Int) (u : Nat → Wt) : (u9d1q a1 a2 t1 t2 A1 c1 t3 A2 c2 A3 c3 A4 c4 nx3 x2 A6 c6 t4 A7 c7 A8 c8 A9 c9 nx7 x3 g2_ o2_ g3_ o3_ g4_ o4_ g5_ o5_ t5 t6 u).map (fun x => (x.1, x.2.1)) = some ((u9d1s a1 a2 t2 A1 c1 t3 A2 c2 A3 c3 A4 c4 nx3 x2 A6 c6 t4 A7 c7 A8 c8 A9 c9 nx7 g2_ o2_ g3_ o3_ g4_ o4_ g5_ o5_ t5 t6) u, (u9d1f a1 a2 t1 t2 A1 c1 t3 A2 c2 A3 c3 A4 c4 nx3 x2 A6 c6 t4 A7 c7 A8 c8 A9 c9 nx7 x3 g2_ o2_ g3_ o3_ g4_ o4_ g5_ o5_ t5 t6 33) u) := by kernel_rfl
theorem u9d1e (a1 : Int) (a2 : Int) (t1 : Bool) (t2 : List S48) (A1 : Option Addr) (c1 : Nat) (t3 : S29 × Int) (A2 : Option Addr) (c2 : Nat) (A3 : Option Addr) (c3 : Nat) (A4 : Option Addr) (c4 : Nat) (nx3 : Nat) (x2 : List S48) (A6 : Option Addr) (c6 : Nat) (t4 : S29 × Int) (A7 : Option Addr) (c7 : Nat) (A8 : Option Addr) (c8 : Nat) (A9 : Option Addr) (c9 : Nat) (nx7 : Nat) (x3 : Bool) (g2_ : Nat) (o2_ : Nat) (g3_ : Nat) (o3_ : Nat) (g4_ : Nat) (o4_ : Nat) (g5_ : Nat) (o5_ : Nat) (t5 : Int) (t6 : Int) (u : Nat → Wt) : (u9d1q a1 a2 t1 t2 A1 c1 t3 A2 c2 A3 c3 A4 c4 nx3 x2 A6 c6 t4 A7 c7 A8 c8 A9 c9 nx7 x3 g2_ o2_ g3_ o3_ g4_ o4_ g5_ o5_ t5 t6 u).map (fun x => x.2.2.map (·.1)) = (u9d1q a1 a2 t1 t2 A1 c1 t3 A2 c2 A3 c3 A4 c4 nx3 x2 A6 c6 t4 A7 c7 A8 c8 A9 c9 nx7 x3 g2_ o2_ g3_ o3_ g4_ o4_ g5_ o5_ t5 t6 u).map (fun x => x.2.2.map (·.2)) := by kernel_rfl
noncomputable def u9d2l  : List Ld :=
 []
noncomputable def u9d2g (a1 : Int) (t3 : S29 × Int) (g2_ : Nat) (o2_ : Nat) (g3_ : Nat) (o3_ : Nat) (g4_ : Nat) (o4_ : Nat) (g5_ : Nat) (o5_ : Nat) : List (Nat × ((Nat → Wt) → Value)) := [(3, fun u => pt g2_ (o2_ + ((W .i64 (a1)).tmod (t3.1.f0.length : Int)).toNat * 1)), (8, fun u => pt g3_ (o3_ + ((W .i64 (a1)).tmod (t3.1.f0.length : Int)).toNat * 1)), (11, fun u => .bool true), (15, fun u => pt g4_ (o4_ + ((W .i64 (a1)).tmod (t3.1.f0.length : Int)).toNat * 1)), (20, fun u => pt g5_ (o5_ + ((W .i64 (a1)).tmod (t3.1.f0.length : Int)).toNat * 1)), (24, fun u => .bool false)]
noncomputable def u9d2q (a1 : Int) (a2 : Int) (t1 : Bool) (t2 : List S48) (A1 : Option Addr) (c1 : Nat) (t3 : S29 × Int) (A2 : Option Addr) (c2 : Nat) (A3 : Option Addr) (c3 : Nat) (A4 : Option Addr) (c4 : Nat) (nx3 : Nat) (x2 : List S48) (A6 : Option Addr) (c6 : Nat) (t4 : S29 × Int) (A7 : Option Addr) (c7 : Nat) (A8 : Option Addr) (c8 : Nat) (A9 : Option Addr) (c9 : Nat) (nx7 : Nat) (x3 : Bool) (g2_ : Nat) (o2_ : Nat) (g3_ : Nat) (o3_ : Nat) (g4_ : Nat) (o4_ : Nat) (g5_ : Nat) (o5_ : Nat) (u : Nat → Wt) : Option (List Value × List (Nat × Value) × List (Nat × Nat)) := qSim Try.prog [(⟨g2_, o2_ + ((W .i64 (a1)).tmod (t3.1.f0.length : Int)).toNat * 1, none⟩, i6 (t4.1.f1.getD ((W .i64 (a1)).tmod (t3.1.f0.length : Int)).toNat 0)), (⟨g3_, o3_ + ((W .i64 (a1)).tmod (t3.1.f0.length : Int)).toNat * 1, none⟩, i6 (t3.1.f1.getD ((W .i64 (a1)).tmod (t3.1.f0.length : Int)).toNat 0)), (⟨g4_, o4_ + ((W .i64 (a1)).tmod (t3.1.f0.length : Int)).toNat * 1, none⟩, i6 (t4.1.f2.getD ((W .i64 (a1)).tmod (t3.1.f0.length : Int)).toNat 0)), (⟨g5_, o5_ + ((W .i64 (a1)).tmod (t3.1.f0.length : Int)).toNat * 1, none⟩, i6 (t3.1.f2.getD ((W .i64 (a1)).tmod (t3.1.f0.length : Int)).toNat 0))] [⟨nx3, [.slice A2 t3.1.f0.length c2, .slice A3 t3.1.f1.length c3, .slice A4 t3.1.f2.length c4], 29⟩, ⟨nx7, [.slice A7 t4.1.f0.length c7, .slice A8 t4.1.f1.length c8, .slice A9 t4.1.f2.length c9], 29⟩] O9_86 ⟨153, []⟩ (Ld.vl u9d2l) (u9d2g a1 t3 g2_ o2_ g3_ o3_ g4_ o4_ g5_ o5_) u (.no :: .l 1 :: .no :: .no :: .r 0 :: .no :: .l 0 :: .no :: .no :: .r 1 :: .no :: .no :: .no :: .l 1 :: .no :: .no :: .r 2 :: .no :: .l 0 :: .no :: .no :: .r 3 :: .no :: .no :: .no :: .no :: .no :: .no :: .no :: .no :: .no :: .no :: .no :: []) 0 (O9_86.take 33) [(2, .int .u16 a2), (7, .bool t1), (8, .slice A1 t2.length c1), (9, pt nx3 0), (11, i6 ((W .i64 (a1)).tmod (t3.1.f0.length : Int))), (12, .slice A6 x2.length c6), (14, pt nx7 0), (113, .bool x3)]
noncomputable def u9d2s (a1 : Int) (t3 : S29 × Int) (A3 : Option Addr) (c3 : Nat) (A4 : Option Addr) (c4 : Nat) (nx3 : Nat) (t4 : S29 × Int) (A8 : Option Addr) (c8 : Nat) (A9 : Option Addr) (c9 : Nat) (nx7 : Nat) (g2_ : Nat) (o2_ : Nat) (g3_ : Nat) (o3_ : Nat) (g4_ : Nat) (o4_ : Nat) (g5_ : Nat) (o5_ : Nat) (u : Nat → Wt) : List Value := (pt nx7 1 :: .slice A8 t4.1.f1.length c8 :: i6 ((W .i64 (a1)).tmod (t3.1.f0.length : Int)) :: pt g2_ (o2_ + ((W .i64 (a1)).tmod (t3.1.f0.length : Int)).toNat * 1) :: i6 (t4.1.f1.getD ((W .i64 (a1)).tmod (t3.1.f0.length : Int)).toNat 0) :: pt nx3 1 :: .slice A3 t3.1.f1.length c3 :: i6 ((W .i64 (a1)).tmod (t3.1.f0.length : Int)) :: pt g3_ (o3_ + ((W .i64 (a1)).tmod (t3.1.f0.length : Int)).toNat * 1) :: i6 (t3.1.f1.getD ((W .i64 (a1)).tmod (t3.1.f0.length : Int)).toNat 0) :: .bool ((t4.1.f1.getD ((W .i64 (a1)).tmod (t3.1.f0.length : Int)).toNat 0) == (t3.1.f1.getD ((W .i64 (a1)).tmod (t3.1.f0.length : Int)).toNat 0)) :: .bool true :: pt nx7 2 :: .slice A9 t4.1.f2.length c9 :: i6 ((W .i64 (a1)).tmod (t3.1.f0.length : Int)) :: pt g4_ (o4_ + ((W .i64 (a1)).tmod (t3.1.f0.length : Int)).toNat * 1) :: i6 (t4.1.f2.getD ((W .i64 (a1)).tmod (t3.1.f0.length : Int)).toNat 0) :: pt nx3 2 :: .slice A4 t3.1.f2.length c4 :: i6 ((W .i64 (a1)).tmod (t3.1.f0.length : Int)) :: pt g5_ (o5_ + ((W .i64 (a1)).tmod (t3.1.f0.length : Int)).toNat * 1) :: i6 (t3.1.f2.getD ((W .i64 (a1)).tmod (t3.1.f0.length : Int)).toNat 0) :: .bool ((t4.1.f2.getD ((W .i64 (a1)).tmod (t3.1.f0.length : Int)).toNat 0) == (t3.1.f2.getD ((W .i64 (a1)).tmod (t3.1.f0.length : Int)).toNat 0)) :: .bool ((t4.1.f2.getD ((W .i64 (a1)).tmod (t3.1.f0.length : Int)).toNat 0) == (t3.1.f2.getD ((W .i64 (a1)).tmod (t3.1.f0.length : Int)).toNat 0)) :: .bool false :: undef :: undef :: undef :: undef :: undef :: undef :: undef :: undef :: [])
noncomputable def u9d2f (a1 : Int) (a2 : Int) (t1 : Bool) (t2 : List S48) (A1 : Option Addr) (c1 : Nat) (t3 : S29 × Int) (A3 : Option Addr) (c3 : Nat) (A4 : Option Addr) (c4 : Nat) (nx3 : Nat) (x2 : List S48) (A6 : Option Addr) (c6 : Nat) (t4 : S29 × Int) (A8 : Option Addr) (c8 : Nat) (A9 : Option Addr) (c9 : Nat) (nx7 : Nat) (x3 : Bool) (g2_ : Nat) (o2_ : Nat) (g3_ : Nat) (o3_ : Nat) (g4_ : Nat) (o4_ : Nat) (g5_ : Nat) (o5_ : Nat) (i : Nat) (u : Nat → Wt) : List (Nat × Value) := foldPut ⟨153, []⟩ [(2, .int .u16 a2), (7, .bool t1), (8, .slice A1 t2.length c1), (9, pt nx3 0), (11, i6 ((W .i64 (a1)).tmod (t3.1.f0.length : Int))), (12, .slice A6 x2.length c6), (14, pt nx7 0), (113, .bool x3)] (O9_86.take i) (((u9d2s a1 t3 A3 c3 A4 c4 nx3 t4 A8 c8 A9 c9 nx7 g2_ o2_ g3_ o3_ g4_ o4_ g5_ o5_) u).take i)
theorem u9d2v (a1 : Int) (a2 : Int) (t1 : Bool) (t2 : List S48) (A1 : Option Addr) (c1 : Nat) (t3 : S29 × Int) (A2 : Option Addr) (c2 : Nat) (A3 : Option Addr) (c3 : Nat) (A4 : Option Addr) (c4 : Nat) (nx3 : Nat) (x2 : List S48) (A6 : Option Addr) (c6 : Nat) (t4 : S29 × Int) (A7 : Option Addr) (c7 : Nat) (A8 : Option Addr) (c8 : Nat) (A9 : Option Addr) (c9 : Nat) (nx7 : Nat) (x3 : Bool) (g2_ : Nat) (o2_ : Nat) (g3_ : Nat) (o3_ : Nat) (g4_ : Nat) (o4_ : Nat) (g5_ : Nat) (o5_ : Nat) (u : Nat → Wt) : (u9d2q a1 a2 t1 t2 A1 c1 t3 A2 c2 A3 c3 A4 c4 nx3 x2 A6 c6 t4 A7 c7 A8 c8 A9 c9 nx7 x3 g2_ o2_ g3_ o3_ g4_ o4_ g5_ o5_ u).map (fun x => (x.1, x.2.1)) = some ((u9d2s a1 t3 A3 c3 A4 c4 nx3 t4 A8 c8 A9 c9 nx7 g2_ o2_ g3_ o3_ g4_ o4_ g5_ o5_) u, (u9d2f a1 a2 t1 t2 A1 c1 t3 A3 c3 A4 c4 nx3 x2 A6 c6 t4 A8 c8 A9 c9 nx7 x3 g2_ o2_ g3_ o3_ g4_ o4_ g5_ o5_ 33) u) := by kernel_rfl
theorem u9d2e (a1 : Int) (a2 : Int) (t1 : Bool) (t2 : List S48) (A1 : Option Addr) (c1 : Nat) (t3 : S29 × Int) (A2 : Option Addr) (c2 : Nat) (A3 : Option Addr) (c3 : Nat) (A4 : Option Addr) (c4 : Nat) (nx3 : Nat) (x2 : List S48) (A6 : Option Addr) (c6 : Nat) (t4 : S29 × Int) (A7 : Option Addr) (c7 : Nat) (A8 : Option Addr) (c8 : Nat) (A9 : Option Addr) (c9 : Nat) (nx7 : Nat) (x3 : Bool) (g2_ : Nat) (o2_ : Nat) (g3_ : Nat) (o3_ : Nat) (g4_ : Nat) (o4_ : Nat) (g5_ : Nat) (o5_ : Nat) (u : Nat → Wt) : (u9d2q a1 a2 t1 t2 A1 c1 t3 A2 c2 A3 c3 A4 c4 nx3 x2 A6 c6 t4 A7 c7 A8 c8 A9 c9 nx7 x3 g2_ o2_ g3_ o3_ g4_ o4_ g5_ o5_ u).map (fun x => x.2.2.map (·.1)) = (u9d2q a1 a2 t1 t2 A1 c1 t3 A2 c2 A3 c3 A4 c4 nx3 x2 A6 c6 t4 A7 c7 A8 c8 A9 c9 nx7 x3 g2_ o2_ g3_ o3_ g4_ o4_ g5_ o5_ u).map (fun x => x.2.2.map (·.2)) := by kernel_rfl
noncomputable def u9d3l  : List Ld :=
 []
noncomputable def u9d3g (a1 : Int) (t3 : S29 × Int) (g2_ : Nat) (o2_ : Nat) (g3_ : Nat) (o3_ : Nat) : List (Nat × ((Nat → Wt) → Value)) := [(3, fun u => pt g2_ (o2_ + ((W .i64 (a1)).tmod (t3.1.f0.length : Int)).toNat * 1)), (8, fun u => pt g3_ (o3_ + ((W .i64 (a1)).tmod (t3.1.f0.length : Int)).toNat * 1)), (11, fun u => .bool false)]
noncomputable def u9d3q (a1 : Int) (a2 : Int) (t1 : Bool) (t2 : List S48) (A1 : Option Addr) (c1 : Nat) (t3 : S29 × Int) (A2 : Option Addr) (c2 : Nat) (A3 : Option Addr) (c3 : Nat) (A4 : Option Addr) (c4 : Nat) (nx3 : Nat) (x2 : List S48) (A6 : Option Addr) (c6 : Nat) (t4 : S29 × Int) (A7 : Option Addr) (c7 : Nat) (A8 : Option Addr) (c8 : Nat) (A9 : Option Addr) (c9 : Nat) (nx7 : Nat) (x3 : Bool) (g2_ : Nat) (o2_ : Nat) (g3_ : Nat) (o3_ : Nat) (u : Nat → Wt) : Option (List Value × List (Nat × Value) × List (Nat × Nat)) := qSim Try.prog [(⟨g2_, o2_ + ((W .i64 (a1)).tmod (t3.1.f0.length : Int)).toNat * 1, none⟩, i6 (t4.1.f1.getD ((W .i64 (a1)).tmod (t3.1.f0.length : Int)).toNat 0)), (⟨g3_, o3_ + ((W .i64 (a1)).tmod (t3.1.f0.length : Int)).toNat * 1, none⟩, i6 (t3.1.f1.getD ((W .i64 (a1)).tmod (t3.1.f0.length : Int)).toNat 0))] [⟨nx3, [.slice A2 t3.1.f0.length c2, .slice A3 t3.1.f1.length c3, .slice A4 t3.1.f2.length c4], 29⟩, ⟨nx7, [.slice A7 t4.1.f0.length c7, .slice A8 t4.1.f1.length c8, .slice A9 t4.1.f2.length c9], 29⟩] O9_86 ⟨153, []⟩ (Ld.vl u9d3l) (u9d3g a1 t3 g2_ o2_ g3_ o3_) u (.no :: .l 1 :: .no :: .no :: .r 0 :: .no :: .l 0 :: .no :: .no :: .r 1 :: .no :: .no :: .no :: .no :: .no :: .no :: .no :: .no :: .no :: .no :: .no :: .no :: .no :: .no :: .no :: .no :: .no :: .no :: .no :: .no :: .no :: .no :: .no :: []) 0 (O9_86.take 33) [(2, .int .u16 a2), (7, .bool t1), (8, .slice A1 t2.length c1), (9, pt nx3 0), (11, i6 ((W .i64 (a1)).tmod (t3.1.f0.length : Int))), (12, .slice A6 x2.length c6), (14, pt nx7 0), (113, .bool x3)]
noncomputable def u9d3s (a1 : Int) (t3 : S29 × Int) (A3 : Option Addr) (c3 : Nat) (nx3 : Nat) (t4 : S29 × Int) (A8 : Option Addr) (c8 : Nat) (nx7 : Nat) (g2_ : Nat) (o2_ : Nat) (g3_ : Nat) (o3_ : Nat) (u : Nat → Wt) : List Value := (pt nx7 1 :: .slice A8 t4.1.f1.length c8 :: i6 ((W .i64 (a1)).tmod (t3.1.f0.length : Int)) :: pt g2_ (o2_ + ((W .i64 (a1)).tmod (t3.1.f0.length : Int)).toNat * 1) :: i6 (t4.1.f1.getD ((W .i64 (a1)).tmod (t3.1.f0.length : Int)).toNat 0) :: pt nx3 1 :: .slice A3 t3.1.f1.length c3 :: i6 ((W .i64 (a1)).tmod (t3.1.f0.length : Int)) :: pt g3_ (o3_ + ((W .i64 (a1)).tmod (t3.1.f0.length : Int)).toNat * 1) :: i6 (t3.1.f1.getD ((W .i64 (a1)).tmod (t3.1.f0.length : Int)).toNat 0) :: .bool ((t4.1.f1.getD ((W .i64 (a1)).tmod (t3.1.f0.length : Int)).toNat 0) == (t3.1.f1.getD ((W .i64 (a1)).tmod (t3.1.f0.length : Int)).toNat 0)) :: .bool false :: undef :: undef :: undef :: undef :: undef :: undef :: undef :: undef :: undef :: undef :: undef :: .bool false :: .bool false :: undef :: undef :: undef :: undef :: undef :: undef :: undef :: undef :: [])
noncomputable def u9d3f (a1 : Int) (a2 : Int) (t1 : Bool) (t2 : List S48) (A1 : Option Addr) (c1 : Nat) (t3 : S29 × Int) (A3 : Option Addr) (c3 : Nat) (nx3 : Nat) (x2 : List S48) (A6 : Option Addr) (c6 : Nat) (t4 : S29 × Int) (A8 : Option Addr) (c8 : Nat) (nx7 : Nat) (x3 : Bool) (g2_ : Nat) (o2_ : Nat) (g3_ : Nat) (o3_ : Nat) (i : Nat) (u : Nat → Wt) : List (Nat × Value) := foldPut ⟨153, []⟩ [(2, .int .u16 a2), (7, .bool t1), (8, .slice A1 t2.length c1), (9, pt nx3 0), (11, i6 ((W .i64 (a1)).tmod (t3.1.f0.length : Int))), (12, .slice A6 x2.length c6), (14, pt nx7 0), (113, .bool x3)] (O9_86.take i) (((u9d3s a1 t3 A3 c3 nx3 t4 A8 c8 nx7 g2_ o2_ g3_ o3_) u).take i)
theorem u9d3v (a1 : Int) (a2 : Int) (t1 : Bool) (t2 : List S48) (A1 : Option Addr) (c1 : Nat) (t3 : S29 × Int) (A2 : Option Addr) (c2 : Nat) (A3 : Option Addr) (c3 : Nat) (A4 : Option Addr) (c4 : Nat) (nx3 : Nat) (x2 : List S48) (A6 : Option Addr) (c6 : Nat) (t4 : S29 × Int) (A7 : Option Addr) (c7 : Nat) (A8 : Option Addr) (c8 : Nat) (A9 : Option Addr) (c9 : Nat) (nx7 : Nat) (x3 : Bool) (g2_ : Nat) (o2_ : Nat) (g3_ : Nat) (o3_ : Nat) (u : Nat → Wt) : (u9d3q a1 a2 t1 t2 A1 c1 t3 A2 c2 A3 c3 A4 c4 nx3 x2 A6 c6 t4 A7 c7 A8 c8 A9 c9 nx7 x3 g2_ o2_ g3_ o3_ u).map (fun x => (x.1, x.2.1)) = some ((u9d3s a1 t3 A3 c3 nx3 t4 A8 c8 nx7 g2_ o2_ g3_ o3_) u, (u9d3f a1 a2 t1 t2 A1 c1 t3 A3 c3 nx3 x2 A6 c6 t4 A8 c8 nx7 x3 g2_ o2_ g3_ o3_ 33) u) := by kernel_rfl
theorem u9d3e (a1 : Int) (a2 : Int) (t1 : Bool) (t2 : List S48) (A1 : Option Addr) (c1 : Nat) (t3 : S29 × Int) (A2 : Option Addr) (c2 : Nat) (A3 : Option Addr) (c3 : Nat) (A4 : Option Addr) (c4 : Nat) (nx3 : Nat) (x2 : List S48) (A6 : Option Addr) (c6 : Nat) (t4 : S29 × Int) (A7 : Option Addr) (c7 : Nat) (A8 : Option Addr) (c8 : Nat) (A9 : Option Addr) (c9 : Nat) (nx7 : Nat) (x3 : Bool) (g2_ : Nat) (o2_ : Nat) (g3_ : Nat) (o3_ : Nat) (u : Nat → Wt) : (u9d3q a1 a2 t1 t2 A1 c1 t3 A2 c2 A3 c3 A4 c4 nx3 x2 A6 c6 t4 A7 c7 A8 c8 A9 c9 nx7 x3 g2_ o2_ g3_ o3_ u).map (fun x => x.2.2.map (·.1)) = (u9d3q a1 a2 t1 t2 A1 c1 t3 A2 c2 A3 c3 A4 c4 nx3 x2 A6 c6 t4 A7 c7 A8 c8 A9 c9 nx7 x3 g2_ o2_ g3_ o3_ u).map (fun x => x.2.2.map (·.2)) := by kernel_rfl
noncomputable def a9_64n : List Nat := [0, 0, 3, 7, 15, 0, 32, 0, 224, 480, 1023, 2047, 4095, 4095, 16383, 32767, 65535, 4095, 135167, 4095, 921599, 1970175, 4194303, 8388607]
theorem a9_64 : ancs O9_64 [] = a9_64n := by kernel_rfl
theorem a9_64o : drawOk O9_64 a9_64n 22 = true := by kernel_rfl
noncomputable def u9d4l  : List Ld :=
 []
noncomputable def u9d4g (a1 : Int) (t3 : S29 × Int) (x6 : Int) (g8_ : Nat) (g9_ : Nat) (o9_ : Nat) (g10_ : Nat) (g11_ : Nat) (o11_ : Nat) : List (Nat × ((Nat → Wt) → Value)) := [(2, fun u => pt g8_ (0 + (x6).toNat * 3)), (8, fun u => pt g9_ (o9_ + ((W .i64 (a1)).tmod (t3.1.f0.length : Int)).toNat * 1)), (11, fun u => .bool true), (14, fun u => pt g10_ (0 + (x6).toNat * 3)), (20, fun u => pt g11_ (o11_ + ((W .i64 (a1)).tmod (t3.1.f0.length : Int)).toNat * 1))]
noncomputable def u9d4q (a1 : Int) (a2 : Int) (t1 : Bool) (t2 : List S48) (A1 : Option Addr) (c1 : Nat) (t3 : S29 × Int) (A2 : Option Addr) (c2 : Nat) (A3 : Option Addr) (c3 : Nat) (A4 : Option Addr) (c4 : Nat) (nx3 : Nat) (x5 : List S48) (A10 : Option Addr) (c10 : Nat) (x6 : Int) (g8_ : Nat) (g9_ : Nat) (o9_ : Nat) (g10_ : Nat) (g11_ : Nat) (o11_ : Nat) (u : Nat → Wt) : Option (List Value × List (Nat × Value) × List (Nat × Nat)) := qSim Try.prog [(⟨g8_, 0 + (x6).toNat * 3, none⟩, i6 ((x5.getD (x6).toNat z48).f0)), (⟨g9_, o9_ + ((W .i64 (a1)).tmod (t3.1.f0.length : Int)).toNat * 1, none⟩, i6 (t3.1.f0.getD ((W .i64 (a1)).tmod (t3.1.f0.length : Int)).toNat 0)), (⟨g10_, 0 + (x6).toNat * 3 + 1, none⟩, i6 ((x5.getD (x6).toNat z48).f1)), (⟨g11_, o11_ + ((W .i64 (a1)).tmod (t3.1.f0.length : Int)).toNat * 1, none⟩, i6 (t3.1.f1.getD ((W .i64 (a1)).tmod (t3.1.f0.length : Int)).toNat 0))] [⟨nx3, [.slice A2 t3.1.f0.length c2, .slice A3 t3.1.f1.length c3, .slice A4 t3.1.f2.length c4], 29⟩] O9_64 ⟨153, []⟩ (Ld.vl u9d4l) (u9d4g a1 t3 x6 g8_ g9_ o9_ g10_ g11_ o11_) u [.no, .no, .no, .no, .r 0, .no, .l 0, .no, .no, .r 1, .no, .no, .no, .no, .no, .no, .r 2, .no, .l 0, .no, .no, .r 3] 0 (O9_64.take 22) [(55, .bool (decide (x6 < (x5.length : Int)))), (2, .int .u16 a2), (7, .bool t1), (8, .slice A1 t2.length c1), (9, pt nx3 0), (11, i6 ((W .i64 (a1)).tmod (t3.1.f0.length : Int))), (12, .slice A10 x5.length c10), (13, i6 x6)]
noncomputable def u9d4s (a1 : Int) (t3 : S29 × Int) (A2 : Option Addr) (c2 : Nat) (A3 : Option Addr) (c3 : Nat) (nx3 : Nat) (x5 : List S48) (A10 : Option Addr) (c10 : Nat) (x6 : Int) (g8_ : Nat) (g9_ : Nat) (o9_ : Nat) (g10_ : Nat) (g11_ : Nat) (o11_ : Nat) (u : Nat → Wt) : List Value := [.slice A10 x5.length c10, i6 x6, pt g8_ (0 + (x6).toNat * 3), pt g8_ (0 + (x6).toNat * 3), i6 ((x5.getD (x6).toNat z48).f0), pt nx3 0, .slice A2 t3.1.f0.length c2, i6 ((W .i64 (a1)).tmod (t3.1.f0.length : Int)), pt g9_ (o9_ + ((W .i64 (a1)).tmod (t3.1.f0.length : Int)).toNat * 1), i6 (t3.1.f0.getD ((W .i64 (a1)).tmod (t3.1.f0.length : Int)).toNat 0), .bool (((x5.getD (x6).toNat z48).f0) == (t3.1.f0.getD ((W .i64 (a1)).tmod (t3.1.f0.length : Int)).toNat 0)), .bool true, .slice A10 x5.length c10, i6 x6, pt g10_ (0 + (x6).toNat * 3), pt g10_ (0 + (x6).toNat * 3 + 1), i6 ((x5.getD (x6).toNat z48).f1), pt nx3 1, .slice A3 t3.1.f1.length c3, i6 ((W .i64 (a1)).tmod (t3.1.f0.length : Int)), pt g11_ (o11_ + ((W .i64 (a1)).tmod (t3.1.f0.length : Int)).toNat * 1), i6 (t3.1.f1.getD ((W .i64 (a1)).tmod (t3.1.f0.length : Int)).toNat 0)]
noncomputable def u9d4f (a1 : Int) (a2 : Int) (t1 : Bool) (t2 : List S48) (A1 : Option Addr) (c1 : Nat) (t3 : S29 × Int) (A2 : Option Addr) (c2 : Nat) (A3 : Option Addr) (c3 : Nat) (nx3 : Nat) (x5 : List S48) (A10 : Option Addr) (c10 : Nat) (x6 : Int) (g8_ : Nat) (g9_ : Nat) (o9_ : Nat) (g10_ : Nat) (g11_ : Nat) (o11_ : Nat) (i : Nat) (u : Nat → Wt) : List (Nat × Value) := foldPut ⟨153, []⟩ [(55, .bool (decide (x6 < (x5.length : Int)))), (2, .int .u16 a2), (7, .bool t1), (8, .slice A1 t2.length c1), (9, pt nx3 0), (11, i6 ((W .i64 (a1)).tmod (t3.1.f0.length : Int))), (12, .slice A10 x5.length c10), (13, i6 x6)] (O9_64.take i) (((u9d4s a1 t3 A2 c2 A3 c3 nx3 x5 A10 c10 x6 g8_ g9_ o9_ g10_ g11_ o11_) u).take i)
theorem u9d4v (a1 : Int) (a2 : Int) (t1 : Bool) (t2 : List S48) (A1 : Option Addr) (c1 : Nat) (t3 : S29 × Int) (A2 : Option Addr) (c2 : Nat) (A3 : Option Addr) (c3 : Nat) (A4 : Option Addr) (c4 : Nat) (nx3 : Nat) (x5 : List S48) (A10 : Option Addr) (c10 : Nat) (x6 : Int) (g8_ : Nat) (g9_ : Nat) (o9_ : Nat) (g10_ : Nat) (g11_ : Nat) (o11_ : Nat) (u : Nat → Wt) : (u9d4q a1 a2 t1 t2 A1 c1 t3 A2 c2 A3 c3 A4 c4 nx3 x5 A10 c10 x6 g8_ g9_ o9_ g10_ g11_ o11_ u).map (fun x => (x.1, x.2.1)) = some ((u9d4s a1 t3 A2 c2 A3 c3 nx3 x5 A10 c10 x6 g8_ g9_ o9_ g10_ g11_ o11_) u, (u9d4f a1 a2 t1 t2 A1 c1 t3 A2 c2 A3 c3 nx3 x5 A10 c10 x6 g8_ g9_ o9_ g10_ g11_ o11_ 22) u) := by kernel_rfl
theorem u9d4e (a1 : Int) (a2 : Int) (t1 : Bool) (t2 : List S48) (A1 : Option Addr) (c1 : Nat) (t3 : S29 × Int) (A2 : Option Addr) (c2 : Nat) (A3 : Option Addr) (c3 : Nat) (A4 : Option Addr) (c4 : Nat) (nx3 : Nat) (x5 : List S48) (A10 : Option Addr) (c10 : Nat) (x6 : Int) (g8_ : Nat) (g9_ : Nat) (o9_ : Nat) (g10_ : Nat) (g11_ : Nat) (o11_ : Nat) (u : Nat → Wt) : (u9d4q a1 a2 t1 t2 A1 c1 t3 A2 c2 A3 c3 A4 c4 nx3 x5 A10 c10 x6 g8_ g9_ o9_ g10_ g11_ o11_ u).map (fun x => x.2.2.map (·.1)) = (u9d4q a1 a2 t1 t2 A1 c1 t3 A2 c2 A3 c3 A4 c4 nx3 x5 A10 c10 x6 g8_ g9_ o9_ g10_ g11_ o11_ u).map (fun x => x.2.2.map (·.2)) := by kernel_rfl
noncomputable def u9d5l  : List Ld :=
 []
noncomputable def u9d5g (a1 : Int) (t3 : S29 × Int) (x6 : Int) (g8_ : Nat) (g9_ : Nat) (o9_ : Nat) : List (Nat × ((Nat → Wt) → Value)) := [(2, fun u => pt g8_ (0 + (x6).toNat * 3)), (8, fun u => pt g9_ (o9_ + ((W .i64 (a1)).tmod (t3.1.f0.length : Int)).toNat * 1)), (11, fun u => .bool false)]
noncomputable def u9d5q (a1 : Int) (a2 : Int) (t1 : Bool) (t2 : List S48) (A1 : Option Addr) (c1 : Nat) (t3 : S29 × Int) (A2 : Option Addr) (c2 : Nat) (A3 : Option Addr) (c3 : Nat) (A4 : Option Addr) (c4 : Nat) (nx3 : Nat) (x5 : List S48) (A10 : Option Addr) (c10 : Nat) (x6 : Int) (g8_ : Nat) (g9_ : Nat) (o9_ : Nat) (u : Nat → Wt) : Option (List Value × List (Nat × Value) × List (Nat × Nat)) := qSim Try.prog [(⟨g8_, 0 + (x6).toNat * 3, none⟩, i6 ((x5.getD (x6).toNat z48).f0)), (⟨g9_, o9_ + ((W .i64 (a1)).tmod (t3.1.f0.length : Int)).toNat * 1, none⟩, i6 (t3.1.f0.getD ((W .i64 (a1)).tmod (t3.1.f0.length : Int)).toNat 0))] [⟨nx3, [.slice A2 t3.1.f0.length c2, .slice A3 t3.1.f1.length c3, .slice A4 t3.1.f2.length c4], 29⟩] O9_64 ⟨153, []⟩ (Ld.vl u9d5l) (u9d5g a1 t3 x6 g8_ g9_ o9_) u [.no, .no, .no, .no, .r 0, .no, .l 0, .no, .no, .r 1, .no, .no, .no, .no, .no, .no, .no, .no, .no, .no, .no, .no] 0 (O9_64.take 22) [(55, .bool (decide (x6 < (x5.length : Int)))), (2, .int .u16 a2), (7, .bool t1), (8, .slice A1 t2.length c1), (9, pt nx3 0), (11, i6 ((W .i64 (a1)).tmod (t3.1.f0.length : Int))), (12, .slice A10 x5.length c10), (13, i6 x6)]
noncomputable def u9d5s (a1 : Int) (t3 : S29 × Int) (A2 : Option Addr) (c2 : Nat) (nx3 : Nat) (x5 : List S48) (A10 : Option Addr) (c10 : Nat) (x6 : Int) (g8_ : Nat) (g9_ : Nat) (o9_ : Nat) (u : Nat → Wt) : List Value := [.slice A10 x5.length c10, i6 x6, pt g8_ (0 + (x6).toNat * 3), pt g8_ (0 + (x6).toNat * 3), i6 ((x5.getD (x6).toNat z48).f0), pt nx3 0, .slice A2 t3.1.f0.length c2, i6 ((W .i64 (a1)).tmod (t3.1.f0.length : Int)), pt g9_ (o9_ + ((W .i64 (a1)).tmod (t3.1.f0.length : Int)).toNat * 1), i6 (t3.1.f0.getD ((W .i64 (a1)).tmod (t3.1.f0.length : Int)).toNat 0), .bool (((x5.getD (x6).toNat z48).f0) == (t3.1.f0.getD ((W .i64 (a1)).tmod (t3.1.f0.length : Int)).toNat 0)), .bool false, undef, undef, undef, undef, undef, undef, undef, undef, undef, undef]
noncomputable def u9d5f (a1 : Int) (a2 : Int) (t1 : Bool) (t2 : List S48) (A1 : Option Addr) (c1 : Nat) (t3 : S29 × Int) (A2 : Option Addr) (c2 : Nat) (nx3 : Nat) (x5 : List S48) (A10 : Option Addr) (c10 : Nat) (x6 : Int) (g8_ : Nat) (g9_ : Nat) (o9_ : Nat) (i : Nat) (u : Nat → Wt) : List (Nat × Value) := foldPut ⟨153, []⟩ [(55, .bool (decide (x6 < (x5.length : Int)))), (2, .int .u16 a2), (7, .bool t1), (8, .slice A1 t2.length c1), (9, pt nx3 0), (11, i6 ((W .i64 (a1)).tmod (t3.1.f0.length : Int))), (12, .slice A10 x5.length c10), (13, i6 x6)] (O9_64.take i) (((u9d5s a1 t3 A2 c2 nx3 x5 A10 c10 x6 g8_ g9_ o9_) u).take i)
theorem u9d5v (a1 : Int) (a2 : Int) (t1 : Bool) (t2 : List S48) (A1 : Option Addr) (c1 : Nat) (t3 : S29 × Int) (A2 : Option Addr) (c2 : Nat) (A3 : Option Addr) (c3 : Nat) (A4 : Option Addr) (c4 : Nat) (nx3 : Nat) (x5 : List S48) (A10 : Option Addr) (c10 : Nat) (x6 : Int) (g8_ : Nat) (g9_ : Nat) (o9_ : Nat) (u : Nat → Wt) : (u9d5q a1 a2 t1 t2 A1 c1 t3 A2 c2 A3 c3 A4 c4 nx3 x5 A10 c10 x6 g8_ g9_ o9_ u).map (fun x => (x.1, x.2.1)) = some ((u9d5s a1 t3 A2 c2 nx3 x5 A10 c10 x6 g8_ g9_ o9_) u, (u9d5f a1 a2 t1 t2 A1 c1 t3 A2 c2 nx3 x5 A10 c10 x6 g8_ g9_ o9_ 22) u) := by kernel_rfl
theorem u9d5e (a1 : Int) (a2 : Int) (t1 : Bool) (t2 : List S48) (A1 : Option Addr) (c1 : Nat) (t3 : S29 × Int) (A2 : Option Addr) (c2 : Nat) (A3 : Option Addr) (c3 : Nat) (A4 : Option Addr) (c4 : Nat) (nx3 : Nat) (x5 : List S48) (A10 : Option Addr) (c10 : Nat) (x6 : Int) (g8_ : Nat) (g9_ : Nat) (o9_ : Nat) (u : Nat → Wt) : (u9d5q a1 a2 t1 t2 A1 c1 t3 A2 c2 A3 c3 A4 c4 nx3 x5 A10 c10 x6 g8_ g9_ o9_ u).map (fun x => x.2.2.map (·.1)) = (u9d5q a1 a2 t1 t2 A1 c1 t3 A2 c2 A3 c3 A4 c4 nx3 x5 A10 c10 x6 g8_ g9_ o9_ u).map (fun x => x.2.2.map (·.2)) := by kernel_rfl
theorem armillarylaw23_AuctionRaised.calls (k : Nat) (I0 : Imm) (a0 : List S48) (Ap0 : Option Addr) (cp0 : Nat) (a1 : Int) (a2 : Int) (w : World) (hI : I0.at_ w) (hlp0 : a0.length ≤ cp0) (hrp0 : Rd t48 I0 Ap0 a0) (r : Bool) (h : armillarylaw23_AuctionRaised.f k a0 a1 a2 = some r) :
  Calls Try.prog 9 [.slice Ap0 a0.length cp0, .int .u8 a1, .int .u16 a2].toArray w fun e w' => ∃ v, e = .returned v ∧ armillarylaw23_AuctionRaised.Post I0 w r v w' := by
 have H : ((armillarylaw23_sanity.f k ).bind fun t1 => ((armillaryref23_Made.f k a0).bind fun t2 => ((auction_Clear.f k t2).bind fun t3 => ((if t3.2 ≠ 0 then (some true) else ((armillarylaw23_shaped.f t3.1).bind fun t9 => (some (!t9)))).bind (armillarylaw23_AuctionRaised.k6 k a1 a2 t1 t2 t3))))) = some r := h
 clear h
 refine calls_body Try.func9 (by kernel_rfl) 153 (by kernel_rfl) (by kernel_rfl) ⟨w, fun _ => False, I0⟩ I0 [] [(0, .slice Ap0 a0.length cp0), (1, .int .u8 a1), (2, .int .u16 a2)] (by kernel_rfl) (Sat.start w _ I0 hI) ?_
 generalize w.heap.size = nx0
 show OK _ K9_0 _ _ _ _ _ _ _ _
 refine OK.sr ?_
 refine RL.st 1 [(0, .slice Ap0 a0.length cp0), (1, .int .u8 a1), (2, .int .u16 a2)] ?_
 refine OK.sr ?_
 obtain ⟨t1, hA1, H⟩ := bnd H
 refine RL.callP 11 [] (some 16) (fun w => armillarylaw23_sanity.Post I0 w t1) (by kernel_rfl) (by kernel_rfl) (fun w hs => armillarylaw23_sanity.calls k I0  w hs.im  t1 hA1) ?_
 rintro w v w' hs ⟨I1, rfl, hg⟩
 have hi1 := hg.le
 refine RL.resume (X' := []) rfl (hs.call hg) ?_
 clear hs hg
 generalize w'.heap.size = nx1
 clear w w'
 refine RL.st 1 [(7, .bool t1), (0, .slice Ap0 a0.length cp0), (1, .int .u8 a1), (2, .int .u16 a2)] ?_
 refine OK.sr ?_
 refine RL.s 1 [(17, .slice Ap0 a0.length cp0), (7, .bool t1), (1, .int .u8 a1), (2, .int .u16 a2)] ?_
 obtain ⟨t2, hA2, H⟩ := bnd H
 refine RL.callP 14 [.slice Ap0 a0.length cp0] (some 18) (fun w => armillaryref23_Made.Post I1 w t2) (by kernel_rfl) (by kernel_rfl) (fun w hs => armillaryref23_Made.calls k I1 a0 Ap0 cp0 w hs.im hlp0 (Rd.ext hi1 hrp0) t2 hA2) ?_
 rintro w v w' hs ⟨I2, A1, c1, cs1, rfl, hg, hp1⟩
 have hi2 := hg.le
 refine RL.resume (X' := [orow 48 3 A1 t2.length c1 cs1]) rfl (hs.call hg) ?_
 clear hs hg
 generalize w'.heap.size = nx2
 clear w w'
 refine RL.st 1 [(8, .slice A1 t2.length c1), (7, .bool t1), (1, .int .u8 a1), (2, .int .u16 a2)] ?_
 refine OK.sr ?_
 refine RL.s 1 [(20, .slice A1 t2.length c1), (8, .slice A1 t2.length c1), (7, .bool t1), (1, .int .u8 a1), (2, .int .u16 a2)] ?_
 refine RL.freeze (e := 48) (sz := 3) (S := A1) (n := t2.length) (cap := c1) 0 (by kernel_rfl) hp1 rfl (fun I3 hi3 hl1 hr1 => ?_)
 skip
 obtain ⟨t3, hA3, H⟩ := bnd H
 refine RL.callP 15 [.slice A1 t2.length c1] (some 21) (fun w => auction_Clear.Post I3 w t3) (by kernel_rfl) (by kernel_rfl) (fun w hs => auction_Clear.calls k I3 t2 A1 c1 w hs.im hl1 hr1 t3 hA3) ?_
 rintro w v w' hs ⟨I4, A2, c2, cs2, A3, c3, cs3, A4, c4, cs4, rfl, hg, hp2, hp3, hp4⟩
 have hi4 := hg.le
 refine RL.resume (X' := [orow 3 1 A2 t3.1.f0.length c2 cs2, orow 3 1 A3 t3.1.f1.length c3 cs3, orow 2 1 A4 t3.1.f2.length c4 cs4]) rfl (hs.call hg) ?_
 clear hs hg
 generalize w'.heap.size = nx3
 clear w w'
 refine RL.freeze (e := 3) (sz := 1) (S := A2) (n := t3.1.f0.length) (cap := c2) 0 (by kernel_rfl) hp2 rfl (fun I5 hi5 hl2 hr2 => ?_)
 skip
 refine RL.freeze (e := 3) (sz := 1) (S := A3) (n := t3.1.f1.length) (cap := c3) 0 (by kernel_rfl) (Reps.ext hi5 hp3) rfl (fun I6 hi6 hl3 hr3 => ?_)
 skip
 refine RL.freeze (e := 2) (sz := 1) (S := A4) (n := t3.1.f2.length) (cap := c4) 0 (by kernel_rfl) (Reps.ext (Imm.le_trans hi5 hi6) hp4) rfl (fun I7 hi7 hl4 hr4 => ?_)
 skip
 refine RL.simP (K' := [(10, i6 t3.2), (9, pt nx3 0), (8, .slice A1 t2.length c1), (7, .bool t1), (1, .int .u8 a1), (2, .int .u16 a2)]) (nx' := nx3 + 1) (L' := [⟨nx3, [.slice A2 t3.1.f0.length c2, .slice A3 t3.1.f1.length c3, .slice A4 t3.1.f2.length c4], 29⟩]) [] (RFacts.nil _ _ _) 6 [.no, .no, .no, .no, .l 0, .no] (by kernel_rfl) (by kernel_rfl) ?_
 refine RL.nt ?_
 refine OK.sq ?_
 refine OK.sq ?_
 refine OK.join (fun K' I' _ L' X' => ∃ (x1 : Bool), K' = [(1, .int .u8 a1), (2, .int .u16 a2), (7, .bool t1), (8, .slice A1 t2.length c1), (9, pt nx3 0), (30, .bool x1)] ∧ L' = [⟨nx3, [.slice A2 t3.1.f0.length c2, .slice A3 t3.1.f1.length c3, .slice A4 t3.1.f2.length c4], 29⟩] ∧ X' = [] ∧ Imm.le I7 I' ∧ armillarylaw23_AuctionRaised.k6 k a1 a2 t1 t2 t3 x1 = some r) ?_ ?_
 ·rintro _ I8 nx4 _ _ ⟨x1, rfl, rfl, rfl, hi8, H⟩
  rw [armillarylaw23_AuctionRaised.k6] at H
  refine QN.then_ ?_
  refine OK.cd x1 (fun hb => ?_) (fun hb => ?_)
  ·skip
   have hc := hb
   rw [if_pos hc] at H
   clear hb
   refine OK.sr ?_
   refine RL.st 1 [(6, .bool false)] ?_
   refine OK.re ?_
   refine QN.thenR ?_
   obtain rfl := Option.some.inj H
   refine QN.body rfl [] (RFacts.nil _ _ _) (.no) (.bool false) (by kernel_rfl) (by kernel_rfl) (by kernel_rfl) ?_ _ (.inr rfl)
   exact fun w' hs' => ⟨_, rfl, I8, rfl, hs'.got _ .slnil⟩
  ·skip
   have hc := (Bool.eq_false_iff.1 hb)
   rw [if_neg hc] at H
   clear hb
   refine OK.skt ?_
   refine OK.sq ?_
   refine OK.sr ?_
   refine RL.simK (K' := [(34, .bool ((t3.1.f0.length : Int) == 0)), (1, .int .u8 a1), (2, .int .u16 a2), (7, .bool t1), (8, .slice A1 t2.length c1), (9, pt nx3 0)]) [] (RFacts.nil _ _ _) 4 [.no, .l 0, .no, .no] (by kernel_rfl) (by kernel_rfl) ?_
   refine RL.nt ?_
   refine OK.cd ((t3.1.f0.length : Int) == 0) (fun hb => ?_) (fun hb => ?_)
   ·skip
    have hc := (beq_iff_eq.1 hb)
    rw [if_pos hc] at H
    clear hb
    refine OK.sr ?_
    refine RL.st 2 [(6, .bool t1)] ?_
    refine OK.re ?_
    refine QN.thenR ?_
    obtain rfl := Option.some.inj H
    refine QN.body rfl [] (RFacts.nil _ _ _) (.no) (.bool t1) (by kernel_rfl) (by kernel_rfl) (by kernel_rfl) ?_ _ (.inr rfl)
    exact fun w' hs' => ⟨_, rfl, I8, rfl, hs'.got _ .slnil⟩
   ·skip
    have hc := (beq_eq_false_iff_ne.1 hb)
    rw [if_neg hc] at H
    clear hb
    refine OK.skt ?_
    refine OK.sr ?_
    refine RL.simK (K' := [(40, i6 (t3.1.f0.length : Int)), (37, i6 (W .i64 (a1))), (2, .int .u16 a2), (7, .bool t1), (8, .slice A1 t2.length c1), (9, pt nx3 0)]) [] (RFacts.nil _ _ _) 5 [.no, .no, .no, .l 0, .no] (by kernel_rfl) (by kernel_rfl) ?_
    by_cases hc : (t3.1.f0.length : Int) = 0
    ·rw [if_pos hc] at H; cases H
    rw [if_neg hc] at H
    refine RL.rem .i64 (W .i64 (a1)) (t3.1.f0.length : Int) (some 41) (by kernel_rfl) (by kernel_rfl) hc (K' := [(41, i6 ((W .i64 (a1)).tmod (t3.1.f0.length : Int))), (40, i6 (t3.1.f0.length : Int)), (37, i6 (W .i64 (a1))), (2, .int .u16 a2), (7, .bool t1), (8, .slice A1 t2.length c1), (9, pt nx3 0)]) (by kernel_rfl) ?_
    refine RL.st 1 [(11, i6 ((W .i64 (a1)).tmod (t3.1.f0.length : Int))), (2, .int .u16 a2), (7, .bool t1), (8, .slice A1 t2.length c1), (9, pt nx3 0)] ?_
    refine OK.sq ?_
    refine OK.sr ?_
    refine RL.simK (K' := [(44, i6 ((W .i64 (a1)).tmod (t3.1.f0.length : Int))), (43, .slice A3 t3.1.f1.length c3), (11, i6 ((W .i64 (a1)).tmod (t3.1.f0.length : Int))), (2, .int .u16 a2), (7, .bool t1), (8, .slice A1 t2.length c1), (9, pt nx3 0)]) [] (RFacts.nil _ _ _) 3 [.no, .l 0, .no] (by kernel_rfl) (by kernel_rfl) ?_
    obtain ⟨hib0, H⟩ := ifs H
    obtain ⟨hib1, H⟩ := ifs H
    obtain ⟨g1_, o1_, hA1_, hc1_⟩ := Ty.int_at (Rd.ext (Imm.le_trans hi7 hi8) hr3) ((W .i64 (a1)).tmod (t3.1.f0.length : Int)) hib0 hib1
    refine RL.idx 1 .i64 ((W .i64 (a1)).tmod (t3.1.f0.length : Int)) hA1_ t3.1.f1.length c3 (some 45) (by kernel_rfl) (by kernel_rfl) (T := 26) (e := 3) (by kernel_rfl) (by kernel_rfl) hib0 hib1 (K' := [(45, pt g1_ (o1_ + ((W .i64 (a1)).tmod (t3.1.f0.length : Int)).toNat * 1)), (44, i6 ((W .i64 (a1)).tmod (t3.1.f0.length : Int))), (43, .slice A3 t3.1.f1.length c3), (11, i6 ((W .i64 (a1)).tmod (t3.1.f0.length : Int))), (2, .int .u16 a2), (7, .bool t1), (8, .slice A1 t2.length c1), (9, pt nx3 0)]) (by kernel_rfl) ?_
    refine RL.simK (K' := [(47, .bool (decide ((t3.1.f1.getD ((W .i64 (a1)).tmod (t3.1.f0.length : Int)).toNat 0) < 0))), (11, i6 ((W .i64 (a1)).tmod (t3.1.f0.length : Int))), (2, .int .u16 a2), (7, .bool t1), (8, .slice A1 t2.length c1), (9, pt nx3 0)]) [(⟨g1_, o1_ + ((W .i64 (a1)).tmod (t3.1.f0.length : Int)).toNat * 1, none⟩, i6 (t3.1.f1.getD ((W .i64 (a1)).tmod (t3.1.f0.length : Int)).toNat 0))] (RFacts.imm (hc1_ 0 _ rfl) (RFacts.nil _ _ _)) 2 [.r 0, .no] (by kernel_rfl) (by kernel_rfl) ?_
    refine RL.nt ?_
    refine OK.cd (decide ((t3.1.f1.getD ((W .i64 (a1)).tmod (t3.1.f0.length : Int)).toNat 0) < 0)) (fun hb => ?_) (fun hb => ?_)
    ·skip
     have hc := (of_decide_eq_true hb)
     rw [if_pos hc] at H
     clear hb
     refine OK.sr ?_
     refine RL.st 2 [(6, .bool t1)] ?_
     refine OK.re ?_
     refine QN.thenR ?_
     obtain rfl := Option.some.inj H
     refine QN.body rfl [] (RFacts.nil _ _ _) (.no) (.bool t1) (by kernel_rfl) (by kernel_rfl) (by kernel_rfl) ?_ _ (.inr rfl)
     exact fun w' hs' => ⟨_, rfl, I8, rfl, hs'.got _ .slnil⟩
    ·skip
     have hc := (of_decide_eq_false hb)
     rw [if_neg hc] at H
     clear hb
     refine OK.skt ?_
     refine OK.sr ?_
     refine RL.sp 2 [(50, .slice A1 t2.length c1), (49, .slice (some ⟨nx4, 0, none⟩) 0 0), (11, i6 ((W .i64 (a1)).tmod (t3.1.f0.length : Int))), (2, .int .u16 a2), (7, .bool t1), (8, .slice A1 t2.length c1), (9, pt nx3 0)] (nx4 + 1) [⟨nx3, [.slice A2 t3.1.f0.length c2, .slice A3 t3.1.f1.length c3, .slice A4 t3.1.f2.length c4], 29⟩, ⟨nx4, [], 48⟩] ?_
     refine RL.toRow (b := ⟨nx4, [], 48⟩) 1 0 3 (by kernel_rfl) (by kernel_rfl) (by decide) ?_
     have hp5 : Reps t48 I8 ([] : List S48) [] := rfl
     refine RL.norm (L' := [⟨nx3, [.slice A2 t3.1.f0.length c2, .slice A3 t3.1.f1.length c3, .slice A4 t3.1.f2.length c4], 29⟩]) (X' := [orow 48 3 (some ⟨nx4, 0, none⟩) (([] : List S48).length) 0 []]) rfl rfl (by kernel_rfl) (by kernel_rfl) ?_
     obtain ⟨hz1, H⟩ := ifs H
     refine RL.appendR (T := 22) (e := 48) (S := (some ⟨nx4, 0, none⟩)) (S2 := A1) 3 24 22 0 c1 [] t48 ([] : List S48) t2 0 (some 51) (by kernel_rfl) (by kernel_rfl) (by kernel_rfl) (by kernel_rfl) (by kernel_rfl) (by decide) (by kernel_rfl) hp5 (Rd.ext (Imm.le_trans (Imm.le_trans (Imm.le_trans (Imm.le_trans hi4 hi5) hi6) hi7) hi8) hr1) hz1 (by omega) (fun A5 c5 nx5 cs5 hp6 => ?_)
     refine RL.sub (K' := [(51, .slice A5 ((([] : List S48) ++ t2).length) c5), (50, .slice A1 t2.length c1), (49, .slice (some ⟨nx4, 0, none⟩) 0 0), (11, i6 ((W .i64 (a1)).tmod (t3.1.f0.length : Int))), (2, .int .u16 a2), (7, .bool t1), (8, .slice A1 t2.length c1), (9, pt nx3 0)]) (L' := [⟨nx3, [.slice A2 t3.1.f0.length c2, .slice A3 t3.1.f1.length c3, .slice A4 t3.1.f2.length c4], 29⟩]) (X' := [orow 48 3 A5 ((([] : List S48) ++ t2).length) c5 cs5]) (by kernel_rfl) (.refl _) (.refl _) ?_
     refine RL.st 1 [(12, .slice A5 ((([] : List S48) ++ t2).length) c5), (11, i6 ((W .i64 (a1)).tmod (t3.1.f0.length : Int))), (2, .int .u16 a2), (7, .bool t1), (8, .slice A1 t2.length c1), (9, pt nx3 0)] ?_
     refine OK.sq ?_
     refine OK.sr ?_
     refine RL.st 1 [(13, i6 0), (12, .slice A5 ((([] : List S48) ++ t2).length) c5), (11, i6 ((W .i64 (a1)).tmod (t3.1.f0.length : Int))), (2, .int .u16 a2), (7, .bool t1), (8, .slice A1 t2.length c1), (9, pt nx3 0)] ?_
     refine OK.join (fun K' I' _ L' X' => ∃ (x2 : List S48) (A6 : Option Addr) (c6 : Nat) (cs6 : List Value), K' = [(2, .int .u16 a2), (7, .bool t1), (8, .slice A1 t2.length c1), (9, pt nx3 0), (11, i6 ((W .i64 (a1)).tmod (t3.1.f0.length : Int))), (12, .slice A6 x2.length c6)] ∧ L' = [⟨nx3, [.slice A2 t3.1.f0.length c2, .slice A3 t3.1.f1.length c3, .slice A4 t3.1.f2.length c4], 29⟩] ∧ X' = [orow 48 3 A6 x2.length c6 cs6] ∧ Imm.le I8 I' ∧ Reps t48 I' x2 cs6 ∧ armillarylaw23_AuctionRaised.k3 k a1 a2 t1 t2 t3 x2 = some r) ?_ ?_
     ·rintro _ I9 nx6 _ _ ⟨x2, A6, c6, cs6, rfl, rfl, rfl, hi9, hp7, H⟩
      rw [armillarylaw23_AuctionRaised.k3] at H
      refine QN.then_ ?_
      refine OK.sr ?_
      refine RL.s 1 [(95, .slice A6 x2.length c6), (2, .int .u16 a2), (7, .bool t1), (8, .slice A1 t2.length c1), (9, pt nx3 0), (11, i6 ((W .i64 (a1)).tmod (t3.1.f0.length : Int))), (12, .slice A6 x2.length c6)] ?_
      refine RL.freeze (e := 48) (sz := 3) (S := A6) (n := x2.length) (cap := c6) 0 (by kernel_rfl) hp7 rfl (fun I10 hi10 hl5 hr5 => ?_)
      skip
      obtain ⟨t4, hA4, H⟩ := bnd H
      refine RL.callP 15 [.slice A6 x2.length c6] (some 96) (fun w => auction_Clear.Post I10 w t4) (by kernel_rfl) (by kernel_rfl) (fun w hs => auction_Clear.calls k I10 x2 A6 c6 w hs.im hl5 hr5 t4 hA4) ?_
      rintro w v w' hs ⟨I11, A7, c7, cs7, A8, c8, cs8, A9, c9, cs9, rfl, hg, hp8, hp9, hp10⟩
      have hi11 := hg.le
      refine RL.resume (X' := [orow 3 1 A7 t4.1.f0.length c7 cs7, orow 3 1 A8 t4.1.f1.length c8 cs8, orow 2 1 A9 t4.1.f2.length c9 cs9]) rfl (hs.call hg) ?_
      clear hs hg
      generalize w'.heap.size = nx7
      clear w w'
      refine RL.freeze (e := 3) (sz := 1) (S := A7) (n := t4.1.f0.length) (cap := c7) 0 (by kernel_rfl) hp8 rfl (fun I12 hi12 hl6 hr6 => ?_)
      skip
      refine RL.freeze (e := 3) (sz := 1) (S := A8) (n := t4.1.f1.length) (cap := c8) 0 (by kernel_rfl) (Reps.ext hi12 hp9) rfl (fun I13 hi13 hl7 hr7 => ?_)
      skip
      refine RL.freeze (e := 2) (sz := 1) (S := A9) (n := t4.1.f2.length) (cap := c9) 0 (by kernel_rfl) (Reps.ext (Imm.le_trans hi12 hi13) hp10) rfl (fun I14 hi14 hl8 hr8 => ?_)
      skip
      refine RL.simP (K' := [(15, i6 t4.2), (14, pt nx7 0), (2, .int .u16 a2), (7, .bool t1), (8, .slice A1 t2.length c1), (9, pt nx3 0), (11, i6 ((W .i64 (a1)).tmod (t3.1.f0.length : Int))), (12, .slice A6 x2.length c6)]) (nx' := nx7 + 1) (L' := [⟨nx3, [.slice A2 t3.1.f0.length c2, .slice A3 t3.1.f1.length c3, .slice A4 t3.1.f2.length c4], 29⟩, ⟨nx7, [.slice A7 t4.1.f0.length c7, .slice A8 t4.1.f1.length c8, .slice A9 t4.1.f2.length c9], 29⟩]) [] (RFacts.nil _ _ _) 6 [.no, .no, .no, .no, .l 1, .no] (by kernel_rfl) (by kernel_rfl) ?_
      refine RL.nt ?_
      refine OK.sq ?_
      refine OK.sq ?_
      refine OK.join (fun K' I' _ L' X' => ∃ (x3 : Bool), K' = [(2, .int .u16 a2), (7, .bool t1), (8, .slice A1 t2.length c1), (9, pt nx3 0), (11, i6 ((W .i64 (a1)).tmod (t3.1.f0.length : Int))), (12, .slice A6 x2.length c6), (14, pt nx7 0), (113, .bool x3)] ∧ L' = [⟨nx3, [.slice A2 t3.1.f0.length c2, .slice A3 t3.1.f1.length c3, .slice A4 t3.1.f2.length c4], 29⟩, ⟨nx7, [.slice A7 t4.1.f0.length c7, .slice A8 t4.1.f1.length c8, .slice A9 t4.1.f2.length c9], 29⟩] ∧ X' = [] ∧ Imm.le I14 I' ∧ armillarylaw23_AuctionRaised.k2 k a1 a2 t1 t2 t3 x2 t4 x3 = some r) ?_ ?_
      ·rintro _ I15 nx8 _ _ ⟨x3, rfl, rfl, rfl, hi15, H⟩
       rw [armillarylaw23_AuctionRaised.k2] at H
       refine QN.then_ ?_
       refine OK.cd x3 (fun hb => ?_) (fun hb => ?_)
       ·skip
        have hc := hb
        rw [if_pos hc] at H
        clear hb
        refine OK.sr ?_
        refine RL.st 1 [(6, .bool false)] ?_
        refine OK.re ?_
        refine QN.thenR ?_
        obtain rfl := Option.some.inj H
        refine QN.body rfl [] (RFacts.nil _ _ _) (.no) (.bool false) (by kernel_rfl) (by kernel_rfl) (by kernel_rfl) ?_ _ (.inr rfl)
        exact fun w' hs' => ⟨_, rfl, I15, rfl, hs'.got _ .slnil⟩
       ·skip
        have hc := (Bool.eq_false_iff.1 hb)
        rw [if_neg hc] at H
        clear hb
        refine OK.skt ?_
        refine OK.sq ?_
        refine OK.join (fun K' I' _ L' X' => ∃ (x4 : Bool), K' = [(6, .bool x4)] ∧ L' = [⟨nx3, [.slice A2 t3.1.f0.length c2, .slice A3 t3.1.f1.length c3, .slice A4 t3.1.f2.length c4], 29⟩, ⟨nx7, [.slice A7 t4.1.f0.length c7, .slice A8 t4.1.f1.length c8, .slice A9 t4.1.f2.length c9], 29⟩] ∧ X' = [] ∧ Imm.le I15 I' ∧ armillarylaw23_AuctionRaised.k1 x4 = some r) ?_ ?_
        ·rintro _ I16 nx9 _ _ ⟨x4, rfl, rfl, rfl, hi16, H⟩
         rw [armillarylaw23_AuctionRaised.k1] at H
         refine QN.then_ ?_
         refine OK.re ?_
         obtain rfl := Option.some.inj H
         refine QN.body rfl [] (RFacts.nil _ _ _) (.no) (.bool x4) (by kernel_rfl) (by kernel_rfl) (by kernel_rfl) ?_ _ (.inr rfl)
         exact fun w' hs' => ⟨_, rfl, I16, rfl, hs'.got _ .slnil⟩
        ·intro Q_1 hJ4 hQ4
         obtain ⟨y4, H, HK4⟩ := bnd H
         obtain ⟨hi0_1, H⟩ := ifs H
         obtain ⟨hi1_1, H⟩ := ifs H
         obtain ⟨g2_, o2_, hA2_, hc2_⟩ := Ty.int_at (Rd.ext (Imm.le_trans hi14 hi15) hr7) ((W .i64 (a1)).tmod (t3.1.f0.length : Int)) hi0_1 hi1_1
         obtain ⟨hi0_2, H⟩ := ifs H
         obtain ⟨hi1_2, H⟩ := ifs H
         obtain ⟨g3_, o3_, hA3_, hc3_⟩ := Ty.int_at (Rd.ext (Imm.le_trans (Imm.le_trans (Imm.le_trans (Imm.le_trans (Imm.le_trans (Imm.le_trans (Imm.le_trans (Imm.le_trans hi7 hi8) hi9) hi10) hi11) hi12) hi13) hi14) hi15) hr3) ((W .i64 (a1)).tmod (t3.1.f0.length : Int)) hi0_2 hi1_2
         refine OK.cases ((t4.1.f1.getD ((W .i64 (a1)).tmod (t3.1.f0.length : Int)).toNat 0) == (t3.1.f1.getD ((W .i64 (a1)).tmod (t3.1.f0.length : Int)).toNat 0)) (fun hb1 => ?_) (fun hb1 => ?_)
         ·have hc1 := (beq_iff_eq.1 hb1)
          rw [if_pos hc1] at H
          obtain ⟨hi0_3, H⟩ := ifs H
          obtain ⟨hi1_3, H⟩ := ifs H
          obtain ⟨g4_, o4_, hA4_, hc4_⟩ := Ty.int_at (Rd.ext hi15 hr8) ((W .i64 (a1)).tmod (t3.1.f0.length : Int)) hi0_3 hi1_3
          obtain ⟨hi0_4, H⟩ := ifs H
          obtain ⟨hi1_4, H⟩ := ifs H
          obtain ⟨g5_, o5_, hA5_, hc5_⟩ := Ty.int_at (Rd.ext (Imm.le_trans (Imm.le_trans (Imm.le_trans (Imm.le_trans (Imm.le_trans (Imm.le_trans (Imm.le_trans hi8 hi9) hi10) hi11) hi12) hi13) hi14) hi15) hr4) ((W .i64 (a1)).tmod (t3.1.f0.length : Int)) hi0_4 hi1_4
          refine OK.cases ((t4.1.f2.getD ((W .i64 (a1)).tmod (t3.1.f0.length : Int)).toNat 0) == (t3.1.f2.getD ((W .i64 (a1)).tmod (t3.1.f0.length : Int)).toNat 0)) (fun hb2 => ?_) (fun hb2 => ?_)
          ·have hc2 := (beq_iff_eq.1 hb2)
           rw [if_pos hc2] at H
           obtain ⟨t5, hA5, H⟩ := bnd H
           obtain ⟨t6, hA6, H⟩ := bnd H
           refine OK.drawnC 20 33 O9_86 a9_86n (by kernel_rfl) (by kernel_rfl) (u9d1l t5 t6) (u9d1g a1 t3 g2_ o2_ g3_ o3_ g4_ o4_ g5_ o5_) [(⟨g2_, o2_ + ((W .i64 (a1)).tmod (t3.1.f0.length : Int)).toNat * 1, none⟩, i6 (t4.1.f1.getD ((W .i64 (a1)).tmod (t3.1.f0.length : Int)).toNat 0)), (⟨g3_, o3_ + ((W .i64 (a1)).tmod (t3.1.f0.length : Int)).toNat * 1, none⟩, i6 (t3.1.f1.getD ((W .i64 (a1)).tmod (t3.1.f0.length : Int)).toNat 0)), (⟨g4_, o4_ + ((W .i64 (a1)).tmod (t3.1.f0.length : Int)).toNat * 1, none⟩, i6 (t4.1.f2.getD ((W .i64 (a1)).tmod (t3.1.f0.length : Int)).toNat 0)), (⟨g5_, o5_ + ((W .i64 (a1)).tmod (t3.1.f0.length : Int)).toNat * 1, none⟩, i6 (t3.1.f2.getD ((W .i64 (a1)).tmod (t3.1.f0.length : Int)).toNat 0))] (RI.cons (hc2_ 0 _ rfl) (RI.cons (hc3_ 0 _ rfl) (RI.cons (hc4_ 0 _ rfl) (RI.cons (hc5_ 0 _ rfl) (RI.nil _))))) (.no :: .l 1 :: .no :: .no :: .r 0 :: .no :: .l 0 :: .no :: .no :: .r 1 :: .no :: .no :: .no :: .l 1 :: .no :: .no :: .r 2 :: .no :: .l 0 :: .no :: .no :: .r 3 :: .no :: .no :: .no :: .no :: .l 1 :: .no :: .no :: .l 0 :: .no :: .no :: .no :: []) a9_86 a9_86o (by kernel_rfl) (by kernel_rfl) (u9d1s a1 a2 t2 A1 c1 t3 A2 c2 A3 c3 A4 c4 nx3 x2 A6 c6 t4 A7 c7 A8 c8 A9 c9 nx7 g2_ o2_ g3_ o3_ g4_ o4_ g5_ o5_ t5 t6) (u9d1f a1 a2 t1 t2 A1 c1 t3 A2 c2 A3 c3 A4 c4 nx3 x2 A6 c6 t4 A7 c7 A8 c8 A9 c9 nx7 x3 g2_ o2_ g3_ o3_ g4_ o4_ g5_ o5_ t5 t6 33) (u9d1v a1 a2 t1 t2 A1 c1 t3 A2 c2 A3 c3 A4 c4 nx3 x2 A6 c6 t4 A7 c7 A8 c8 A9 c9 nx7 x3 g2_ o2_ g3_ o3_ g4_ o4_ g5_ o5_ t5 t6) (u9d1e a1 a2 t1 t2 A1 c1 t3 A2 c2 A3 c3 A4 c4 nx3 x2 A6 c6 t4 A7 c7 A8 c8 A9 c9 nx7 x3 g2_ o2_ g3_ o3_ g4_ o4_ g5_ o5_ t5 t6) [u9d1f a1 a2 t1 t2 A1 c1 t3 A2 c2 A3 c3 A4 c4 nx3 x2 A6 c6 t4 A7 c7 A8 c8 A9 c9 nx7 x3 g2_ o2_ g3_ o3_ g4_ o4_ g5_ o5_ t5 t6 27, u9d1f a1 a2 t1 t2 A1 c1 t3 A2 c2 A3 c3 A4 c4 nx3 x2 A6 c6 t4 A7 c7 A8 c8 A9 c9 nx7 x3 g2_ o2_ g3_ o3_ g4_ o4_ g5_ o5_ t5 t6 30] (framesOk.cons (fun u => rfl) (framesOk.cons (fun u => rfl) framesOk.nil)) ?_ [u9d1f a1 a2 t1 t2 A1 c1 t3 A2 c2 A3 c3 A4 c4 nx3 x2 A6 c6 t4 A7 c7 A8 c8 A9 c9 nx7 x3 g2_ o2_ g3_ o3_ g4_ o4_ g5_ o5_ t5 t6 3, u9d1f a1 a2 t1 t2 A1 c1 t3 A2 c2 A3 c3 A4 c4 nx3 x2 A6 c6 t4 A7 c7 A8 c8 A9 c9 nx7 x3 g2_ o2_ g3_ o3_ g4_ o4_ g5_ o5_ t5 t6 8, u9d1f a1 a2 t1 t2 A1 c1 t3 A2 c2 A3 c3 A4 c4 nx3 x2 A6 c6 t4 A7 c7 A8 c8 A9 c9 nx7 x3 g2_ o2_ g3_ o3_ g4_ o4_ g5_ o5_ t5 t6 11, u9d1f a1 a2 t1 t2 A1 c1 t3 A2 c2 A3 c3 A4 c4 nx3 x2 A6 c6 t4 A7 c7 A8 c8 A9 c9 nx7 x3 g2_ o2_ g3_ o3_ g4_ o4_ g5_ o5_ t5 t6 15, u9d1f a1 a2 t1 t2 A1 c1 t3 A2 c2 A3 c3 A4 c4 nx3 x2 A6 c6 t4 A7 c7 A8 c8 A9 c9 nx7 x3 g2_ o2_ g3_ o3_ g4_ o4_ g5_ o5_ t5 t6 20, u9d1f a1 a2 t1 t2 A1 c1 t3 A2 c2 A3 c3 A4 c4 nx3 x2 A6 c6 t4 A7 c7 A8 c8 A9 c9 nx7 x3 g2_ o2_ g3_ o3_ g4_ o4_ g5_ o5_ t5 t6 24] (framesOk.cons (fun u => rfl) (framesOk.cons (fun u => rfl) (framesOk.cons (fun u => rfl) (framesOk.cons (fun u => rfl) (framesOk.cons (fun u => rfl) (framesOk.cons (fun u => rfl) framesOk.nil)))))) ?_ ?_
           ·refine LoudsG.cons ?_ (LoudsG.cons ?_ (LoudsG.nil))
            ·intro D u J w hp hJ hs hF
             refine Does.call 23 [.slice A6 x2.length c6, .agg #[.slice A7 t4.1.f0.length c7, .slice A8 t4.1.f1.length c8, .slice A9 t4.1.f2.length c9]] (by kernel_rfl) ((auction_Welfare.calls k J x2 A6 c6 t4.1 A7 c7 A8 c8 A9 c9 w hs.im hl5 (Rd.ext (Imm.le_trans (Imm.le_trans (Imm.le_trans (Imm.le_trans (Imm.le_trans hi11 hi12) hi13) hi14) hi15) hJ) hr5) hl6 (Rd.ext (Imm.le_trans (Imm.le_trans (Imm.le_trans hi13 hi14) hi15) hJ) hr6) hl7 (Rd.ext (Imm.le_trans (Imm.le_trans hi14 hi15) hJ) hr7) hl8 (Rd.ext (Imm.le_trans hi15 hJ) hr8) t5 hA5).mono ?_)
             rintro e w' ⟨v, rfl, J2, rfl, hg⟩
             exact ⟨_, rfl, fun _ => (none, 0, []), J2, rfl, hg, trivial⟩
            ·intro D u J w hp hJ hs hF
             refine Does.call 23 [.slice A1 t2.length c1, .agg #[.slice A2 t3.1.f0.length c2, .slice A3 t3.1.f1.length c3, .slice A4 t3.1.f2.length c4]] (by kernel_rfl) ((auction_Welfare.calls k J t2 A1 c1 t3.1 A2 c2 A3 c3 A4 c4 w hs.im hl1 (Rd.ext (Imm.le_trans (Imm.le_trans (Imm.le_trans (Imm.le_trans (Imm.le_trans (Imm.le_trans (Imm.le_trans (Imm.le_trans (Imm.le_trans (Imm.le_trans (Imm.le_trans (Imm.le_trans hi4 hi5) hi6) hi7) hi8) hi9) hi10) hi11) hi12) hi13) hi14) hi15) hJ) hr1) hl2 (Rd.ext (Imm.le_trans (Imm.le_trans (Imm.le_trans (Imm.le_trans (Imm.le_trans (Imm.le_trans (Imm.le_trans (Imm.le_trans (Imm.le_trans (Imm.le_trans hi6 hi7) hi8) hi9) hi10) hi11) hi12) hi13) hi14) hi15) hJ) hr2) hl3 (Rd.ext (Imm.le_trans (Imm.le_trans (Imm.le_trans (Imm.le_trans (Imm.le_trans (Imm.le_trans (Imm.le_trans (Imm.le_trans (Imm.le_trans hi7 hi8) hi9) hi10) hi11) hi12) hi13) hi14) hi15) hJ) hr3) hl4 (Rd.ext (Imm.le_trans (Imm.le_trans (Imm.le_trans (Imm.le_trans (Imm.le_trans (Imm.le_trans (Imm.le_trans (Imm.le_trans hi8 hi9) hi10) hi11) hi12) hi13) hi14) hi15) hJ) hr4) t6 hA6).mono ?_)
             rintro e w' ⟨v, rfl, J2, rfl, hg⟩
             exact ⟨_, rfl, fun _ => (none, 0, []), J2, rfl, hg, trivial⟩
           ·refine Givens.cons (fun u w =>  ?_) (fun _ _ _ => rfl) (Givens.cons (fun u w =>  ?_) (fun _ _ _ => rfl) (Givens.cons (fun u w =>  ?_) (fun _ _ _ => rfl) (Givens.cons (fun u w =>  ?_) (fun _ _ _ => rfl) (Givens.cons (fun u w =>  ?_) (fun _ _ _ => rfl) (Givens.cons (fun u w =>  ?_) (fun _ _ _ => rfl) (Givens.nil))))))
            ·exact giv_idx (T := 26) (e := 3) 1 .i64 ((W .i64 (a1)).tmod (t3.1.f0.length : Int)) hA2_ t4.1.f1.length c8 (by kernel_rfl) (by kernel_rfl) (by kernel_rfl) hi0_1 hi1_1 w
            ·exact giv_idx (T := 26) (e := 3) 1 .i64 ((W .i64 (a1)).tmod (t3.1.f0.length : Int)) hA3_ t3.1.f1.length c3 (by kernel_rfl) (by kernel_rfl) (by kernel_rfl) hi0_2 hi1_2 w
            ·exact giv_run (v := .bool ((t4.1.f1.getD ((W .i64 (a1)).tmod (t3.1.f0.length : Int)).toNat 0) == (t3.1.f1.getD ((W .i64 (a1)).tmod (t3.1.f0.length : Int)).toNat 0))) (by kernel_rfl) (by rw [hb1]; try rfl) w
            ·exact giv_idx (T := 27) (e := 2) 1 .i64 ((W .i64 (a1)).tmod (t3.1.f0.length : Int)) hA4_ t4.1.f2.length c9 (by kernel_rfl) (by kernel_rfl) (by kernel_rfl) hi0_3 hi1_3 w
            ·exact giv_idx (T := 27) (e := 2) 1 .i64 ((W .i64 (a1)).tmod (t3.1.f0.length : Int)) hA5_ t3.1.f2.length c4 (by kernel_rfl) (by kernel_rfl) (by kernel_rfl) hi0_4 hi1_4 w
            ·exact giv_run (v := .bool ((t4.1.f2.getD ((W .i64 (a1)).tmod (t3.1.f0.length : Int)).toNat 0) == (t3.1.f2.getD ((W .i64 (a1)).tmod (t3.1.f0.length : Int)).toNat 0))) (by kernel_rfl) (by rw [hb2]; try rfl) w
           intro u I17 nx10 hi17 hF
           clear hF
           refine RL.norm (K' := ((146, i6 (W .i64 (a2))) :: (145, .int .u16 a2) :: (144, i6 t6) :: (143, .agg #[.slice A2 t3.1.f0.length c2, .slice A3 t3.1.f1.length c3, .slice A4 t3.1.f2.length c4]) :: (142, .slice A1 t2.length c1) :: (141, i6 t5) :: (140, .agg #[.slice A7 t4.1.f0.length c7, .slice A8 t4.1.f1.length c8, .slice A9 t4.1.f2.length c9]) :: (139, .slice A6 x2.length c6) :: (138, .bool true) :: (137, .bool ((t4.1.f2.getD ((W .i64 (a1)).tmod (t3.1.f0.length : Int)).toNat 0) == (t3.1.f2.getD ((W .i64 (a1)).tmod (t3.1.f0.length : Int)).toNat 0))) :: (136, .bool ((t4.1.f2.getD ((W .i64 (a1)).tmod (t3.1.f0.length : Int)).toNat 0) == (t3.1.f2.getD ((W .i64 (a1)).tmod (t3.1.f0.length : Int)).toNat 0))) :: (135, i6 (t3.1.f2.getD ((W .i64 (a1)).tmod (t3.1.f0.length : Int)).toNat 0)) :: (134, pt g5_ (o5_ + ((W .i64 (a1)).tmod (t3.1.f0.length : Int)).toNat * 1)) :: (133, i6 ((W .i64 (a1)).tmod (t3.1.f0.length : Int))) :: (132, .slice A4 t3.1.f2.length c4) :: (131, pt nx3 2) :: (130, i6 (t4.1.f2.getD ((W .i64 (a1)).tmod (t3.1.f0.length : Int)).toNat 0)) :: (129, pt g4_ (o4_ + ((W .i64 (a1)).tmod (t3.1.f0.length : Int)).toNat * 1)) :: (128, i6 ((W .i64 (a1)).tmod (t3.1.f0.length : Int))) :: (127, .slice A9 t4.1.f2.length c9) :: (126, pt nx7 2) :: (125, .bool true) :: (124, .bool ((t4.1.f1.getD ((W .i64 (a1)).tmod (t3.1.f0.length : Int)).toNat 0) == (t3.1.f1.getD ((W .i64 (a1)).tmod (t3.1.f0.length : Int)).toNat 0))) :: (123, i6 (t3.1.f1.getD ((W .i64 (a1)).tmod (t3.1.f0.length : Int)).toNat 0)) :: (122, pt g3_ (o3_ + ((W .i64 (a1)).tmod (t3.1.f0.length : Int)).toNat * 1)) :: (121, i6 ((W .i64 (a1)).tmod (t3.1.f0.length : Int))) :: (120, .slice A3 t3.1.f1.length c3) :: (119, pt nx3 1) :: (118, i6 (t4.1.f1.getD ((W .i64 (a1)).tmod (t3.1.f0.length : Int)).toNat 0)) :: (117, pt g2_ (o2_ + ((W .i64 (a1)).tmod (t3.1.f0.length : Int)).toNat * 1)) :: (116, i6 ((W .i64 (a1)).tmod (t3.1.f0.length : Int))) :: (115, .slice A8 t4.1.f1.length c8) :: (114, pt nx7 1) :: (2, .int .u16 a2) :: (7, .bool t1) :: (8, .slice A1 t2.length c1) :: (9, pt nx3 0) :: (11, i6 ((W .i64 (a1)).tmod (t3.1.f0.length : Int))) :: (12, .slice A6 x2.length c6) :: (14, pt nx7 0) :: (113, .bool x3) :: [])) (X' := []) (by kernel_rfl) rfl rfl rfl ?_
           refine RL.s 4 [(150, .bool (t5 == (W .i64 (t6 + (W .i64 (a2)))))), (7, .bool t1)] ?_
           refine RL.cases (t5 == (W .i64 (t6 + (W .i64 (a2))))) (fun hb => ?_) (fun hb => ?_)
           ·have hc := (beq_iff_eq.1 hb)
            rw [hb]
            rw [if_pos hc] at H; clear hb
            refine RL.s 3 [(6, .bool t1)] ?_
            refine RL.nil (by kernel_rfl) ?_
            obtain rfl := Option.some.inj H
            exact QN.sb (hJ4 _ _ _ _ _ ⟨t1, rfl, rfl, rfl, hi17, HK4⟩) (.cons_cons _ (.cons_cons _ .slnil)) (.refl _)
           ·have hc := (beq_eq_false_iff_ne.1 hb)
            rw [hb]
            rw [if_neg hc] at H; clear hb
            refine RL.s 3 [(6, .bool false)] ?_
            refine RL.nil (by kernel_rfl) ?_
            obtain rfl := Option.some.inj H
            exact QN.sb (hJ4 _ _ _ _ _ ⟨false, rfl, rfl, rfl, hi17, HK4⟩) (.cons_cons _ (.cons_cons _ .slnil)) (.refl _)
          ·have hc2 := (beq_eq_false_iff_ne.1 hb2)
           rw [if_neg hc2] at H
           refine OK.drawnC 20 33 O9_86 a9_86n (by kernel_rfl) (by kernel_rfl) u9d2l (u9d2g a1 t3 g2_ o2_ g3_ o3_ g4_ o4_ g5_ o5_) [(⟨g2_, o2_ + ((W .i64 (a1)).tmod (t3.1.f0.length : Int)).toNat * 1, none⟩, i6 (t4.1.f1.getD ((W .i64 (a1)).tmod (t3.1.f0.length : Int)).toNat 0)), (⟨g3_, o3_ + ((W .i64 (a1)).tmod (t3.1.f0.length : Int)).toNat * 1, none⟩, i6 (t3.1.f1.getD ((W .i64 (a1)).tmod (t3.1.f0.length : Int)).toNat 0)), (⟨g4_, o4_ + ((W .i64 (a1)).tmod (t3.1.f0.length : Int)).toNat * 1, none⟩, i6 (t4.1.f2.getD ((W .i64 (a1)).tmod (t3.1.f0.length : Int)).toNat 0)), (⟨g5_, o5_ + ((W .i64 (a1)).tmod (t3.1.f0.length : Int)).toNat * 1, none⟩, i6 (t3.1.f2.getD ((W .i64 (a1)).tmod (t3.1.f0.length : Int)).toNat 0))] (RI.cons (hc2_ 0 _ rfl) (RI.cons (hc3_ 0 _ rfl) (RI.cons (hc4_ 0 _ rfl) (RI.cons (hc5_ 0 _ rfl) (RI.nil _))))) (.no :: .l 1 :: .no :: .no :: .r 0 :: .no :: .l 0 :: .no :: .no :: .r 1 :: .no :: .no :: .no :: .l 1 :: .no :: .no :: .r 2 :: .no :: .l 0 :: .no :: .no :: .r 3 :: .no :: .no :: .no :: .no :: .no :: .no :: .no :: .no :: .no :: .no :: .no :: []) a9_86 a9_86o (by kernel_rfl) (by kernel_rfl) (u9d2s a1 t3 A3 c3 A4 c4 nx3 t4 A8 c8 A9 c9 nx7 g2_ o2_ g3_ o3_ g4_ o4_ g5_ o5_) (u9d2f a1 a2 t1 t2 A1 c1 t3 A3 c3 A4 c4 nx3 x2 A6 c6 t4 A8 c8 A9 c9 nx7 x3 g2_ o2_ g3_ o3_ g4_ o4_ g5_ o5_ 33) (u9d2v a1 a2 t1 t2 A1 c1 t3 A2 c2 A3 c3 A4 c4 nx3 x2 A6 c6 t4 A7 c7 A8 c8 A9 c9 nx7 x3 g2_ o2_ g3_ o3_ g4_ o4_ g5_ o5_) (u9d2e a1 a2 t1 t2 A1 c1 t3 A2 c2 A3 c3 A4 c4 nx3 x2 A6 c6 t4 A7 c7 A8 c8 A9 c9 nx7 x3 g2_ o2_ g3_ o3_ g4_ o4_ g5_ o5_) [] framesOk.nil ?_ [u9d2f a1 a2 t1 t2 A1 c1 t3 A3 c3 A4 c4 nx3 x2 A6 c6 t4 A8 c8 A9 c9 nx7 x3 g2_ o2_ g3_ o3_ g4_ o4_ g5_ o5_ 3, u9d2f a1 a2 t1 t2 A1 c1 t3 A3 c3 A4 c4 nx3 x2 A6 c6 t4 A8 c8 A9 c9 nx7 x3 g2_ o2_ g3_ o3_ g4_ o4_ g5_ o5_ 8, u9d2f a1 a2 t1 t2 A1 c1 t3 A3 c3 A4 c4 nx3 x2 A6 c6 t4 A8 c8 A9 c9 nx7 x3 g2_ o2_ g3_ o3_ g4_ o4_ g5_ o5_ 11, u9d2f a1 a2 t1 t2 A1 c1 t3 A3 c3 A4 c4 nx3 x2 A6 c6 t4 A8 c8 A9 c9 nx7 x3 g2_ o2_ g3_ o3_ g4_ o4_ g5_ o5_ 15, u9d2f a1 a2 t1 t2 A1 c1 t3 A3 c3 A4 c4 nx3 x2 A6 c6 t4 A8 c8 A9 c9 nx7 x3 g2_ o2_ g3_ o3_ g4_ o4_ g5_ o5_ 20, u9d2f a1 a2 t1 t2 A1 c1 t3 A3 c3 A4 c4 nx3 x2 A6 c6 t4 A8 c8 A9 c9 nx7 x3 g2_ o2_ g3_ o3_ g4_ o4_ g5_ o5_ 24] (framesOk.cons (fun u => rfl) (framesOk.cons (fun u => rfl) (framesOk.cons (fun u => rfl) (framesOk.cons (fun u => rfl) (framesOk.cons (fun u => rfl) (framesOk.cons (fun u => rfl) framesOk.nil)))))) ?_ ?_
           ·refine LoudsG.nil
           ·refine Givens.cons (fun u w =>  ?_) (fun _ _ _ => rfl) (Givens.cons (fun u w =>  ?_) (fun _ _ _ => rfl) (Givens.cons (fun u w =>  ?_) (fun _ _ _ => rfl) (Givens.cons (fun u w =>  ?_) (fun _ _ _ => rfl) (Givens.cons (fun u w =>  ?_) (fun _ _ _ => rfl) (Givens.cons (fun u w =>  ?_) (fun _ _ _ => rfl) (Givens.nil))))))
            ·exact giv_idx (T := 26) (e := 3) 1 .i64 ((W .i64 (a1)).tmod (t3.1.f0.length : Int)) hA2_ t4.1.f1.length c8 (by kernel_rfl) (by kernel_rfl) (by kernel_rfl) hi0_1 hi1_1 w
            ·exact giv_idx (T := 26) (e := 3) 1 .i64 ((W .i64 (a1)).tmod (t3.1.f0.length : Int)) hA3_ t3.1.f1.length c3 (by kernel_rfl) (by kernel_rfl) (by kernel_rfl) hi0_2 hi1_2 w
            ·exact giv_run (v := .bool ((t4.1.f1.getD ((W .i64 (a1)).tmod (t3.1.f0.length : Int)).toNat 0) == (t3.1.f1.getD ((W .i64 (a1)).tmod (t3.1.f0.length : Int)).toNat 0))) (by kernel_rfl) (by rw [hb1]; try rfl) w
            ·exact giv_idx (T := 27) (e := 2) 1 .i64 ((W .i64 (a1)).tmod (t3.1.f0.length : Int)) hA4_ t4.1.f2.length c9 (by kernel_rfl) (by kernel_rfl) (by kernel_rfl) hi0_3 hi1_3 w
            ·exact giv_idx (T := 27) (e := 2) 1 .i64 ((W .i64 (a1)).tmod (t3.1.f0.length : Int)) hA5_ t3.1.f2.length c4 (by kernel_rfl) (by kernel_rfl) (by kernel_rfl) hi0_4 hi1_4 w
            ·exact giv_run (v := .bool ((t4.1.f2.getD ((W .i64 (a1)).tmod (t3.1.f0.length : Int)).toNat 0) == (t3.1.f2.getD ((W .i64 (a1)).tmod (t3.1.f0.length : Int)).toNat 0))) (by kernel_rfl) (by rw [hb2]; try rfl) w
           intro u I18 nx11 hi18 hF
           clear hF
           refine RL.norm (K' := ((146, undef) :: (145, undef) :: (144, undef) :: (143, undef) :: (142, undef) :: (141, undef) :: (140, undef) :: (139, undef) :: (138, .bool false) :: (137, .bool ((t4.1.f2.getD ((W .i64 (a1)).tmod (t3.1.f0.length : Int)).toNat 0) == (t3.1.f2.getD ((W .i64 (a1)).tmod (t3.1.f0.length : Int)).toNat 0))) :: (136, .bool ((t4.1.f2.getD ((W .i64 (a1)).tmod (t3.1.f0.length : Int)).toNat 0) == (t3.1.f2.getD ((W .i64 (a1)).tmod (t3.1.f0.length : Int)).toNat 0))) :: (135, i6 (t3.1.f2.getD ((W .i64 (a1)).tmod (t3.1.f0.length : Int)).toNat 0)) :: (134, pt g5_ (o5_ + ((W .i64 (a1)).tmod (t3.1.f0.length : Int)).toNat * 1)) :: (133, i6 ((W .i64 (a1)).tmod (t3.1.f0.length : Int))) :: (132, .slice A4 t3.1.f2.length c4) :: (131, pt nx3 2) :: (130, i6 (t4.1.f2.getD ((W .i64 (a1)).tmod (t3.1.f0.length : Int)).toNat 0)) :: (129, pt g4_ (o4_ + ((W .i64 (a1)).tmod (t3.1.f0.length : Int)).toNat * 1)) :: (128, i6 ((W .i64 (a1)).tmod (t3.1.f0.length : Int))) :: (127, .slice A9 t4.1.f2.length c9) :: (126, pt nx7 2) :: (125, .bool true) :: (124, .bool ((t4.1.f1.getD ((W .i64 (a1)).tmod (t3.1.f0.length : Int)).toNat 0) == (t3.1.f1.getD ((W .i64 (a1)).tmod (t3.1.f0.length : Int)).toNat 0))) :: (123, i6 (t3.1.f1.getD ((W .i64 (a1)).tmod (t3.1.f0.length : Int)).toNat 0)) :: (122, pt g3_ (o3_ + ((W .i64 (a1)).tmod (t3.1.f0.length : Int)).toNat * 1)) :: (121, i6 ((W .i64 (a1)).tmod (t3.1.f0.length : Int))) :: (120, .slice A3 t3.1.f1.length c3) :: (119, pt nx3 1) :: (118, i6 (t4.1.f1.getD ((W .i64 (a1)).tmod (t3.1.f0.length : Int)).toNat 0)) :: (117, pt g2_ (o2_ + ((W .i64 (a1)).tmod (t3.1.f0.length : Int)).toNat * 1)) :: (116, i6 ((W .i64 (a1)).tmod (t3.1.f0.length : Int))) :: (115, .slice A8 t4.1.f1.length c8) :: (114, pt nx7 1) :: (2, .int .u16 a2) :: (7, .bool t1) :: (8, .slice A1 t2.length c1) :: (9, pt nx3 0) :: (11, i6 ((W .i64 (a1)).tmod (t3.1.f0.length : Int))) :: (12, .slice A6 x2.length c6) :: (14, pt nx7 0) :: (113, .bool x3) :: [])) (X' := []) (by kernel_rfl) rfl rfl rfl ?_
           refine RL.s 7 [(6, .bool false)] ?_
           refine RL.nil (by kernel_rfl) ?_
           obtain rfl := Option.some.inj H
           exact QN.sb (hJ4 _ _ _ _ _ ⟨false, rfl, rfl, rfl, hi18, HK4⟩) (.cons_cons _ (.cons_cons _ .slnil)) (.refl _)
         ·have hc1 := (beq_eq_false_iff_ne.1 hb1)
          rw [if_neg hc1] at H
          refine OK.drawnC 20 33 O9_86 a9_86n (by kernel_rfl) (by kernel_rfl) u9d3l (u9d3g a1 t3 g2_ o2_ g3_ o3_) [(⟨g2_, o2_ + ((W .i64 (a1)).tmod (t3.1.f0.length : Int)).toNat * 1, none⟩, i6 (t4.1.f1.getD ((W .i64 (a1)).tmod (t3.1.f0.length : Int)).toNat 0)), (⟨g3_, o3_ + ((W .i64 (a1)).tmod (t3.1.f0.length : Int)).toNat * 1, none⟩, i6 (t3.1.f1.getD ((W .i64 (a1)).tmod (t3.1.f0.length : Int)).toNat 0))] (RI.cons (hc2_ 0 _ rfl) (RI.cons (hc3_ 0 _ rfl) (RI.nil _))) (.no :: .l 1 :: .no :: .no :: .r 0 :: .no :: .l 0 :: .no :: .no :: .r 1 :: .no :: .no :: .no :: .no :: .no :: .no :: .no :: .no :: .no :: .no :: .no :: .no :: .no :: .no :: .no :: .no :: .no :: .no :: .no :: .no :: .no :: .no :: .no :: []) a9_86 a9_86o (by kernel_rfl) (by kernel_rfl) (u9d3s a1 t3 A3 c3 nx3 t4 A8 c8 nx7 g2_ o2_ g3_ o3_) (u9d3f a1 a2 t1 t2 A1 c1 t3 A3 c3 nx3 x2 A6 c6 t4 A8 c8 nx7 x3 g2_ o2_ g3_ o3_ 33) (u9d3v a1 a2 t1 t2 A1 c1 t3 A2 c2 A3 c3 A4 c4 nx3 x2 A6 c6 t4 A7 c7 A8 c8 A9 c9 nx7 x3 g2_ o2_ g3_ o3_) (u9d3e a1 a2 t1 t2 A1 c1 t3 A2 c2 A3 c3 A4 c4 nx3 x2 A6 c6 t4 A7 c7 A8 c8 A9 c9 nx7 x3 g2_ o2_ g3_ o3_) [] framesOk.nil ?_ [u9d3f a1 a2 t1 t2 A1 c1 t3 A3 c3 nx3 x2 A6 c6 t4 A8 c8 nx7 x3 g2_ o2_ g3_ o3_ 3, u9d3f a1 a2 t1 t2 A1 c1 t3 A3 c3 nx3 x2 A6 c6 t4 A8 c8 nx7 x3 g2_ o2_ g3_ o3_ 8, u9d3f a1 a2 t1 t2 A1 c1 t3 A3 c3 nx3 x2 A6 c6 t4 A8 c8 nx7 x3 g2_ o2_ g3_ o3_ 11] (framesOk.cons (fun u => rfl) (framesOk.cons (fun u => rfl) (framesOk.cons (fun u => rfl) framesOk.nil))) ?_ ?_
          ·refine LoudsG.nil
          ·refine Givens.cons (fun u w =>  ?_) (fun _ _ _ => rfl) (Givens.cons (fun u w =>  ?_) (fun _ _ _ => rfl) (Givens.cons (fun u w =>  ?_) (fun _ _ _ => rfl) (Givens.nil)))
           ·exact giv_idx (T := 26) (e := 3) 1 .i64 ((W .i64 (a1)).tmod (t3.1.f0.length : Int)) hA2_ t4.1.f1.length c8 (by kernel_rfl) (by kernel_rfl) (by kernel_rfl) hi0_1 hi1_1 w
           ·exact giv_idx (T := 26) (e := 3) 1 .i64 ((W .i64 (a1)).tmod (t3.1.f0.length : Int)) hA3_ t3.1.f1.length c3 (by kernel_rfl) (by kernel_rfl) (by kernel_rfl) hi0_2 hi1_2 w
           ·exact giv_run (v := .bool ((t4.1.f1.getD ((W .i64 (a1)).tmod (t3.1.f0.length : Int)).toNat 0) == (t3.1.f1.getD ((W .i64 (a1)).tmod (t3.1.f0.length : Int)).toNat 0))) (by kernel_rfl) (by rw [hb1]; try rfl) w
          intro u I19 nx12 hi19 hF
          clear hF
          refine RL.norm (K' := ((146, undef) :: (145, undef) :: (144, undef) :: (143, undef) :: (142, undef) :: (141, undef) :: (140, undef) :: (139, undef) :: (138, .bool false) :: (137, .bool false) :: (136, undef) :: (135, undef) :: (134, undef) :: (133, undef) :: (132, undef) :: (131, undef) :: (130, undef) :: (129, undef) :: (128, undef) :: (127, undef) :: (126, undef) :: (125, .bool false) :: (124, .bool ((t4.1.f1.getD ((W .i64 (a1)).tmod (t3.1.f0.length : Int)).toNat 0) == (t3.1.f1.getD ((W .i64 (a1)).tmod (t3.1.f0.length : Int)).toNat 0))) :: (123, i6 (t3.1.f1.getD ((W .i64 (a1)).tmod (t3.1.f0.length : Int)).toNat 0)) :: (122, pt g3_ (o3_ + ((W .i64 (a1)).tmod (t3.1.f0.length : Int)).toNat * 1)) :: (121, i6 ((W .i64 (a1)).tmod (t3.1.f0.length : Int))) :: (120, .slice A3 t3.1.f1.length c3) :: (119, pt nx3 1) :: (118, i6 (t4.1.f1.getD ((W .i64 (a1)).tmod (t3.1.f0.length : Int)).toNat 0)) :: (117, pt g2_ (o2_ + ((W .i64 (a1)).tmod (t3.1.f0.length : Int)).toNat * 1)) :: (116, i6 ((W .i64 (a1)).tmod (t3.1.f0.length : Int))) :: (115, .slice A8 t4.1.f1.length c8) :: (114, pt nx7 1) :: (2, .int .u16 a2) :: (7, .bool t1) :: (8, .slice A1 t2.length c1) :: (9, pt nx3 0) :: (11, i6 ((W .i64 (a1)).tmod (t3.1.f0.length : Int))) :: (12, .slice A6 x2.length c6) :: (14, pt nx7 0) :: (113, .bool x3) :: [])) (X' := []) (by kernel_rfl) rfl rfl rfl ?_
          refine RL.s 7 [(6, .bool false)] ?_
          refine RL.nil (by kernel_rfl) ?_
          obtain rfl := Option.some.inj H
          exact QN.sb (hJ4 _ _ _ _ _ ⟨false, rfl, rfl, rfl, hi19, HK4⟩) (.cons_cons _ (.cons_cons _ .slnil)) (.refl _)
      ·intro Q_2 hJ3 hQ3
       obtain ⟨y3, H, HK3⟩ := bnd H
       refine OK.rg ?_
       refine RL.s 3 [(101, .bool (t4.2 != 0)), (14, pt nx7 0), (2, .int .u16 a2), (7, .bool t1), (8, .slice A1 t2.length c1), (9, pt nx3 0), (11, i6 ((W .i64 (a1)).tmod (t3.1.f0.length : Int))), (12, .slice A6 x2.length c6)] ?_
       refine RL.cases (t4.2 != 0) (fun hb => ?_) (fun hb => ?_)
       ·have hc := (bne_iff_ne.1 hb)
        rw [hb]
        rw [if_pos hc] at H; clear hb
        refine RL.s 12 [(113, .bool true), (14, pt nx7 0), (2, .int .u16 a2), (7, .bool t1), (8, .slice A1 t2.length c1), (9, pt nx3 0), (11, i6 ((W .i64 (a1)).tmod (t3.1.f0.length : Int))), (12, .slice A6 x2.length c6)] ?_
        refine RL.nil (by kernel_rfl) ?_
        obtain rfl := Option.some.inj H
        exact QN.sb (hJ3 _ _ _ _ _ ⟨true, rfl, rfl, rfl, (Imm.le_refl _), HK3⟩) (.cons_cons _ (.cons_cons _ .slnil)) (.refl _)
       ·have hc := (not_not_intro (bne_eq_false_iff_eq.1 hb))
        rw [hb]
        rw [if_neg hc] at H; clear hb
        refine RL.simK (K' := [(102, .agg #[.slice A7 t4.1.f0.length c7, .slice A8 t4.1.f1.length c8, .slice A9 t4.1.f2.length c9]), (101, .bool false), (14, pt nx7 0), (2, .int .u16 a2), (7, .bool t1), (8, .slice A1 t2.length c1), (9, pt nx3 0), (11, i6 ((W .i64 (a1)).tmod (t3.1.f0.length : Int))), (12, .slice A6 x2.length c6)]) [] (RFacts.nil _ _ _) 1 [.l 1] (by kernel_rfl) (by kernel_rfl) ?_
        obtain ⟨t7, hA7, H⟩ := bnd H
        refine RL.callP 25 [.agg #[.slice A7 t4.1.f0.length c7, .slice A8 t4.1.f1.length c8, .slice A9 t4.1.f2.length c9]] (some 103) (fun w => armillarylaw23_shaped.Post I14 w t7) (by kernel_rfl) (by kernel_rfl) (fun w hs => armillarylaw23_shaped.calls I14 t4.1 A7 c7 A8 c8 A9 c9 w hs.im hl6 (Rd.ext (Imm.le_trans hi13 hi14) hr6) hl7 (Rd.ext hi14 hr7) hl8 hr8 t7 hA7) ?_
        rintro w v w' hs ⟨I20, rfl, hg⟩
        have hi20 := hg.le
        refine RL.resume (X' := []) rfl (hs.call hg) ?_
        clear hs hg
        generalize w'.heap.size = nx13
        clear w w'
        refine RL.s 3 [(106, .bool (!t7)), (14, pt nx7 0), (2, .int .u16 a2), (7, .bool t1), (8, .slice A1 t2.length c1), (9, pt nx3 0), (11, i6 ((W .i64 (a1)).tmod (t3.1.f0.length : Int))), (12, .slice A6 x2.length c6)] ?_
        refine RL.cases t7 (fun hb => ?_) (fun hb => ?_)
        ·have hc := hb
         rw [hb]
         rw [if_pos hc] at H; clear hb
         refine RL.simK (K' := [(110, .slice A7 t4.1.f0.length c7), (108, .slice A2 t3.1.f0.length c2), (106, .bool false), (14, pt nx7 0), (2, .int .u16 a2), (7, .bool t1), (8, .slice A1 t2.length c1), (9, pt nx3 0), (11, i6 ((W .i64 (a1)).tmod (t3.1.f0.length : Int))), (12, .slice A6 x2.length c6)]) [] (RFacts.nil _ _ _) 4 [.no, .l 0, .no, .l 1] (by kernel_rfl) (by kernel_rfl) ?_
         obtain ⟨t8, hA8, H⟩ := bnd H
         refine RL.callP 20 [.slice A2 t3.1.f0.length c2, .slice A7 t4.1.f0.length c7] (some 111) (fun w => armillarylaw23_sameInts.Post I20 w t8) (by kernel_rfl) (by kernel_rfl) (fun w hs => armillarylaw23_sameInts.calls k I20 t3.1.f0 A2 c2 t4.1.f0 A7 c7 w hs.im hl2 (Rd.ext (Imm.le_trans (Imm.le_trans (Imm.le_trans (Imm.le_trans (Imm.le_trans (Imm.le_trans (Imm.le_trans (Imm.le_trans (Imm.le_trans hi6 hi7) hi8) hi9) hi10) hi11) hi12) hi13) hi14) hi20) hr2) hl6 (Rd.ext (Imm.le_trans (Imm.le_trans hi13 hi14) hi20) hr6) t8 hA8) ?_
         rintro w v w' hs ⟨I21, rfl, hg⟩
         have hi21 := hg.le
         refine RL.resume (X' := []) rfl (hs.call hg) ?_
         clear hs hg
         generalize w'.heap.size = nx14
         clear w w'
         refine RL.s 2 [(113, .bool (!t8)), (14, pt nx7 0), (2, .int .u16 a2), (7, .bool t1), (8, .slice A1 t2.length c1), (9, pt nx3 0), (11, i6 ((W .i64 (a1)).tmod (t3.1.f0.length : Int))), (12, .slice A6 x2.length c6)] ?_
         refine RL.nil (by kernel_rfl) ?_
         obtain rfl := Option.some.inj H
         exact QN.sb (hJ3 _ _ _ _ _ ⟨(!t8), rfl, rfl, rfl, (Imm.le_trans hi20 hi21), HK3⟩) (.cons_cons _ (.cons_cons _ .slnil)) (.refl _)
        ·have hc := (Bool.eq_false_iff.1 hb)
         rw [hb]
         rw [if_neg hc] at H; clear hb
         refine RL.s 7 [(113, .bool true), (14, pt nx7 0), (2, .int .u16 a2), (7, .bool t1), (8, .slice A1 t2.length c1), (9, pt nx3 0), (11, i6 ((W .i64 (a1)).tmod (t3.1.f0.length : Int))), (12, .slice A6 x2.length c6)] ?_
         refine RL.nil (by kernel_rfl) ?_
         obtain rfl := Option.some.inj H
         exact QN.sb (hJ3 _ _ _ _ _ ⟨true, rfl, rfl, rfl, hi20, HK3⟩) (.cons_cons _ (.cons_cons _ .slnil)) (.refl _)
     ·intro Q_3 hJ2 hQ2
      obtain ⟨y2, H, HK2⟩ := bnd H
      refine OK.bk 0 ?_
      refine OK.sub (K' := [(2, .int .u16 a2), (7, .bool t1), (8, .slice A1 t2.length c1), (9, pt nx3 0), (11, i6 ((W .i64 (a1)).tmod (t3.1.f0.length : Int))), (12, .slice A5 ((([] : List S48) ++ t2).length) c5), (13, i6 0)]) (L' := [⟨nx3, [.slice A2 t3.1.f0.length c2, .slice A3 t3.1.f1.length c3, .slice A4 t3.1.f2.length c4], 29⟩]) (by kernel_rfl) (.cons_cons _ .slnil) (.refl _) ?_
      refine OK.lp (fun n_ K' I' _ L' X' => ∃ (x5 : List S48) (x6 : Int) (A10 : Option Addr) (c10 : Nat) (cs10 : List Value), K' = [(2, .int .u16 a2), (7, .bool t1), (8, .slice A1 t2.length c1), (9, pt nx3 0), (11, i6 ((W .i64 (a1)).tmod (t3.1.f0.length : Int))), (12, .slice A10 x5.length c10), (13, i6 x6)] ∧ L' = [⟨nx3, [.slice A2 t3.1.f0.length c2, .slice A3 t3.1.f1.length c3, .slice A4 t3.1.f2.length c4], 29⟩] ∧ X' = [orow 48 3 A10 x5.length c10 cs10] ∧ Imm.le I8 I' ∧ Reps t48 I' x5 cs10 ∧ armillarylaw23_AuctionRaised.l1 a1 a2 t3 n_ x5 x6 = some y2) k ⟨(([] : List S48) ++ t2), 0, A5, c5, cs5, rfl, rfl, rfl, (Imm.le_refl _), hp6, H⟩ ?_ ?_
      ·rintro _ _ _ _ _ ⟨x5, x6, A10, c10, cs10, rfl, rfl, rfl, _, hp11, H⟩
       cases H
      ·rintro kq1 _ I22 nx15 _ _ ⟨x5, x6, A10, c10, cs10, rfl, rfl, rfl, hi22, hp11, H⟩ Q_l1 hJ5 hQ5
       rw [armillarylaw23_AuctionRaised.l1] at H
       refine OK.sq ?_
       refine OK.sr ?_
       refine RL.st 4 [(55, .bool (decide (x6 < (x5.length : Int)))), (2, .int .u16 a2), (7, .bool t1), (8, .slice A1 t2.length c1), (9, pt nx3 0), (11, i6 ((W .i64 (a1)).tmod (t3.1.f0.length : Int))), (12, .slice A10 x5.length c10), (13, i6 x6)] ?_
       refine OK.cd (decide (x6 < (x5.length : Int))) (fun hb => ?_) (fun hb => ?_)
       ·skip
        have hc := (of_decide_eq_true hb)
        rw [if_pos hc] at H
        clear hb
        refine OK.skt ?_
        refine OK.sq ?_
        refine OK.bk 1 ?_
        refine OK.sq ?_
        refine OK.join (fun K' I' _ L' X' => ∃ (x7 : Bool), K' = [(2, .int .u16 a2), (7, .bool t1), (8, .slice A1 t2.length c1), (9, pt nx3 0), (11, i6 ((W .i64 (a1)).tmod (t3.1.f0.length : Int))), (12, .slice A10 x5.length c10), (13, i6 x6), (81, .bool x7)] ∧ L' = [⟨nx3, [.slice A2 t3.1.f0.length c2, .slice A3 t3.1.f1.length c3, .slice A4 t3.1.f2.length c4], 29⟩] ∧ X' = [orow 48 3 A10 x5.length c10 cs10] ∧ Imm.le I22 I' ∧ ((if x7 = true then (if 0 ≤ x6 then (if x6 < (x5.length : Int) then (if 0 ≤ x6 then (if x6 < (x5.length : Int) then (some (x5.set (x6).toNat (⟨(x5.getD (x6).toNat z48).f0, (x5.getD (x6).toNat z48).f1, W .i64 (((x5.getD (x6).toNat z48).f2) + (W .i64 (a2)))⟩ : S48))) else none) else none) else none) else none) else (some x5)).bind (fun x8 => (armillarylaw23_AuctionRaised.l1 a1 a2 t3 kq1 x8 (W .i64 (x6 + 1))))) = some y2) ?_ ?_
        ·rintro _ I23 nx16 _ _ ⟨x7, rfl, rfl, rfl, hi23, H⟩
         replace H : ((if x7 = true then (if 0 ≤ x6 then (if x6 < (x5.length : Int) then (if 0 ≤ x6 then (if x6 < (x5.length : Int) then (some (x5.set (x6).toNat (⟨(x5.getD (x6).toNat z48).f0, (x5.getD (x6).toNat z48).f1, W .i64 (((x5.getD (x6).toNat z48).f2) + (W .i64 (a2)))⟩ : S48))) else none) else none) else none) else none) else (some x5)).bind (fun x8 => (armillarylaw23_AuctionRaised.l1 a1 a2 t3 kq1 x8 (W .i64 (x6 + 1))))) = some y2 := H
         refine QN.then_ ?_
         refine OK.join (fun K' I' _ L' X' => ∃ (x8 : List S48) (A11 : Option Addr) (c11 : Nat) (cs11 : List Value), K' = [(2, .int .u16 a2), (7, .bool t1), (8, .slice A1 t2.length c1), (9, pt nx3 0), (11, i6 ((W .i64 (a1)).tmod (t3.1.f0.length : Int))), (12, .slice A11 x8.length c11), (13, i6 x6)] ∧ L' = [⟨nx3, [.slice A2 t3.1.f0.length c2, .slice A3 t3.1.f1.length c3, .slice A4 t3.1.f2.length c4], 29⟩] ∧ X' = [orow 48 3 A11 x8.length c11 cs11] ∧ Imm.le I23 I' ∧ Reps t48 I' x8 cs11 ∧ (armillarylaw23_AuctionRaised.l1 a1 a2 t3 kq1 x8 (W .i64 (x6 + 1))) = some y2) ?_ ?_
         ·rintro _ I24 nx17 _ _ ⟨x8, A11, c11, cs11, rfl, rfl, rfl, hi24, hp12, H⟩
          replace H : (armillarylaw23_AuctionRaised.l1 a1 a2 t3 kq1 x8 (W .i64 (x6 + 1))) = some y2 := H
          refine QN.blkN ?_
          refine QN.then_ ?_
          refine OK.rg ?_
          refine RL.s 3 [(13, i6 (W .i64 (x6 + 1))), (2, .int .u16 a2), (7, .bool t1), (8, .slice A1 t2.length c1), (9, pt nx3 0), (11, i6 ((W .i64 (a1)).tmod (t3.1.f0.length : Int))), (12, .slice A11 x8.length c11)] ?_
          refine RL.nil (by kernel_rfl) ?_
          exact QN.sb (hJ5 _ _ _ _ _ ⟨x8, W .i64 (x6 + 1), A11, c11, cs11, rfl, rfl, rfl, (Imm.le_trans (Imm.le_trans hi22 hi23) hi24), hp12, H⟩) (.cons_cons _ .slnil) (.refl _)
         ·intro Q_4 hJ7 hQ7
          obtain ⟨y6, H, HK6⟩ := bnd H
          refine OK.cd x7 (fun hb => ?_) (fun hb => ?_)
          ·skip
           have hc := hb
           rw [if_pos hc] at H
           clear hb
           refine OK.rg ?_
           refine RL.s 4 [(85, i6 x6), (84, .slice A10 x5.length c10), (83, i6 x6), (82, .slice A10 x5.length c10), (2, .int .u16 a2), (7, .bool t1), (8, .slice A1 t2.length c1), (9, pt nx3 0), (11, i6 ((W .i64 (a1)).tmod (t3.1.f0.length : Int))), (12, .slice A10 x5.length c10), (13, i6 x6)] ?_
           obtain ⟨hib0, H⟩ := ifs H
           obtain ⟨hib1, H⟩ := ifs H
           have hx06_ := hib0; have hx16_ := hib1
           refine RL.ownAddr (e := 48) (sz := 3) (S := A10) (n := x5.length) (cap := c10) (cs := cs10) 0 (by kernel_rfl) (by omega) (fun g6_ hA6_ => ?_)
           have hc6_ := t48_own (Reps.ext hi23 hp11) x6 hib0 hib1
           refine RL.idx 3 .i64 x6 hA6_ x5.length c10 (some 86) (by kernel_rfl) (by kernel_rfl) (T := 22) (e := 48) (by kernel_rfl) (by kernel_rfl) hib0 hib1 (K' := [(86, pt g6_ (0 + (x6).toNat * 3)), (85, i6 x6), (84, .slice A10 x5.length c10), (83, i6 x6), (82, .slice A10 x5.length c10), (2, .int .u16 a2), (7, .bool t1), (8, .slice A1 t2.length c1), (9, pt nx3 0), (11, i6 ((W .i64 (a1)).tmod (t3.1.f0.length : Int))), (12, .slice A10 x5.length c10), (13, i6 x6)]) (by kernel_rfl) ?_
           refine RL.simK (K' := [(91, i6 (W .i64 (((x5.getD (x6).toNat z48).f2) + (W .i64 (a2))))), (83, i6 x6), (82, .slice A10 x5.length c10), (2, .int .u16 a2), (7, .bool t1), (8, .slice A1 t2.length c1), (9, pt nx3 0), (11, i6 ((W .i64 (a1)).tmod (t3.1.f0.length : Int))), (12, .slice A10 x5.length c10), (13, i6 x6)]) [(⟨g6_, 0 + (x6).toNat * 3 + 2, none⟩, i6 ((x5.getD (x6).toNat z48).f2))] (RFacts.ownQ (e := 48) (sz := 3) (S := A10) (n := x5.length) (cap := c10) (cs := cs10) 0 (by kernel_rfl) hA6_ (0 + (x6).toNat * 3 + 2) ((x6).toNat * 3 + 2) (by omega) (hc6_ 2 _ rfl) (RFacts.nil _ _ _)) 5 [.no, .r 0, .no, .no, .no] (by kernel_rfl) (by kernel_rfl) ?_
           obtain ⟨hib0, H⟩ := ifs H
           obtain ⟨hib1, H⟩ := ifs H
           have hx07_ := hib0; have hx17_ := hib1
           refine RL.ownAddr (e := 48) (sz := 3) (S := A10) (n := x5.length) (cap := c10) (cs := cs10) 0 (by kernel_rfl) (by omega) (fun g7_ hA7_ => ?_)
           have hc7_ := t48_own (Reps.ext hi23 hp11) x6 hib0 hib1
           refine RL.idx 3 .i64 x6 hA7_ x5.length c10 (some 92) (by kernel_rfl) (by kernel_rfl) (T := 22) (e := 48) (by kernel_rfl) (by kernel_rfl) hib0 hib1 (K' := [(92, pt g7_ (0 + (x6).toNat * 3)), (91, i6 (W .i64 (((x5.getD (x6).toNat z48).f2) + (W .i64 (a2))))), (83, i6 x6), (82, .slice A10 x5.length c10), (2, .int .u16 a2), (7, .bool t1), (8, .slice A1 t2.length c1), (9, pt nx3 0), (11, i6 ((W .i64 (a1)).tmod (t3.1.f0.length : Int))), (12, .slice A10 x5.length c10), (13, i6 x6)]) (by kernel_rfl) ?_
           refine RL.s 1 [(93, pt g7_ (0 + (x6).toNat * 3 + 2)), (91, i6 (W .i64 (((x5.getD (x6).toNat z48).f2) + (W .i64 (a2))))), (2, .int .u16 a2), (7, .bool t1), (8, .slice A1 t2.length c1), (9, pt nx3 0), (11, i6 ((W .i64 (a1)).tmod (t3.1.f0.length : Int))), (12, .slice A10 x5.length c10), (13, i6 x6)] ?_
           refine RL.storeF (T := 2) (e := 48) 3 0 hA7_ c10 x6 2 cs10 [i6 ((x5.getD (x6).toNat z48).f0), i6 ((x5.getD (x6).toNat z48).f1), i6 ((x5.getD (x6).toNat z48).f2)] (i6 (W .i64 (((x5.getD (x6).toNat z48).f2) + (W .i64 (a2))))) t48 x5 (⟨(x5.getD (x6).toNat z48).f0, (x5.getD (x6).toNat z48).f1, W .i64 (((x5.getD (x6).toNat z48).f2) + (W .i64 (a2)))⟩ : S48) (by kernel_rfl) (by kernel_rfl) (by kernel_rfl) rfl rfl rfl (by decide) rfl hc7_ (t48_mk _ _) (by kernel_rfl) (Reps.ext hi23 hp11) hx07_ hx17_ (fun cs12 hp13 => ?_)
           refine RL.sub (K' := [(91, i6 (W .i64 (((x5.getD (x6).toNat z48).f2) + (W .i64 (a2))))), (2, .int .u16 a2), (7, .bool t1), (8, .slice A1 t2.length c1), (9, pt nx3 0), (11, i6 ((W .i64 (a1)).tmod (t3.1.f0.length : Int))), (12, .slice A10 x5.length c10), (13, i6 x6)]) (L' := [⟨nx3, [.slice A2 t3.1.f0.length c2, .slice A3 t3.1.f1.length c3, .slice A4 t3.1.f2.length c4], 29⟩]) (X' := [orow 48 3 A10 ((x5.set (x6).toNat (⟨(x5.getD (x6).toNat z48).f0, (x5.getD (x6).toNat z48).f1, W .i64 (((x5.getD (x6).toNat z48).f2) + (W .i64 (a2)))⟩ : S48)).length) c10 cs12]) (by kernel_rfl) (.refl _) (.refl _) ?_
           refine RL.norm (K' := [(91, i6 (W .i64 (((x5.getD (x6).toNat z48).f2) + (W .i64 (a2))))), (2, .int .u16 a2), (7, .bool t1), (8, .slice A1 t2.length c1), (9, pt nx3 0), (11, i6 ((W .i64 (a1)).tmod (t3.1.f0.length : Int))), (12, .slice A10 ((x5.set (x6).toNat (⟨(x5.getD (x6).toNat z48).f0, (x5.getD (x6).toNat z48).f1, W .i64 (((x5.getD (x6).toNat z48).f2) + (W .i64 (a2)))⟩ : S48)).length) c10), (13, i6 x6)]) (L' := [⟨nx3, [.slice A2 t3.1.f0.length c2, .slice A3 t3.1.f1.length c3, .slice A4 t3.1.f2.length c4], 29⟩]) (by simp only [List.length_set]) rfl (by first | rfl | simp only [List.length_set]) rfl ?_
           refine RL.nil (by kernel_rfl) ?_
           refine QN.sub (K' := [(2, .int .u16 a2), (7, .bool t1), (8, .slice A1 t2.length c1), (9, pt nx3 0), (11, i6 ((W .i64 (a1)).tmod (t3.1.f0.length : Int))), (12, .slice A10 ((x5.set (x6).toNat (⟨(x5.getD (x6).toNat z48).f0, (x5.getD (x6).toNat z48).f1, W .i64 (((x5.getD (x6).toNat z48).f2) + (W .i64 (a2)))⟩ : S48)).length) c10), (13, i6 x6)]) (L' := [⟨nx3, [.slice A2 t3.1.f0.length c2, .slice A3 t3.1.f1.length c3, .slice A4 t3.1.f2.length c4], 29⟩]) (by kernel_rfl) (.cons_cons _ .slnil) (.refl _) ?_
           obtain rfl := Option.some.inj H
           exact QN.sb (hJ7 _ _ _ _ _ ⟨x5.set (x6).toNat (⟨(x5.getD (x6).toNat z48).f0, (x5.getD (x6).toNat z48).f1, W .i64 (((x5.getD (x6).toNat z48).f2) + (W .i64 (a2)))⟩ : S48), A10, c10, cs12, rfl, rfl, rfl, (Imm.le_refl _), hp13, HK6⟩) (.cons_cons _ .slnil) (.refl _)
          ·skip
           have hc := (Bool.eq_false_iff.1 hb)
           rw [if_neg hc] at H
           clear hb
           refine OK.sk ?_
           obtain rfl := Option.some.inj H
           exact QN.sb (hJ7 _ _ _ _ _ ⟨x5, A10, c10, cs10, rfl, rfl, rfl, (Imm.le_refl _), (Reps.ext hi23 hp11), HK6⟩) (.cons_cons _ .slnil) (.refl _)
        ·intro Q_5 hJ6 hQ6
         obtain ⟨y5, H, HK5⟩ := bnd H
         obtain ⟨hi0_5, H⟩ := ifs H
         obtain ⟨hi1_5, H⟩ := ifs H
         refine OK.ownAddr (e := 48) (sz := 3) (S := A10) (n := x5.length) (cap := c10) (cs := cs10) 0 (by kernel_rfl) (by omega) (fun g8_ hA8_ => ?_)
         have hc8_ := t48_own hp11 x6 hi0_5 hi1_5
         have hx08_ := hi0_5; have hx18_ := hi1_5
         obtain ⟨hi0_6, H⟩ := ifs H
         obtain ⟨hi1_6, H⟩ := ifs H
         obtain ⟨g9_, o9_, hA9_, hc9_⟩ := Ty.int_at (Rd.ext (Imm.le_trans (Imm.le_trans (Imm.le_trans hi6 hi7) hi8) hi22) hr2) ((W .i64 (a1)).tmod (t3.1.f0.length : Int)) hi0_6 hi1_6
         refine OK.cases (((x5.getD (x6).toNat z48).f0) == (t3.1.f0.getD ((W .i64 (a1)).tmod (t3.1.f0.length : Int)).toNat 0)) (fun hb3 => ?_) (fun hb3 => ?_)
         ·have hc3 := (beq_iff_eq.1 hb3)
          rw [if_pos hc3] at H
          obtain ⟨hi0_7, H⟩ := ifs H
          obtain ⟨hi1_7, H⟩ := ifs H
          refine OK.ownAddr (e := 48) (sz := 3) (S := A10) (n := x5.length) (cap := c10) (cs := cs10) 0 (by kernel_rfl) (by omega) (fun g10_ hA10_ => ?_)
          have hc10_ := t48_own hp11 x6 hi0_7 hi1_7
          have hx010_ := hi0_7; have hx110_ := hi1_7
          obtain ⟨hi0_8, H⟩ := ifs H
          obtain ⟨hi1_8, H⟩ := ifs H
          obtain ⟨g11_, o11_, hA11_, hc11_⟩ := Ty.int_at (Rd.ext (Imm.le_trans (Imm.le_trans hi7 hi8) hi22) hr3) ((W .i64 (a1)).tmod (t3.1.f0.length : Int)) hi0_8 hi1_8
          refine OK.drawnC 15 22 O9_64 a9_64n (by kernel_rfl) (by kernel_rfl) u9d4l (u9d4g a1 t3 x6 g8_ g9_ o9_ g10_ g11_ o11_) [(⟨g8_, 0 + (x6).toNat * 3, none⟩, i6 ((x5.getD (x6).toNat z48).f0)), (⟨g9_, o9_ + ((W .i64 (a1)).tmod (t3.1.f0.length : Int)).toNat * 1, none⟩, i6 (t3.1.f0.getD ((W .i64 (a1)).tmod (t3.1.f0.length : Int)).toNat 0)), (⟨g10_, 0 + (x6).toNat * 3 + 1, none⟩, i6 ((x5.getD (x6).toNat z48).f1)), (⟨g11_, o11_ + ((W .i64 (a1)).tmod (t3.1.f0.length : Int)).toNat * 1, none⟩, i6 (t3.1.f1.getD ((W .i64 (a1)).tmod (t3.1.f0.length : Int)).toNat 0))] (RI.own (e := 48) (sz := 3) (S := A10) (n := x5.length) (cap := c10) (cs := cs10) 0 (by kernel_rfl) hA8_ (0 + (x6).toNat * 3) ((x6).toNat * 3 + 0) (by omega) (hc8_ 0 _ rfl) (RI.cons (hc9_ 0 _ rfl) (RI.own (e := 48) (sz := 3) (S := A10) (n := x5.length) (cap := c10) (cs := cs10) 0 (by kernel_rfl) hA10_ (0 + (x6).toNat * 3 + 1) ((x6).toNat * 3 + 1) (by omega) (hc10_ 1 _ rfl) (RI.cons (hc11_ 0 _ rfl) (RI.nil _))))) [.no, .no, .no, .no, .r 0, .no, .l 0, .no, .no, .r 1, .no, .no, .no, .no, .no, .no, .r 2, .no, .l 0, .no, .no, .r 3] a9_64 a9_64o (by kernel_rfl) (by kernel_rfl) (u9d4s a1 t3 A2 c2 A3 c3 nx3 x5 A10 c10 x6 g8_ g9_ o9_ g10_ g11_ o11_) (u9d4f a1 a2 t1 t2 A1 c1 t3 A2 c2 A3 c3 nx3 x5 A10 c10 x6 g8_ g9_ o9_ g10_ g11_ o11_ 22) (u9d4v a1 a2 t1 t2 A1 c1 t3 A2 c2 A3 c3 A4 c4 nx3 x5 A10 c10 x6 g8_ g9_ o9_ g10_ g11_ o11_) (u9d4e a1 a2 t1 t2 A1 c1 t3 A2 c2 A3 c3 A4 c4 nx3 x5 A10 c10 x6 g8_ g9_ o9_ g10_ g11_ o11_) [] framesOk.nil ?_ [u9d4f a1 a2 t1 t2 A1 c1 t3 A2 c2 A3 c3 nx3 x5 A10 c10 x6 g8_ g9_ o9_ g10_ g11_ o11_ 2, u9d4f a1 a2 t1 t2 A1 c1 t3 A2 c2 A3 c3 nx3 x5 A10 c10 x6 g8_ g9_ o9_ g10_ g11_ o11_ 8, u9d4f a1 a2 t1 t2 A1 c1 t3 A2 c2 A3 c3 nx3 x5 A10 c10 x6 g8_ g9_ o9_ g10_ g11_ o11_ 11, u9d4f a1 a2 t1 t2 A1 c1 t3 A2 c2 A3 c3 nx3 x5 A10 c10 x6 g8_ g9_ o9_ g10_ g11_ o11_ 14, u9d4f a1 a2 t1 t2 A1 c1 t3 A2 c2 A3 c3 nx3 x5 A10 c10 x6 g8_ g9_ o9_ g10_ g11_ o11_ 20] (framesOk.cons (fun u => rfl) (framesOk.cons (fun u => rfl) (framesOk.cons (fun u => rfl) (framesOk.cons (fun u => rfl) (framesOk.cons (fun u => rfl) framesOk.nil))))) ?_ ?_
          ·refine LoudsG.nil
          ·refine Givens.cons (fun u w =>  ?_) (fun _ _ _ => rfl) (Givens.cons (fun u w =>  ?_) (fun _ _ _ => rfl) (Givens.cons (fun u w =>  ?_) (fun _ _ _ => rfl) (Givens.cons (fun u w =>  ?_) (fun _ _ _ => rfl) (Givens.cons (fun u w =>  ?_) (fun _ _ _ => rfl) (Givens.nil)))))
           ·exact giv_idx (T := 22) (e := 48) 3 .i64 x6 hA8_ x5.length c10 (by kernel_rfl) (by kernel_rfl) (by kernel_rfl) hi0_5 hi1_5 w
           ·exact giv_idx (T := 26) (e := 3) 1 .i64 ((W .i64 (a1)).tmod (t3.1.f0.length : Int)) hA9_ t3.1.f0.length c2 (by kernel_rfl) (by kernel_rfl) (by kernel_rfl) hi0_6 hi1_6 w
           ·exact giv_run (v := .bool (((x5.getD (x6).toNat z48).f0) == (t3.1.f0.getD ((W .i64 (a1)).tmod (t3.1.f0.length : Int)).toNat 0))) (by kernel_rfl) (by rw [hb3]; try rfl) w
           ·exact giv_idx (T := 22) (e := 48) 3 .i64 x6 hA10_ x5.length c10 (by kernel_rfl) (by kernel_rfl) (by kernel_rfl) hi0_7 hi1_7 w
           ·exact giv_idx (T := 26) (e := 3) 1 .i64 ((W .i64 (a1)).tmod (t3.1.f0.length : Int)) hA11_ t3.1.f1.length c3 (by kernel_rfl) (by kernel_rfl) (by kernel_rfl) hi0_8 hi1_8 w
          intro u I25 nx18 hi25 hF
          clear hF
          refine RL.norm (K' := ((79, i6 (t3.1.f1.getD ((W .i64 (a1)).tmod (t3.1.f0.length : Int)).toNat 0)) :: (78, pt g11_ (o11_ + ((W .i64 (a1)).tmod (t3.1.f0.length : Int)).toNat * 1)) :: (77, i6 ((W .i64 (a1)).tmod (t3.1.f0.length : Int))) :: (76, .slice A3 t3.1.f1.length c3) :: (75, pt nx3 1) :: (74, i6 ((x5.getD (x6).toNat z48).f1)) :: (73, pt g10_ (0 + (x6).toNat * 3 + 1)) :: (72, pt g10_ (0 + (x6).toNat * 3)) :: (71, i6 x6) :: (70, .slice A10 x5.length c10) :: (69, .bool true) :: (68, .bool (((x5.getD (x6).toNat z48).f0) == (t3.1.f0.getD ((W .i64 (a1)).tmod (t3.1.f0.length : Int)).toNat 0))) :: (67, i6 (t3.1.f0.getD ((W .i64 (a1)).tmod (t3.1.f0.length : Int)).toNat 0)) :: (66, pt g9_ (o9_ + ((W .i64 (a1)).tmod (t3.1.f0.length : Int)).toNat * 1)) :: (65, i6 ((W .i64 (a1)).tmod (t3.1.f0.length : Int))) :: (64, .slice A2 t3.1.f0.length c2) :: (63, pt nx3 0) :: (62, i6 ((x5.getD (x6).toNat z48).f0)) :: (61, pt g8_ (0 + (x6).toNat * 3)) :: (60, pt g8_ (0 + (x6).toNat * 3)) :: (59, i6 x6) :: (58, .slice A10 x5.length c10) :: (55, .bool (decide (x6 < (x5.length : Int)))) :: (2, .int .u16 a2) :: (7, .bool t1) :: (8, .slice A1 t2.length c1) :: (9, pt nx3 0) :: (11, i6 ((W .i64 (a1)).tmod (t3.1.f0.length : Int))) :: (12, .slice A10 x5.length c10) :: (13, i6 x6) :: [])) (X' := [orow 48 3 A10 x5.length c10 cs10]) (by kernel_rfl) rfl rfl rfl ?_
          refine RL.s 2 [(81, .bool (((x5.getD (x6).toNat z48).f1) == (t3.1.f1.getD ((W .i64 (a1)).tmod (t3.1.f0.length : Int)).toNat 0))), (2, .int .u16 a2), (7, .bool t1), (8, .slice A1 t2.length c1), (9, pt nx3 0), (11, i6 ((W .i64 (a1)).tmod (t3.1.f0.length : Int))), (12, .slice A10 x5.length c10), (13, i6 x6)] ?_
          refine RL.nil (by kernel_rfl) ?_
          obtain rfl := Option.some.inj H
          exact QN.sb (hJ6 _ _ _ _ _ ⟨(((x5.getD (x6).toNat z48).f1) == (t3.1.f1.getD ((W .i64 (a1)).tmod (t3.1.f0.length : Int)).toNat 0)), rfl, rfl, rfl, hi25, HK5⟩) (.cons_cons _ .slnil) (.refl _)
         ·have hc3 := (beq_eq_false_iff_ne.1 hb3)
          rw [if_neg hc3] at H
          refine OK.drawnC 15 22 O9_64 a9_64n (by kernel_rfl) (by kernel_rfl) u9d5l (u9d5g a1 t3 x6 g8_ g9_ o9_) [(⟨g8_, 0 + (x6).toNat * 3, none⟩, i6 ((x5.getD (x6).toNat z48).f0)), (⟨g9_, o9_ + ((W .i64 (a1)).tmod (t3.1.f0.length : Int)).toNat * 1, none⟩, i6 (t3.1.f0.getD ((W .i64 (a1)).tmod (t3.1.f0.length : Int)).toNat 0))] (RI.own (e := 48) (sz := 3) (S := A10) (n := x5.length) (cap := c10) (cs := cs10) 0 (by kernel_rfl) hA8_ (0 + (x6).toNat * 3) ((x6).toNat * 3 + 0) (by omega) (hc8_ 0 _ rfl) (RI.cons (hc9_ 0 _ rfl) (RI.nil _))) [.no, .no, .no, .no, .r 0, .no, .l 0, .no, .no, .r 1, .no, .no, .no, .no, .no, .no, .no, .no, .no, .no, .no, .no] a9_64 a9_64o (by kernel_rfl) (by kernel_rfl) (u9d5s a1 t3 A2 c2 nx3 x5 A10 c10 x6 g8_ g9_ o9_) (u9d5f a1 a2 t1 t2 A1 c1 t3 A2 c2 nx3 x5 A10 c10 x6 g8_ g9_ o9_ 22) (u9d5v a1 a2 t1 t2 A1 c1 t3 A2 c2 A3 c3 A4 c4 nx3 x5 A10 c10 x6 g8_ g9_ o9_) (u9d5e a1 a2 t1 t2 A1 c1 t3 A2 c2 A3 c3 A4 c4 nx3 x5 A10 c10 x6 g8_ g9_ o9_) [] framesOk.nil ?_ [u9d5f a1 a2 t1 t2 A1 c1 t3 A2 c2 nx3 x5 A10 c10 x6 g8_ g9_ o9_ 2, u9d5f a1 a2 t1 t2 A1 c1 t3 A2 c2 nx3 x5 A10 c10 x6 g8_ g9_ o9_ 8, u9d5f a1 a2 t1 t2 A1 c1 t3 A2 c2 nx3 x5 A10 c10 x6 g8_ g9_ o9_ 11] (framesOk.cons (fun u => rfl) (framesOk.cons (fun u => rfl) (framesOk.cons (fun u => rfl) framesOk.nil))) ?_ ?_
          ·refine LoudsG.nil
          ·refine Givens.cons (fun u w =>  ?_) (fun _ _ _ => rfl) (Givens.cons (fun u w =>  ?_) (fun _ _ _ => rfl) (Givens.cons (fun u w =>  ?_) (fun _ _ _ => rfl) (Givens.nil)))
           ·exact giv_idx (T := 22) (e := 48) 3 .i64 x6 hA8_ x5.length c10 (by kernel_rfl) (by kernel_rfl) (by kernel_rfl) hi0_5 hi1_5 w
           ·exact giv_idx (T := 26) (e := 3) 1 .i64 ((W .i64 (a1)).tmod (t3.1.f0.length : Int)) hA9_ t3.1.f0.length c2 (by kernel_rfl) (by kernel_rfl) (by kernel_rfl) hi0_6 hi1_6 w
           ·exact giv_run (v := .bool (((x5.getD (x6).toNat z48).f0) == (t3.1.f0.getD ((W .i64 (a1)).tmod (t3.1.f0.length : Int)).toNat 0))) (by kernel_rfl) (by rw [hb3]; try rfl) w
          intro u I26 nx19 hi26 hF
          clear hF
          refine RL.norm (K' := ((79, undef) :: (78, undef) :: (77, undef) :: (76, undef) :: (75, undef) :: (74, undef) :: (73, undef) :: (72, undef) :: (71, undef) :: (70, undef) :: (69, .bool false) :: (68, .bool (((x5.getD (x6).toNat z48).f0) == (t3.1.f0.getD ((W .i64 (a1)).tmod (t3.1.f0.length : Int)).toNat 0))) :: (67, i6 (t3.1.f0.getD ((W .i64 (a1)).tmod (t3.1.f0.length : Int)).toNat 0)) :: (66, pt g9_ (o9_ + ((W .i64 (a1)).tmod (t3.1.f0.length : Int)).toNat * 1)) :: (65, i6 ((W .i64 (a1)).tmod (t3.1.f0.length : Int))) :: (64, .slice A2 t3.1.f0.length c2) :: (63, pt nx3 0) :: (62, i6 ((x5.getD (x6).toNat z48).f0)) :: (61, pt g8_ (0 + (x6).toNat * 3)) :: (60, pt g8_ (0 + (x6).toNat * 3)) :: (59, i6 x6) :: (58, .slice A10 x5.length c10) :: (55, .bool (decide (x6 < (x5.length : Int)))) :: (2, .int .u16 a2) :: (7, .bool t1) :: (8, .slice A1 t2.length c1) :: (9, pt nx3 0) :: (11, i6 ((W .i64 (a1)).tmod (t3.1.f0.length : Int))) :: (12, .slice A10 x5.length c10) :: (13, i6 x6) :: [])) (X' := [orow 48 3 A10 x5.length c10 cs10]) (by kernel_rfl) rfl rfl rfl ?_
          refine RL.s 2 [(81, .bool false), (2, .int .u16 a2), (7, .bool t1), (8, .slice A1 t2.length c1), (9, pt nx3 0), (11, i6 ((W .i64 (a1)).tmod (t3.1.f0.length : Int))), (12, .slice A10 x5.length c10), (13, i6 x6)] ?_
          refine RL.nil (by kernel_rfl) ?_
          obtain rfl := Option.some.inj H
          exact QN.sb (hJ6 _ _ _ _ _ ⟨false, rfl, rfl, rfl, hi26, HK5⟩) (.cons_cons _ .slnil) (.refl _)
       ·skip
        have hc := (of_decide_eq_false hb)
        rw [if_neg hc] at H
        clear hb
        refine OK.ex 0 ?_
        refine QN.thenE ?_
        refine QN.outE hQ5 ?_
        refine QN.blkE ?_
        obtain rfl := Option.some.inj H
        exact QN.sb (hJ2 _ _ _ _ _ ⟨x5, A10, c10, cs10, rfl, rfl, rfl, hi22, hp11, HK2⟩) (.cons_cons _ .slnil) (.refl _)
 ·intro Q_6 hJ1 hQ1
  obtain ⟨y1, H, HK1⟩ := bnd H
  refine OK.rg ?_
  refine RL.s 3 [(26, .bool (t3.2 != 0)), (9, pt nx3 0), (8, .slice A1 t2.length c1), (7, .bool t1), (1, .int .u8 a1), (2, .int .u16 a2)] ?_
  refine RL.cases (t3.2 != 0) (fun hb => ?_) (fun hb => ?_)
  ·have hc := (bne_iff_ne.1 hb)
   rw [hb]
   rw [if_pos hc] at H; clear hb
   refine RL.s 4 [(30, .bool true), (9, pt nx3 0), (8, .slice A1 t2.length c1), (7, .bool t1), (1, .int .u8 a1), (2, .int .u16 a2)] ?_
   refine RL.nil (by kernel_rfl) ?_
   obtain rfl := Option.some.inj H
   exact QN.sb (hJ1 _ _ _ _ _ ⟨true, rfl, rfl, rfl, (Imm.le_refl _), HK1⟩) (.cons_cons _ .slnil) (.refl _)
  ·have hc := (not_not_intro (bne_eq_false_iff_eq.1 hb))
   rw [hb]
   rw [if_neg hc] at H; clear hb
   refine RL.simK (K' := [(27, .agg #[.slice A2 t3.1.f0.length c2, .slice A3 t3.1.f1.length c3, .slice A4 t3.1.f2.length c4]), (26, .bool false), (9, pt nx3 0), (8, .slice A1 t2.length c1), (7, .bool t1), (1, .int .u8 a1), (2, .int .u16 a2)]) [] (RFacts.nil _ _ _) 1 [.l 0] (by kernel_rfl) (by kernel_rfl) ?_
   obtain ⟨t9, hA9, H⟩ := bnd H
   refine RL.callP 25 [.agg #[.slice A2 t3.1.f0.length c2, .slice A3 t3.1.f1.length c3, .slice A4 t3.1.f2.length c4]] (some 28) (fun w => armillarylaw23_shaped.Post I7 w t9) (by kernel_rfl) (by kernel_rfl) (fun w hs => armillarylaw23_shaped.calls I7 t3.1 A2 c2 A3 c3 A4 c4 w hs.im hl2 (Rd.ext (Imm.le_trans hi6 hi7) hr2) hl3 (Rd.ext hi7 hr3) hl4 hr4 t9 hA9) ?_
   rintro w v w' hs ⟨I27, rfl, hg⟩
   have hi27 := hg.le
   refine RL.resume (X' := []) rfl (hs.call hg) ?_
   clear hs hg
   generalize w'.heap.size = nx20
   clear w w'
   refine RL.s 2 [(30, .bool (!t9)), (9, pt nx3 0), (8, .slice A1 t2.length c1), (7, .bool t1), (1, .int .u8 a1), (2, .int .u16 a2)] ?_
   refine RL.nil (by kernel_rfl) ?_
   obtain rfl := Option.some.inj H
   exact QN.sb (hJ1 _ _ _ _ _ ⟨(!t9), rfl, rfl, rfl, hi27, HK1⟩) (.cons_cons _ .slnil) (.refl _)

end Go.Proofs.Ytihmbmeelheinaa
namespace Go.Proofs.Ytihmbmeelheinaa
open Go Go.Proofs.Ytihmbmeelheinaa.RW Go.Proofs.Ytihmbmeelheinaa.auc
open Go.Proofs.Ytihmbmeelheinaa.hun (g sm Solved)
set_option linter.unusedVariables false
theorem raised_l1 {l : List S48} (h : okG 36 1048576 l) {t : S29 × Int} {a b w s : Int} {i : Nat} (hi : i < t.1.f0.length) (hi1 : i < t.1.f1.length) (hidx : (W .i64 a).tmod (t.1.f0.length : Int) = ((i : Nat) : Int)) (hw : t.1.f0.getD i 0 = w) (hs : t.1.f1.getD i 0 = s) (hb : 0 ≤ b ∧ b < 65536) :
  ∀ (q n : Nat), q + n = l.length → Ev (fun f => armillarylaw23_AuctionRaised.l1 a b t f (rsd w s b (l.take n) ++ l.drop n) (n : Int)) (rsd w s b l)
 | 0, n, e => by
  refine Ev.succ (g := fun _ => some (rsd w s b (l.take n) ++ l.drop n)) (fun f => by rw [armillarylaw23_AuctionRaised.l1, if_neg (by simp only [List.length_append, List.length_map, List.length_take, List.length_drop]; omega)]) (Ev.const ?_)
  rw [List.take_of_length_le (by omega), List.drop_eq_nil_of_le (by omega), List.append_nil]
 | q + 1, n, e => by
  have hl := h.len
  have hn : n < l.length := by omega
  have ih := raised_l1 h hi hi1 hidx hw hs hb q (n + 1) (by omega)
  have hv := h.vb l[n] (List.getElem_mem hn)
  have hz : (rsd w s b (l.take n)).length = n := by rw [List.length_map, List.length_take]; omega
  have ez : rsd w s b (l.take (n + 1)) ++ l.drop (n + 1) = rsd w s b (l.take n) ++ rsf w s b l[n] :: l.drop (n + 1) := by
   have : l.take (n + 1) = l.take n ++ [l[n]] := (List.take_append_getElem hn).symm
   unfold rsd
   rw [this, List.map_append, List.append_assoc]
   rfl
  rw [ez] at ih
  rw [List.drop_eq_getElem_cons hn]
  obtain ⟨A, hA⟩ : ∃ A, rsd w s b (l.take n) = A := ⟨_, rfl⟩
  rw [hA] at ih hz ⊢
  have hg : (A ++ l[n] :: l.drop (n + 1)).getD n z48 = l[n] := by
   rw [List.getD_eq_getElem?_getD, List.getElem?_append_right (by omega), hz, Nat.sub_self]
   rfl
  have hset : ∀ y, (A ++ l[n] :: l.drop (n + 1)).set n y = A ++ y :: l.drop (n + 1) := fun y => by
   have := set_mid A (l.drop (n + 1)) l[n] y
   rw [hz] at this
   exact this
  have cl : (n : Int) < ((A ++ l[n] :: l.drop (n + 1)).length : Int) := by simp only [List.length_append, List.length_cons]; omega
  have cp : (0 : Int) ≤ (n : Int) := by omega
  have ci : (0 : Int) ≤ (i : Int) := by omega
  have c0 : (i : Int) < (t.1.f0.length : Int) := by omega
  have c1 : (i : Int) < (t.1.f1.length : Int) := by omega
  refine Ev.succ (fun f => by rw [armillarylaw23_AuctionRaised.l1, if_pos cl, hidx, Wn (by omega), tn, tn, hg, hw, hs]) ?_
  refine Ev.bind1 (r := decide ((l[n]).f0 = w ∧ (l[n]).f1 = s)) ?_ (Ev.bind1 (r := A ++ rsf w s b l[n] :: l.drop (n + 1)) ?_ ih)
  ·rw [if_pos cp, if_pos cl, if_pos ci, if_pos c0]
   by_cases h0 : (l[n]).f0 = w
   ·rw [if_pos h0, if_pos cp, if_pos cl, if_pos ci, if_pos c1]
    simp only [h0, true_and]
    rfl
   ·rw [if_neg h0]
    simp only [h0, false_and, decide_false]
  ·by_cases hc : (l[n]).f0 = w ∧ (l[n]).f1 = s
   ·rw [if_pos (by simpa using hc), if_pos cp, if_pos cl, if_pos cp, if_pos cl, hset]
    unfold rsf
    rw [if_pos hc, W64 (x := b) (by omega) (by omega), W64 (by omega) (by omega)]
   ·rw [if_neg (by simpa using hc)]
    unfold rsf
    rw [if_neg hc]
theorem tot_raise {V V' : Int → Int → Int} {W : List Int} {w s b : Int} (hn : W.Nodup) (hw : w ∈ W) (e : ∀ v t, V' v t = V v t + if v = w ∧ t = s then b else 0) (σ : Int → Option Int) : tot V' σ W = tot V σ W + if σ w = some s then b else 0 := by
 have h1 : tot V' σ W = pay V' σ w + tot V' σ (but W w) := sum_but hn hw
 have h2 : tot V σ W = pay V σ w + tot V σ (but W w) := sum_but hn hw
 have h3 : tot V' σ (but W w) = tot V σ (but W w) := sum_congr (fun v hv => by
  have := (but_mem.1 hv).2
  unfold pay
  cases σ v with
  | none => rfl
  | some t =>
   show V' v t = V v t
   rw [e, if_neg (fun h => this h.1), Int.add_zero])
 have h4 : pay V' σ w = pay V σ w + if σ w = some s then b else 0 := by
  unfold pay
  cases hσ : σ w with
  | none => simp
  | some t =>
   show V' w t = V w t + if some t = some s then b else 0
   rw [e]
   simp
 rw [h1, h2, h3, h4]
 omega
theorem armillarylaw23_AuctionRaised_holds (a0 : List S48) (a1 a2 : Int) (hp0 : ∀ x ∈ a0, p48 x) (h0 : a0.length ≤ 9223372036854775807) (w1 : (Lit.int .u8 a1).wf = true) (w2 : (Lit.int .u16 a2).wf = true) : ∃ k, armillarylaw23_AuctionRaised.f k a0 a1 a2 = some true := by
 obtain ⟨l, hg, hm⟩ := made_ev h0
 have ha := u8_wf w1
 have hb := u16_wf w2
 have h := hg.ok (by decide) (by decide)
 have hl := hg.len
 obtain ⟨d, cols, X, Y, hcl, ⟨e, hs⟩, k⟩ := clear_ev h
 obtain ⟨n0, n1, n2, n3⟩ := k.len0 h
 refine Ev.get (Ev.bind sanity_ev (Ev.bind hm (Ev.bind hcl (Ev.bind1 (r := false) ?_ (Ev.congr (fun f => if_neg (by decide)) ?_)))))
 ·rw [if_neg (by simp), k.shaped]
  rfl
 ·by_cases hz : (ws l).length = 0
  ·exact Ev.congr (fun f => if_pos (by show (d.f0.length : Int) = 0; omega)) (Ev.const rfl)
  ·obtain ⟨i, hi, hidx⟩ := pick (n := d.f0.length) ha (by omega)
   have cz : ¬ ((((d, (0 : Int)).1.f0.length : Nat) : Int) = 0) := by show ¬ ((d.f0.length : Int) = 0); omega
   have cp : (0 : Int) ≤ (i : Int) := by omega
   have c0 : (i : Int) < (((d, (0 : Int)).1.f0.length : Nat) : Int) := by show (i : Int) < (d.f0.length : Int); omega
   have c1 : (i : Int) < (((d, (0 : Int)).1.f1.length : Nat) : Int) := by show (i : Int) < (d.f1.length : Int); omega
   have c2 : (i : Int) < (((d, (0 : Int)).1.f2.length : Nat) : Int) := by show (i : Int) < (d.f2.length : Int); omega
   have hi2 : i < (ws l).length := by omega
   have hw := g_mem hi2
   have hidx' : (W .i64 a1).tmod (((d, (0 : Int)).1.f0.length : Nat) : Int) = ((i : Nat) : Int) := hidx
   refine Ev.congr (fun f => if_neg cz) (Ev.congr (fun f => if_neg cz) ?_)
   rw [hidx']
   refine Ev.congr (fun f => if_pos cp) (Ev.congr (fun f => if_pos c1) ?_)
   rw [tn]
   rcases k.slot_neg h hi2 with ⟨s1, s2⟩ | ⟨s, s1, s2, s3, s4⟩
   ·exact Ev.congr (fun f => if_pos (by show g d.f1 i < 0; omega)) (Ev.const rfl)
   ·refine Ev.congr (fun f => if_neg (by show ¬ g d.f1 i < 0; omega)) (Ev.congr (fun f => if_pos (by simp only [List.length_nil]; omega)) ?_)
    rw [List.nil_append]
    have hwi : d.f0.getD i 0 = g (ws l) i := by rw [k.who]
    have hloop := raised_l1 hg (t := (d, (0 : Int))) (a := a1) (b := a2) (i := i) hi (by show i < d.f1.length; omega) hidx hwi s2 hb l.length 0 rfl
    obtain ⟨w, hww⟩ : ∃ w, g (ws l) i = w := ⟨_, rfl⟩
    rw [hww] at hw s1 s4 hloop
    obtain ⟨x, hx, ex0, ex1⟩ : ∃ x ∈ l, x.f0 = w ∧ x.f1 = s := by
     rcases Vv_mem (l := l) (w := w) (s := s) with ⟨y, hy, e1, _⟩ | ⟨_, h3⟩
     ·exact ⟨y, hy, congrArg Prod.fst e1, congrArg Prod.snd e1⟩
     ·omega
    have hV := rsd_Vv (b := a2) hg.nd hx ex0 ex1
    have hv' : 1048576 + a2 ≤ 1073741824 := by omega
    have h' := (rsd_okG (w := w) (s := s) hg hb.1).ok (by decide) hv'
    obtain ⟨d', cols', X', Y', hcl', ⟨e', hs'⟩, k'⟩ := clear_ev h'
    obtain ⟨m0, m1, m2, m3⟩ := k'.len0 h'
    rw [rsd_ws] at m0 m1 m2 m3
    have hnd : (ws l).Nodup := dist_nodup _
    have ht := tot_raise hnd hw hV
    have hX : X' = X + a2 := by
     have o1 := k'.om
     rw [rsd_ws] at o1
     have q1 := o1.1 _ k.inj
     rw [ht, k.tv, if_pos s1] at q1
     have q2 := k'.tv
     rw [rsd_ws, ht] at q2
     have q3 := k'.inj
     rw [rsd_ws] at q3
     have q4 := k.om.1 _ q3
     have : (if sg (rsd w s a2 l) cols' w = some s then a2 else 0) ≤ a2 := by split <;> omega
     omega
    have hσ : sg (rsd w s a2 l) cols' w = some s := by
     by_cases hb0 : a2 = 0
     ·have hVV : ∀ v t, Vv (rsd w s a2 l) v t = 1 * Vv l v t := fun v t => by rw [hV, hb0, Int.one_mul]; split <;> omega
      obtain ⟨z0, z1, z2, z3⟩ := cl_scale (c := 1) (by decide) h h' (rsd_ws _ _ _ l) (rsd_ss _ _ _ l) hVV hs hs' k k'
      have z4 := k'.slot i (by rw [rsd_ws]; exact hi2)
      rw [rsd_ws, hww, z1, s2] at z4
      cases hq : sg (rsd w s a2 l) cols' w with
      | none => rw [hq] at z4; have z5 : s = -1 := z4; omega
      | some t => rw [hq] at z4; have z5 : s = t := z4; rw [z5]
     ·have q2 := k'.tv
      rw [rsd_ws, ht] at q2
      have q3 := k'.inj
      rw [rsd_ws] at q3
      have q4 := k.om.1 _ q3
      by_cases hq : sg (rsd w s a2 l) cols' w = some s
      ·exact hq
      ·rw [if_neg hq] at q2
       omega
    have hY : Y' w = Y w := by
     have o1 := k'.y w (by rw [rsd_ws]; exact hw)
     rw [rsd_ws] at o1
     exact (o1.congr (fun v hv t => by rw [hV, if_neg (fun hh => (but_mem.1 hv).2 hh.1), Int.add_zero])).uniq (k.y w hw)
    have z4 := k'.slot i (by rw [rsd_ws]; exact hi2)
    have z5 := k'.price i (by rw [rsd_ws]; exact hi2)
    have z6 := k.price i hi2
    rw [rsd_ws, hww, hσ] at z4 z5
    rw [hww, s1] at z6
    have z4' : g d'.f1 i = s := z4
    have z5' : g d'.f2 i = Y' w - (X' - Vv (rsd w s a2 l) w s) := z5
    have z6' : g d.f2 i = Y w - (X - Vv l w s) := z6
    have z7 : g d'.f2 i = g d.f2 i := by
     rw [z5', z6', hY, hX, hV, if_pos ⟨rfl, rfl⟩]
     omega
    have hxb := k.xb
    refine Ev.bind hloop (Ev.bind hcl' (Ev.bind (r := false) ?_ (Ev.congr (fun f => if_neg (by decide)) (Ev.bind (r := true) ?_ (Ev.const rfl)))))
    ·refine Ev.congr (fun f => if_neg (by simp)) (Ev.bind1 k'.shaped (Ev.congr (fun f => if_pos rfl) ?_))
     exact Ev.bind (sameI (a := d.f0) (b := d'.f0) (by omega) (by rw [k.who, k'.who, rsd_ws])) (Ev.const rfl)
    ·rw [hidx']
     have b1 : (i : Int) < (((d', (0 : Int)).1.f1.length : Nat) : Int) := by show (i : Int) < (d'.f1.length : Int); omega
     have b2 : (i : Int) < (((d', (0 : Int)).1.f2.length : Nat) : Int) := by show (i : Int) < (d'.f2.length : Int); omega
     refine Ev.congr (fun f => if_pos cp) (Ev.congr (fun f => if_pos b1) (Ev.congr (fun f => if_pos cp) (Ev.congr (fun f => if_pos c1) ?_)))
     rw [tn]
     refine Ev.congr (fun f => if_pos (by show g d'.f1 i = g d.f1 i; rw [z4', s2])) (Ev.congr (fun f => if_pos cp) (Ev.congr (fun f => if_pos b2) (Ev.congr (fun f => if_pos cp) (Ev.congr (fun f => if_pos c2) (Ev.congr (fun f => if_pos z7) ?_)))))
     refine Ev.bind (k'.welfare h') (Ev.bind (k.welfare h) (Ev.congr (fun f => if_pos ?_) (Ev.const rfl)))
     rw [W64 (x := a2) (by omega) (by omega), W64 (by omega) (by omega), hX]
end Go.Proofs.Ytihmbmeelheinaa
namespace Go.Proofs.Ytihmbmeelheinaa.auctionRaised
open Go.ChangeShapes Go.WideShapes Go.ChangeAt Go.RowKit Go.Proofs.Ytihmbmeelheinaa Go.Proofs.Ytihmbmeelheinaa.RW
open Go.ChangeMaps (open_string shut_string)
set_option linter.unusedVariables false
set_option maxRecDepth 1000000
set_option maxHeartbeats 8000000

theorem own : ownKnob Try.prog.godebug = none := by kernel_rfl
theorem laidOut : laidOutB Try.prog = true := by kernel_rfl
theorem lifted (os : Os) (started : os.Started) (H : Type) (enc : TypeId × Value → H) :
  ReturnsInHanded {} Try.checked os 9 .any (Rows.auctionRaisedSpec.pre6 enc Try.prog Try.f9 Rows.auctionRaisedRow.domain false) (Rows.auctionRaisedSpec.post enc Try.prog Try.f9 false true false false) := by
 refine returnsInHanded_of_change (C := Try.checked) own started (by kernel_rfl) Try.func9
  (ChangeSpec.witness6 (enc := enc) (C := Try.checked) false ⟨#[], #[.slice none 0 0, .int .u8 0, .int .u16 0], []⟩ 8 (by kernel_rfl) (by kernel_rfl) (by kernel_rfl) (by kernel_rfl)) ?_
 intro W base args ds gs before hval0 hW hcnd _
 have hval : ∀ (j : Nat) t v, Try.f9.params[j]? = some t → args[j]? = some v → Value.okWide Try.prog W .any base t v := hval0
 have hW' := hW
 obtain ⟨p, q, hA0, hV, rfl, hfz, hnd⟩ := hW
 have hA : DataW.TrodAll enc Try.prog W 0 (fun _ => true) true Try.f9.params.toList args.toList ds p := hA0
 rw [Try.params9] at hA hval
 obtain ⟨v0, vs0, d0, ds0, p0, q0, hargs, rfl, rfl, h0, z0⟩ := trodAll_cons hA
 obtain ⟨v1, vs1, d1, ds1, p1, q1, rfl, rfl, rfl, h1, z1⟩ := trodAll_cons z0
 obtain ⟨v2, vs2, d2, ds2, p2, q2, rfl, rfl, rfl, h2, z2⟩ := trodAll_cons z1
 obtain ⟨rfl, rfl, rfl⟩ := trodAll_nil z2
 obtain rfl : args = #[v0, v1, v2] := by cases args; simp_all
 obtain ⟨rfl, rfl⟩ := trodVars_none hV
 have k0 := h0
 have lt0 : ∀ x ∈ p0, x.block < W.heap.size := by obtain ⟨m, hm⟩ := k0; exact DataW.trod_lt m _ _ _ hm
 obtain ⟨b0, len0, cap0, rfl⟩ := okWide_slice Try.underlying22 (hval 0 22 v0 rfl rfl)
 obtain ⟨fuel0, hf0⟩ := h0
 obtain ⟨a0, ⟨A0, c0, e0, l0, r0⟩, hp0⟩ := (opens_slice (e := 48) o48 (by kernel_rfl) (by kernel_rfl) (Nat.le_of_ble_eq_true (by kernel_rfl)) : Opens Try.prog (Ty.slice t48) 22 (fun l => ∀ x ∈ l, p48 x)) W 0 _ _ _ _ _ hf0
 obtain ⟨rfl, rfl, rfl⟩ : b0 = A0 ∧ len0 = a0.length ∧ cap0 = c0 := by simpa [Value.cells] using e0
 obtain ⟨a1, rfl, rfl, rfl, w1⟩ := open_int Try.underlying5 (hval 1 5 v1 rfl rfl) h1
 obtain ⟨a2, rfl, rfl, rfl, w2⟩ := open_int Try.underlying50 (hval 2 50 v2 rfl rfl) h2
 clear hA0 hval0
 obtain ⟨k, hk⟩ := armillarylaw23_AuctionRaised_holds a0 a1 a2 hp0 r0.1 w1 w2
 refine (armillarylaw23_AuctionRaised.calls k (wImm W) a0 b0 cap0 a1 a2 W (wImm_at W) l0 r0 true hk).mono ?_
 rintro e W' ⟨v, rfl, J, rfl, hg⟩
 have bel : Below W.heap.size W W' := ⟨hg.evo.os, hg.evo.tape, hg.evo.output, hg.evo.size, fun k hk => hg.evo.blk k hk (fun h => h)⟩
 exact ⟨_, rfl, _, _, _, [], _, [], hW', trodAll_mk1 (shut_bool Try.underlying4 _), (trodAll_cons_mk (Below.trod laidOut (by kernel_rfl) (of_decide_eq_true (by kernel_rfl)) k0 bel lt0) (trodAll_cons_mk (shut_int Try.underlying5 w1) (trodAll_cons_mk (shut_int Try.underlying50 w2) trodAll_mk0))), rfl, bel.frame _, fun h => by cases h⟩

theorem over : Rows.auctionRaisedRow.holds Try.pinned (OpenSpec.ofChange Rows.auctionRaisedSpec) :=
 OpenClaim.holds_of_wide 9 Try.f9 rfl rfl rfl rfl rfl rfl rfl ⟨rfl, rfl, rfl, rfl, rfl⟩ rfl rfl rfl rfl rfl (by kernel_rfl) Try.func9 (by kernel_rfl)
  (of_decide_eq_true (by kernel_rfl)) (by unfold Func.isWrapper; first | (rw [if_pos (by decide +kernel)]; kernel_rfl) | (rw [if_neg (by decide +kernel)]; exact ⟨rfl, rfl⟩))
  (fun os started H enc _ => lifted os started H enc)
theorem proved : Rows.AuctionRaisedSaid := over
#print axioms proved
end Go.Proofs.Ytihmbmeelheinaa.auctionRaised
