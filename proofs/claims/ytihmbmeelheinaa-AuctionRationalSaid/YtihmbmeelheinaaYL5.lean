/- What a function of the program computes, and the walk that shows it; made by a program of the session's out of the translation; no conditions beyond those that the theorems name. -/
import Derived.Test.YtihmbmeelheinaaY2
import Derived.Test.YtihmbmeelheinaaY6
import Derived.Test.YtihmbmeelheinaaY5
import Derived.Test.YtihmbmeelheinaaY8
import Derived.Test.YtihmbmeelheinaaRows
import Derived.WalkKit
import Derived.ProofKit
import Derived.OpenShut
import Derived.ShutString
import Derived.ChangeOld
import Derived.Below
import Derived.Carry
import Derived.WideShapes
namespace Go.Proofs.Ytihmbmeelheinaa
open Go Go.Proofs.Ytihmbmeelheinaa.RW
set_option linter.unusedVariables false
set_option maxRecDepth 100000
set_option maxHeartbeats 8000000

/-! ### armillarylaw23_AuctionRational: function 5, armillary/armillarylaw23.AuctionRational -/
noncomputable def K5_0 : Code := cBody Try.f5
noncomputable def O5_38 : List Oper := cOps (cL (cL (cL (cR (cL (cL (cR (cL (cR (cR (cR (cR (cR K5_0)))))))))))))
def armillarylaw23_AuctionRational.k1 (t1 : Bool) : (Unit) ⊕ (Bool) → Option (Bool)
 | .inl () => (some t1)
 | .inr r_ => some r_
def armillarylaw23_AuctionRational.l1 (t2 : List S48) (t3 : S29 × Int) : Nat → Int → Option ((Unit) ⊕ (Bool))
 | 0, _ => none
 | k + 1, x2 => (if x2 < (t3.1.f0.length : Int) then ((if 0 ≤ x2 then (if x2 < (t3.1.f2.length : Int) then (if (t3.1.f2.getD (x2).toNat 0) < 0 then (some true) else (if 0 ≤ x2 then (if x2 < (t3.1.f2.length : Int) then (if 0 ≤ x2 then (if x2 < (t3.1.f0.length : Int) then (if 0 ≤ x2 then (if x2 < (t3.1.f1.length : Int) then ((armillaryref23_Value.f k t2 (t3.1.f0.getD (x2).toNat 0) (t3.1.f1.getD (x2).toNat 0)).bind fun t4 => (if (t3.1.f2.getD (x2).toNat 0) > t4 then (some true) else (if 0 ≤ x2 then (if x2 < (t3.1.f0.length : Int) then ((auction_Utility.f k t2 t3.1 (t3.1.f0.getD (x2).toNat 0)).bind fun t5 => (some (decide (t5 < 0)))) else none) else none))) else none) else none) else none) else none) else none) else none)) else none) else none).bind (fun x3 => (if x3 = true then (some (Sum.inr false)) else (armillarylaw23_AuctionRational.l1 t2 t3 k (W .i64 (x2 + 1)))))) else (some (Sum.inl ())))
def armillarylaw23_AuctionRational.k3 (k : Nat) (t1 : Bool) (t2 : List S48) (t3 : S29 × Int) (x1 : Bool) : Option (Bool) := (if x1 = true then (some false) else ((armillarylaw23_AuctionRational.l1 t2 t3 k 0).bind (armillarylaw23_AuctionRational.k1 t1)))
def armillarylaw23_AuctionRational.f (k : Nat) (a0 : List S48) : Option (Bool) := ((armillarylaw23_sanity.f k ).bind fun t1 => ((armillaryref23_Made.f k a0).bind fun t2 => ((auction_Clear.f k t2).bind fun t3 => ((if t3.2 ≠ 0 then (some true) else ((armillarylaw23_shaped.f t3.1).bind fun t6 => (some (!t6)))).bind (armillarylaw23_AuctionRational.k3 k t1 t2 t3)))))
def armillarylaw23_AuctionRational.Post (I : Imm) (w : World) (r : Bool) (v : Value) (w' : World) : Prop :=
 ∃ (J : Imm), v = .bool r ∧ Got w w' I J []
noncomputable def a5_38n : List Nat := (0 :: 1 :: 0 :: 7 :: 15 :: 31 :: 63 :: 127 :: 255 :: 127 :: 1023 :: 2047 :: 127 :: 127 :: 8319 :: 127 :: 57471 :: 123007 :: 127 :: 262271 :: 127 :: 1835135 :: 3932287 :: 8384639 :: 16777215 :: 33554431 :: 67108863 :: 134217727 :: 134217727 :: 134217727 :: 671088639 :: 134217727 :: 3892314111 :: 8187281407 :: 17179869183 :: 34359738367 :: 68719476735 :: [])
theorem a5_38 : ancs O5_38 [] = a5_38n := by kernel_rfl
theorem a5_38o : drawOk O5_38 a5_38n 34 = true := by kernel_rfl
noncomputable def u5d1l  : List Ld :=
 []
noncomputable def u5d1g (x2 : Int) (g1_ : Nat) (o1_ : Nat) : List (Nat × ((Nat → Wt) → Value)) := [(3, fun u => pt g1_ (o1_ + (x2).toNat * 1)), (6, fun u => .bool true)]
noncomputable def u5d1q (t1 : Bool) (t2 : List S48) (A1 : Option Addr) (c1 : Nat) (t3 : S29 × Int) (A2 : Option Addr) (c2 : Nat) (A3 : Option Addr) (c3 : Nat) (A4 : Option Addr) (c4 : Nat) (nx3 : Nat) (x2 : Int) (g1_ : Nat) (o1_ : Nat) (u : Nat → Wt) : Option (List Value × List (Nat × Value) × List (Nat × Nat)) := qSim Try.prog [(⟨g1_, o1_ + (x2).toNat * 1, none⟩, i6 (t3.1.f2.getD (x2).toNat 0))] [⟨nx3, [.slice A2 t3.1.f0.length c2, .slice A3 t3.1.f1.length c3, .slice A4 t3.1.f2.length c4], 29⟩] O5_38 ⟨68, []⟩ (Ld.vl u5d1l) (u5d1g x2 g1_ o1_) u (.no :: .l 0 :: .no :: .no :: .r 0 :: .no :: .no :: .no :: .no :: .no :: .no :: .no :: .no :: .no :: .no :: .no :: .no :: .no :: .no :: .no :: .no :: .no :: .no :: .no :: .no :: .no :: .no :: .no :: .no :: .no :: .no :: .no :: .no :: .no :: []) 0 (O5_38.take 34) [(27, .bool (decide (x2 < (t3.1.f0.length : Int)))), (3, .bool t1), (4, .slice A1 t2.length c1), (5, pt nx3 0), (7, i6 x2)]
noncomputable def u5d1s (t3 : S29 × Int) (A4 : Option Addr) (c4 : Nat) (nx3 : Nat) (x2 : Int) (g1_ : Nat) (o1_ : Nat) (u : Nat → Wt) : List Value := (pt nx3 2 :: .slice A4 t3.1.f2.length c4 :: i6 x2 :: pt g1_ (o1_ + (x2).toNat * 1) :: i6 (t3.1.f2.getD (x2).toNat 0) :: .bool (decide ((t3.1.f2.getD (x2).toNat 0) < 0)) :: .bool true :: undef :: undef :: undef :: undef :: undef :: undef :: undef :: undef :: undef :: undef :: undef :: undef :: undef :: undef :: undef :: undef :: undef :: undef :: .bool true :: .bool true :: undef :: undef :: undef :: undef :: undef :: undef :: undef :: [])
noncomputable def u5d1f (t1 : Bool) (t2 : List S48) (A1 : Option Addr) (c1 : Nat) (t3 : S29 × Int) (A4 : Option Addr) (c4 : Nat) (nx3 : Nat) (x2 : Int) (g1_ : Nat) (o1_ : Nat) (i : Nat) (u : Nat → Wt) : List (Nat × Value) := foldPut ⟨68, []⟩ [(27, .bool (decide (x2 < (t3.1.f0.length : Int)))), (3, .bool t1), (4, .slice A1 t2.length c1), (5, pt nx3 0), (7, i6 x2)] (O5_38.take i) (((u5d1s t3 A4 c4 nx3 x2 g1_ o1_) u).take i)
theorem u5d1v (t1 : Bool) (t2 : List S48) (A1 : Option Addr) (c1 : Nat) (t3 : S29 × Int) (A2 : Option Addr) (c2 : Nat) (A3 : Option Addr) (c3 : Nat) (A4 : Option Addr) (c4 : Nat) (nx3 : Nat) (x2 : Int) (g1_ : Nat) (o1_ : Nat) (u : Nat → Wt) : (u5d1q t1 t2 A1 c1 t3 A2 c2 A3 c3 A4 c4 nx3 x2 g1_ o1_ u).map (fun x => (x.1, x.2.1)) = some ((u5d1s t3 A4 c4 nx3 x2 g1_ o1_) u, (u5d1f t1 t2 A1 c1 t3 A4 c4 nx3 x2 g1_ o1_ 34) u) := by kernel_rfl
theorem u5d1e (t1 : Bool) (t2 : List S48) (A1 : Option Addr) (c1 : Nat) (t3 : S29 × Int) (A2 : Option Addr) (c2 : Nat) (A3 : Option Addr) (c3 : Nat) (A4 : Option Addr) (c4 : Nat) (nx3 : Nat) (x2 : Int) (g1_ : Nat) (o1_ : Nat) (u : Nat → Wt) : (u5d1q t1 t2 A1 c1 t3 A2 c2 A3 c3 A4 c4 nx3 x2 g1_ o1_ u).map (fun x => x.2.2.map (·.1)) = (u5d1q t1 t2 A1 c1 t3 A2 c2 A3 c3 A4 c4 nx3 x2 g1_ o1_ u).map (fun x => x.2.2.map (·.2)) := by kernel_rfl
noncomputable def u5d2l (t4 : Int) : List Ld :=
 [⟨23, fun x => i6 t4, fun x => [], fun x J => True, fun x J J' h f => trivial⟩]
noncomputable def u5d2g (x2 : Int) (g1_ : Nat) (o1_ : Nat) (g2_ : Nat) (o2_ : Nat) (g3_ : Nat) (o3_ : Nat) (g4_ : Nat) (o4_ : Nat) : List (Nat × ((Nat → Wt) → Value)) := [(3, fun u => pt g1_ (o1_ + (x2).toNat * 1)), (6, fun u => .bool false), (10, fun u => pt g2_ (o2_ + (x2).toNat * 1)), (16, fun u => pt g3_ (o3_ + (x2).toNat * 1)), (21, fun u => pt g4_ (o4_ + (x2).toNat * 1)), (26, fun u => .bool true)]
noncomputable def u5d2q (t1 : Bool) (t2 : List S48) (A1 : Option Addr) (c1 : Nat) (t3 : S29 × Int) (A2 : Option Addr) (c2 : Nat) (A3 : Option Addr) (c3 : Nat) (A4 : Option Addr) (c4 : Nat) (nx3 : Nat) (x2 : Int) (g1_ : Nat) (o1_ : Nat) (g2_ : Nat) (o2_ : Nat) (g3_ : Nat) (o3_ : Nat) (g4_ : Nat) (o4_ : Nat) (t4 : Int) (u : Nat → Wt) : Option (List Value × List (Nat × Value) × List (Nat × Nat)) := qSim Try.prog [(⟨g1_, o1_ + (x2).toNat * 1, none⟩, i6 (t3.1.f2.getD (x2).toNat 0)), (⟨g2_, o2_ + (x2).toNat * 1, none⟩, i6 (t3.1.f2.getD (x2).toNat 0)), (⟨g3_, o3_ + (x2).toNat * 1, none⟩, i6 (t3.1.f0.getD (x2).toNat 0)), (⟨g4_, o4_ + (x2).toNat * 1, none⟩, i6 (t3.1.f1.getD (x2).toNat 0))] [⟨nx3, [.slice A2 t3.1.f0.length c2, .slice A3 t3.1.f1.length c3, .slice A4 t3.1.f2.length c4], 29⟩] O5_38 ⟨68, []⟩ (Ld.vl (u5d2l t4)) (u5d2g x2 g1_ o1_ g2_ o2_ g3_ o3_ g4_ o4_) u (.no :: .l 0 :: .no :: .no :: .r 0 :: .no :: .no :: .no :: .l 0 :: .no :: .no :: .r 1 :: .no :: .no :: .l 0 :: .no :: .no :: .r 2 :: .no :: .l 0 :: .no :: .no :: .r 3 :: .no :: .no :: .no :: .no :: .no :: .no :: .no :: .no :: .no :: .no :: .no :: []) 0 (O5_38.take 34) [(27, .bool (decide (x2 < (t3.1.f0.length : Int)))), (3, .bool t1), (4, .slice A1 t2.length c1), (5, pt nx3 0), (7, i6 x2)]
noncomputable def u5d2s (t2 : List S48) (A1 : Option Addr) (c1 : Nat) (t3 : S29 × Int) (A2 : Option Addr) (c2 : Nat) (A3 : Option Addr) (c3 : Nat) (A4 : Option Addr) (c4 : Nat) (nx3 : Nat) (x2 : Int) (g1_ : Nat) (o1_ : Nat) (g2_ : Nat) (o2_ : Nat) (g3_ : Nat) (o3_ : Nat) (g4_ : Nat) (o4_ : Nat) (t4 : Int) (u : Nat → Wt) : List Value := (pt nx3 2 :: .slice A4 t3.1.f2.length c4 :: i6 x2 :: pt g1_ (o1_ + (x2).toNat * 1) :: i6 (t3.1.f2.getD (x2).toNat 0) :: .bool (decide ((t3.1.f2.getD (x2).toNat 0) < 0)) :: .bool false :: pt nx3 2 :: .slice A4 t3.1.f2.length c4 :: i6 x2 :: pt g2_ (o2_ + (x2).toNat * 1) :: i6 (t3.1.f2.getD (x2).toNat 0) :: .slice A1 t2.length c1 :: pt nx3 0 :: .slice A2 t3.1.f0.length c2 :: i6 x2 :: pt g3_ (o3_ + (x2).toNat * 1) :: i6 (t3.1.f0.getD (x2).toNat 0) :: pt nx3 1 :: .slice A3 t3.1.f1.length c3 :: i6 x2 :: pt g4_ (o4_ + (x2).toNat * 1) :: i6 (t3.1.f1.getD (x2).toNat 0) :: i6 t4 :: .bool (decide ((t3.1.f2.getD (x2).toNat 0) > t4)) :: .bool (decide ((t3.1.f2.getD (x2).toNat 0) > t4)) :: .bool true :: undef :: undef :: undef :: undef :: undef :: undef :: undef :: [])
noncomputable def u5d2f (t1 : Bool) (t2 : List S48) (A1 : Option Addr) (c1 : Nat) (t3 : S29 × Int) (A2 : Option Addr) (c2 : Nat) (A3 : Option Addr) (c3 : Nat) (A4 : Option Addr) (c4 : Nat) (nx3 : Nat) (x2 : Int) (g1_ : Nat) (o1_ : Nat) (g2_ : Nat) (o2_ : Nat) (g3_ : Nat) (o3_ : Nat) (g4_ : Nat) (o4_ : Nat) (t4 : Int) (i : Nat) (u : Nat → Wt) : List (Nat × Value) := foldPut ⟨68, []⟩ [(27, .bool (decide (x2 < (t3.1.f0.length : Int)))), (3, .bool t1), (4, .slice A1 t2.length c1), (5, pt nx3 0), (7, i6 x2)] (O5_38.take i) (((u5d2s t2 A1 c1 t3 A2 c2 A3 c3 A4 c4 nx3 x2 g1_ o1_ g2_ o2_ g3_ o3_ g4_ o4_ t4) u).take i)
theorem u5d2v (t1 : Bool) (t2 : List S48) (A1 : Option Addr) (c1 : Nat) (t3 : S29 × Int) (A2 : Option Addr) (c2 : Nat) (A3 : Option Addr) (c3 : Nat) (A4 : Option Addr) (c4 : Nat) (nx3 : Nat) (x2 : Int) (g1_ : Nat) (o1_ : Nat) (g2_ : Nat) (o2_ : Nat) (g3_ : Nat) (o3_ : Nat) (g4_ : Nat) (o4_ : Nat) (t4 : Int) (u : Nat → Wt) : (u5d2q t1 t2 A1 c1 t3 A2 c2 A3 c3 A4 c4 nx3 x2 g1_ o1_ g2_ o2_ g3_ o3_ g4_ o4_ t4 u).map (fun x => (x.1, x.2.1)) = some ((u5d2s t2 A1 c1 t3 A2 c2 A3 c3 A4 c4 nx3 x2 g1_ o1_ g2_ o2_ g3_ o3_ g4_ o4_ t4) u, (u5d2f t1 t2 A1 c1 t3 A2 c2 A3 c3 A4 c4 nx3 x2 g1_ o1_ g2_ o2_ g3_ o3_ g4_ o4_ t4 34) u) := by kernel_rfl
theorem u5d2e (t1 : Bool) (t2 : List S48) (A1 : Option Addr) (c1 : Nat) (t3 : S29 × Int) (A2 : Option Addr) (c2 : Nat) (A3 : Option Addr) (c3 : Nat) (A4 : Option Addr) (c4 : Nat) (nx3 : Nat) (x2 : Int) (g1_ : Nat) (o1_ : Nat) (g2_ : Nat) (o2_ : Nat) (g3_ : Nat) (o3_ : Nat) (g4_ : Nat) (o4_ : Nat) (t4 : Int) (u : Nat → Wt) : (u5d2q t1 t2 A1 c1 t3 A2 c2 A3 c3 A4 c4 nx3 x2 g1_ o1_ g2_ o2_ g3_ o3_ g4_ o4_ t4 u).map (fun x => x.2.2.map (·.1)) = (u5d2q t1 t2 A1 c1 t3 A2 c2 A3 c3 A4 c4 nx3 x2 g1_ o1_ g2_ o2_ g3_ o3_ g4_ o4_ t4 u).map (fun x => x.2.2.map (·.2)) := by kernel_rfl
noncomputable def u5d3l (t4 : Int) : List Ld :=
 [⟨23, fun x => i6 t4, fun x => [], fun x J => True, fun x J J' h f => trivial⟩]
noncomputable def u5d3g (x2 : Int) (g1_ : Nat) (o1_ : Nat) (g2_ : Nat) (o2_ : Nat) (g3_ : Nat) (o3_ : Nat) (g4_ : Nat) (o4_ : Nat) (g5_ : Nat) (o5_ : Nat) : List (Nat × ((Nat → Wt) → Value)) := [(3, fun u => pt g1_ (o1_ + (x2).toNat * 1)), (6, fun u => .bool false), (10, fun u => pt g2_ (o2_ + (x2).toNat * 1)), (16, fun u => pt g3_ (o3_ + (x2).toNat * 1)), (21, fun u => pt g4_ (o4_ + (x2).toNat * 1)), (26, fun u => .bool false), (32, fun u => pt g5_ (o5_ + (x2).toNat * 1))]
noncomputable def u5d3q (t1 : Bool) (t2 : List S48) (A1 : Option Addr) (c1 : Nat) (t3 : S29 × Int) (A2 : Option Addr) (c2 : Nat) (A3 : Option Addr) (c3 : Nat) (A4 : Option Addr) (c4 : Nat) (nx3 : Nat) (x2 : Int) (g1_ : Nat) (o1_ : Nat) (g2_ : Nat) (o2_ : Nat) (g3_ : Nat) (o3_ : Nat) (g4_ : Nat) (o4_ : Nat) (t4 : Int) (g5_ : Nat) (o5_ : Nat) (u : Nat → Wt) : Option (List Value × List (Nat × Value) × List (Nat × Nat)) := qSim Try.prog [(⟨g1_, o1_ + (x2).toNat * 1, none⟩, i6 (t3.1.f2.getD (x2).toNat 0)), (⟨g2_, o2_ + (x2).toNat * 1, none⟩, i6 (t3.1.f2.getD (x2).toNat 0)), (⟨g3_, o3_ + (x2).toNat * 1, none⟩, i6 (t3.1.f0.getD (x2).toNat 0)), (⟨g4_, o4_ + (x2).toNat * 1, none⟩, i6 (t3.1.f1.getD (x2).toNat 0)), (⟨g5_, o5_ + (x2).toNat * 1, none⟩, i6 (t3.1.f0.getD (x2).toNat 0))] [⟨nx3, [.slice A2 t3.1.f0.length c2, .slice A3 t3.1.f1.length c3, .slice A4 t3.1.f2.length c4], 29⟩] O5_38 ⟨68, []⟩ (Ld.vl (u5d3l t4)) (u5d3g x2 g1_ o1_ g2_ o2_ g3_ o3_ g4_ o4_ g5_ o5_) u (.no :: .l 0 :: .no :: .no :: .r 0 :: .no :: .no :: .no :: .l 0 :: .no :: .no :: .r 1 :: .no :: .no :: .l 0 :: .no :: .no :: .r 2 :: .no :: .l 0 :: .no :: .no :: .r 3 :: .no :: .no :: .no :: .no :: .no :: .l 0 :: .no :: .l 0 :: .no :: .no :: .r 4 :: []) 0 (O5_38.take 34) [(27, .bool (decide (x2 < (t3.1.f0.length : Int)))), (3, .bool t1), (4, .slice A1 t2.length c1), (5, pt nx3 0), (7, i6 x2)]
noncomputable def u5d3s (t2 : List S48) (A1 : Option Addr) (c1 : Nat) (t3 : S29 × Int) (A2 : Option Addr) (c2 : Nat) (A3 : Option Addr) (c3 : Nat) (A4 : Option Addr) (c4 : Nat) (nx3 : Nat) (x2 : Int) (g1_ : Nat) (o1_ : Nat) (g2_ : Nat) (o2_ : Nat) (g3_ : Nat) (o3_ : Nat) (g4_ : Nat) (o4_ : Nat) (t4 : Int) (g5_ : Nat) (o5_ : Nat) (u : Nat → Wt) : List Value := (pt nx3 2 :: .slice A4 t3.1.f2.length c4 :: i6 x2 :: pt g1_ (o1_ + (x2).toNat * 1) :: i6 (t3.1.f2.getD (x2).toNat 0) :: .bool (decide ((t3.1.f2.getD (x2).toNat 0) < 0)) :: .bool false :: pt nx3 2 :: .slice A4 t3.1.f2.length c4 :: i6 x2 :: pt g2_ (o2_ + (x2).toNat * 1) :: i6 (t3.1.f2.getD (x2).toNat 0) :: .slice A1 t2.length c1 :: pt nx3 0 :: .slice A2 t3.1.f0.length c2 :: i6 x2 :: pt g3_ (o3_ + (x2).toNat * 1) :: i6 (t3.1.f0.getD (x2).toNat 0) :: pt nx3 1 :: .slice A3 t3.1.f1.length c3 :: i6 x2 :: pt g4_ (o4_ + (x2).toNat * 1) :: i6 (t3.1.f1.getD (x2).toNat 0) :: i6 t4 :: .bool (decide ((t3.1.f2.getD (x2).toNat 0) > t4)) :: .bool (decide ((t3.1.f2.getD (x2).toNat 0) > t4)) :: .bool false :: .slice A1 t2.length c1 :: .agg #[.slice A2 t3.1.f0.length c2, .slice A3 t3.1.f1.length c3, .slice A4 t3.1.f2.length c4] :: pt nx3 0 :: .slice A2 t3.1.f0.length c2 :: i6 x2 :: pt g5_ (o5_ + (x2).toNat * 1) :: i6 (t3.1.f0.getD (x2).toNat 0) :: [])
noncomputable def u5d3f (t1 : Bool) (t2 : List S48) (A1 : Option Addr) (c1 : Nat) (t3 : S29 × Int) (A2 : Option Addr) (c2 : Nat) (A3 : Option Addr) (c3 : Nat) (A4 : Option Addr) (c4 : Nat) (nx3 : Nat) (x2 : Int) (g1_ : Nat) (o1_ : Nat) (g2_ : Nat) (o2_ : Nat) (g3_ : Nat) (o3_ : Nat) (g4_ : Nat) (o4_ : Nat) (t4 : Int) (g5_ : Nat) (o5_ : Nat) (i : Nat) (u : Nat → Wt) : List (Nat × Value) := foldPut ⟨68, []⟩ [(27, .bool (decide (x2 < (t3.1.f0.length : Int)))), (3, .bool t1), (4, .slice A1 t2.length c1), (5, pt nx3 0), (7, i6 x2)] (O5_38.take i) (((u5d3s t2 A1 c1 t3 A2 c2 A3 c3 A4 c4 nx3 x2 g1_ o1_ g2_ o2_ g3_ o3_ g4_ o4_ t4 g5_ o5_) u).take i)
theorem u5d3v (t1 : Bool) (t2 : List S48) (A1 : Option Addr) (c1 : Nat) (t3 : S29 × Int) (A2 : Option Addr) (c2 : Nat) (A3 : Option Addr) (c3 : Nat) (A4 : Option Addr) (c4 : Nat) (nx3 : Nat) (x2 : Int) (g1_ : Nat) (o1_ : Nat) (g2_ : Nat) (o2_ : Nat) (g3_ : Nat) (o3_ : Nat) (g4_ : Nat) (o4_ : Nat) (t4 : Int) (g5_ : Nat) (o5_ : Nat) (u : Nat → Wt) : (u5d3q t1 t2 A1 c1 t3 A2 c2 A3 c3 A4 c4 nx3 x2 g1_ o1_ g2_ o2_ g3_ o3_ g4_ o4_ t4 g5_ o5_ u).map (fun x => (x.1, x.2.1)) = some ((u5d3s t2 A1 c1 t3 A2 c2 A3 c3 A4 c4 nx3 x2 g1_ o1_ g2_ o2_ g3_ o3_ g4_ o4_ t4 g5_ o5_) u, (u5d3f t1 t2 A1 c1 t3 A2 c2 A3 c3 A4 c4 nx3 x2 g1_ o1_ g2_ o2_ g3_ o3_ g4_ o4_ t4 g5_ o5_ 34) u) := by kernel_rfl
theorem u5d3e (t1 : Bool) (t2 : List S48) (A1 : Option Addr) (c1 : Nat) (t3 : S29 × Int) (A2 : Option Addr) (c2 : Nat) (A3 : Option Addr) (c3 : Nat) (A4 : Option Addr) (c4 : Nat) (nx3 : Nat) (x2 : Int) (g1_ : Nat) (o1_ : Nat) (g2_ : Nat) (o2_ : Nat) (g3_ : Nat) (o3_ : Nat) (g4_ : Nat) (o4_ : Nat) (t4 : Int) (g5_ : Nat) (o5_ : Nat) (u : Nat → Wt) : (u5d3q t1 t2 A1 c1 t3 A2 c2 A3 c3 A4 c4 nx3 x2 g1_ o1_ g2_ o2_ g3_ o3_ g4_ o4_ t4 g5_ o5_ u).map (fun x => x.2.2.map (·.1)) = (u5d3q t1 t2 A1 c1 t3 A2 c2 A3 c3 A4 c4 nx3 x2 g1_ o1_ g2_ o2_ g3_ o3_ g4_ o4_ t4 g5_ o5_ u).map (fun x => x.2.2.map (·.2)) := by kernel_rfl
theorem armillarylaw23_AuctionRational.calls (k : Nat) (I0 : Imm) (a0 : List S48) (Ap0 : Option Addr) (cp0 : Nat) (w : World) (hI : I0.at_ w) (hlp0 : a0.length ≤ cp0) (hrp0 : Rd t48 I0 Ap0 a0) (r : Bool) (h : armillarylaw23_AuctionRational.f k a0 = some r) :
  Calls Try.prog 5 [.slice Ap0 a0.length cp0].toArray w fun e w' => ∃ v, e = .returned v ∧ armillarylaw23_AuctionRational.Post I0 w r v w' := by
 have H : ((armillarylaw23_sanity.f k ).bind fun t1 => ((armillaryref23_Made.f k a0).bind fun t2 => ((auction_Clear.f k t2).bind fun t3 => ((if t3.2 ≠ 0 then (some true) else ((armillarylaw23_shaped.f t3.1).bind fun t6 => (some (!t6)))).bind (armillarylaw23_AuctionRational.k3 k t1 t2 t3))))) = some r := h
 clear h
 refine calls_body Try.func5 (by kernel_rfl) 68 (by kernel_rfl) (by kernel_rfl) ⟨w, fun _ => False, I0⟩ I0 [] [(0, .slice Ap0 a0.length cp0)] (by kernel_rfl) (Sat.start w _ I0 hI) ?_
 generalize w.heap.size = nx0
 show OK _ K5_0 _ _ _ _ _ _ _ _
 refine OK.sr ?_
 refine RL.st 1 [(0, .slice Ap0 a0.length cp0)] ?_
 refine OK.sr ?_
 obtain ⟨t1, hA1, H⟩ := bnd H
 refine RL.callP 11 [] (some 8) (fun w => armillarylaw23_sanity.Post I0 w t1) (by kernel_rfl) (by kernel_rfl) (fun w hs => armillarylaw23_sanity.calls k I0  w hs.im  t1 hA1) ?_
 rintro w v w' hs ⟨I1, rfl, hg⟩
 have hi1 := hg.le
 refine RL.resume (X' := []) rfl (hs.call hg) ?_
 clear hs hg
 generalize w'.heap.size = nx1
 clear w w'
 refine RL.st 1 [(3, .bool t1), (0, .slice Ap0 a0.length cp0)] ?_
 refine OK.sr ?_
 refine RL.s 1 [(9, .slice Ap0 a0.length cp0), (3, .bool t1)] ?_
 obtain ⟨t2, hA2, H⟩ := bnd H
 refine RL.callP 14 [.slice Ap0 a0.length cp0] (some 10) (fun w => armillaryref23_Made.Post I1 w t2) (by kernel_rfl) (by kernel_rfl) (fun w hs => armillaryref23_Made.calls k I1 a0 Ap0 cp0 w hs.im hlp0 (Rd.ext hi1 hrp0) t2 hA2) ?_
 rintro w v w' hs ⟨I2, A1, c1, cs1, rfl, hg, hp1⟩
 have hi2 := hg.le
 refine RL.resume (X' := [orow 48 3 A1 t2.length c1 cs1]) rfl (hs.call hg) ?_
 clear hs hg
 generalize w'.heap.size = nx2
 clear w w'
 refine RL.st 1 [(4, .slice A1 t2.length c1), (3, .bool t1)] ?_
 refine OK.sr ?_
 refine RL.s 1 [(12, .slice A1 t2.length c1), (4, .slice A1 t2.length c1), (3, .bool t1)] ?_
 refine RL.freeze (e := 48) (sz := 3) (S := A1) (n := t2.length) (cap := c1) 0 (by kernel_rfl) hp1 rfl (fun I3 hi3 hl1 hr1 => ?_)
 skip
 obtain ⟨t3, hA3, H⟩ := bnd H
 refine RL.callP 15 [.slice A1 t2.length c1] (some 13) (fun w => auction_Clear.Post I3 w t3) (by kernel_rfl) (by kernel_rfl) (fun w hs => auction_Clear.calls k I3 t2 A1 c1 w hs.im hl1 hr1 t3 hA3) ?_
 rintro w v w' hs ⟨I4, A2, c2, cs2, A3, c3, cs3, A4, c4, cs4, rfl, hg, hp2, hp3, hp4⟩
 have hi4 := hg.le
 refine RL.resume (X' := [orow 3 1 A2 t3.1.f0.length c2 cs2, orow 3 1 A3 t3.1.f1.length c3 cs3, orow 2 1 A4 t3.1.f2.length c4 cs4]) rfl (hs.call hg) ?_
 clear hs hg
 generalize w'.heap.size = nx3
 clear w w'
 refine RL.freeze (e := 3) (sz := 1) (S := A2) (n := t3.1.f0.length) (cap := c2) 0 (by kernel_rfl) hp2 rfl (fun I5 hi5 hl2 hr2 => ?_)
 skip
 refine RL.freeze (e := 3) (sz := 1) (S := A3) (n := t3.1.f1.length) (cap := c3) 0 (by kernel_rfl) (Reps.ext hi5 hp3) rfl (fun I6 hi6 hl3 hr3 => ?_)
 skip
 refine RL.freeze (e := 2) (sz := 1) (S := A4) (n := t3.1.f2.length) (cap := c4) 0 (by kernel_rfl) (Reps.ext (Imm.le_trans hi5 hi6) hp4) rfl (fun I7 hi7 hl4 hr4 => ?_)
 skip
 refine RL.simP (K' := [(6, i6 t3.2), (5, pt nx3 0), (4, .slice A1 t2.length c1), (3, .bool t1)]) (nx' := nx3 + 1) (L' := [⟨nx3, [.slice A2 t3.1.f0.length c2, .slice A3 t3.1.f1.length c3, .slice A4 t3.1.f2.length c4], 29⟩]) [] (RFacts.nil _ _ _) 6 [.no, .no, .no, .no, .l 0, .no] (by kernel_rfl) (by kernel_rfl) ?_
 refine RL.nt ?_
 refine OK.sq ?_
 refine OK.sq ?_
 refine OK.join (fun K' I' _ L' X' => ∃ (x1 : Bool), K' = [(3, .bool t1), (4, .slice A1 t2.length c1), (5, pt nx3 0), (22, .bool x1)] ∧ L' = [⟨nx3, [.slice A2 t3.1.f0.length c2, .slice A3 t3.1.f1.length c3, .slice A4 t3.1.f2.length c4], 29⟩] ∧ X' = [] ∧ Imm.le I7 I' ∧ armillarylaw23_AuctionRational.k3 k t1 t2 t3 x1 = some r) ?_ ?_
 ·rintro _ I8 nx4 _ _ ⟨x1, rfl, rfl, rfl, hi8, H⟩
  rw [armillarylaw23_AuctionRational.k3] at H
  refine QN.then_ ?_
  refine OK.cd x1 (fun hb => ?_) (fun hb => ?_)
  ·skip
   have hc := hb
   rw [if_pos hc] at H
   clear hb
   refine OK.sr ?_
   refine RL.st 1 [(2, .bool false)] ?_
   refine OK.re ?_
   refine QN.thenR ?_
   obtain rfl := Option.some.inj H
   refine QN.body rfl [] (RFacts.nil _ _ _) (.no) (.bool false) (by kernel_rfl) (by kernel_rfl) (by kernel_rfl) ?_ _ (.inr rfl)
   exact fun w' hs' => ⟨_, rfl, I8, rfl, hs'.got _ .slnil⟩
  ·skip
   have hc := (Bool.eq_false_iff.1 hb)
   rw [if_neg hc] at H
   clear hb
   refine OK.skt ?_
   refine OK.sq ?_
   refine OK.sr ?_
   refine RL.st 1 [(7, i6 0), (3, .bool t1), (4, .slice A1 t2.length c1), (5, pt nx3 0)] ?_
   refine OK.join (fun K' I' _ L' X' => K' = [(3, .bool t1)] ∧ L' = [⟨nx3, [.slice A2 t3.1.f0.length c2, .slice A3 t3.1.f1.length c3, .slice A4 t3.1.f2.length c4], 29⟩] ∧ X' = [] ∧ Imm.le I8 I' ∧ armillarylaw23_AuctionRational.k1 t1 (Sum.inl ()) = some r) ?_ ?_
   ·rintro _ I9 nx5 _ _ ⟨rfl, rfl, rfl, hi9, H⟩
    rw [armillarylaw23_AuctionRational.k1] at H
    refine QN.then_ ?_
    refine OK.sr ?_
    refine RL.st 2 [(2, .bool t1)] ?_
    refine OK.re ?_
    obtain rfl := Option.some.inj H
    refine QN.body rfl [] (RFacts.nil _ _ _) (.no) (.bool t1) (by kernel_rfl) (by kernel_rfl) (by kernel_rfl) ?_ _ (.inr rfl)
    exact fun w' hs' => ⟨_, rfl, I9, rfl, hs'.got _ .slnil⟩
   ·intro Q_1 hJ2 hQ2
    obtain ⟨y2, H, HK2⟩ := bnd H
    refine OK.bk 0 ?_
    refine OK.sub (K' := [(3, .bool t1), (4, .slice A1 t2.length c1), (5, pt nx3 0), (7, i6 0)]) (L' := [⟨nx3, [.slice A2 t3.1.f0.length c2, .slice A3 t3.1.f1.length c3, .slice A4 t3.1.f2.length c4], 29⟩]) (by kernel_rfl) (.cons_cons _ .slnil) (.refl _) ?_
    refine OK.lp (fun n_ K' I' _ L' X' => ∃ (x2 : Int), K' = [(3, .bool t1), (4, .slice A1 t2.length c1), (5, pt nx3 0), (7, i6 x2)] ∧ L' = [⟨nx3, [.slice A2 t3.1.f0.length c2, .slice A3 t3.1.f1.length c3, .slice A4 t3.1.f2.length c4], 29⟩] ∧ X' = [] ∧ Imm.le I8 I' ∧ armillarylaw23_AuctionRational.l1 t2 t3 n_ x2 = some y2) k ⟨0, rfl, rfl, rfl, (Imm.le_refl _), H⟩ ?_ ?_
    ·rintro _ _ _ _ _ ⟨x2, rfl, rfl, rfl, _, H⟩
     cases H
    ·rintro kq1 _ I10 nx6 _ _ ⟨x2, rfl, rfl, rfl, hi10, H⟩ Q_l1 hJ3 hQ3
     rw [armillarylaw23_AuctionRational.l1] at H
     refine OK.sq ?_
     refine OK.sr ?_
     refine RL.simK (K' := [(27, .bool (decide (x2 < (t3.1.f0.length : Int)))), (3, .bool t1), (4, .slice A1 t2.length c1), (5, pt nx3 0), (7, i6 x2)]) [] (RFacts.nil _ _ _) 5 [.no, .no, .l 0, .no, .no] (by kernel_rfl) (by kernel_rfl) ?_
     refine RL.nt ?_
     refine OK.cd (decide (x2 < (t3.1.f0.length : Int))) (fun hb => ?_) (fun hb => ?_)
     ·skip
      have hc := (of_decide_eq_true hb)
      rw [if_pos hc] at H
      clear hb
      refine OK.skt ?_
      refine OK.sq ?_
      refine OK.bk 1 ?_
      refine OK.sq ?_
      refine OK.join (fun K' I' _ L' X' => ∃ (x3 : Bool), K' = [(3, .bool t1), (4, .slice A1 t2.length c1), (5, pt nx3 0), (7, i6 x2), (66, .bool x3)] ∧ L' = [⟨nx3, [.slice A2 t3.1.f0.length c2, .slice A3 t3.1.f1.length c3, .slice A4 t3.1.f2.length c4], 29⟩] ∧ X' = [] ∧ Imm.le I10 I' ∧ (if x3 = true then (some (Sum.inr false)) else (armillarylaw23_AuctionRational.l1 t2 t3 kq1 (W .i64 (x2 + 1)))) = some y2) ?_ ?_
      ·rintro _ I11 nx7 _ _ ⟨x3, rfl, rfl, rfl, hi11, H⟩
       replace H : (if x3 = true then (some (Sum.inr false)) else (armillarylaw23_AuctionRational.l1 t2 t3 kq1 (W .i64 (x2 + 1)))) = some y2 := H
       refine QN.then_ ?_
       refine OK.cd x3 (fun hb => ?_) (fun hb => ?_)
       ·skip
        have hc := hb
        rw [if_pos hc] at H
        clear hb
        refine OK.sr ?_
        refine RL.st 1 [(2, .bool false)] ?_
        refine OK.re ?_
        refine QN.blkR ?_
        refine QN.thenR ?_
        refine QN.outR hQ3 ?_
        refine QN.blkR ?_
        refine QN.outR hQ2 ?_
        refine QN.thenR ?_
        obtain rfl := Option.some.inj H
        replace H : some false = some r := HK2
        obtain rfl := Option.some.inj H
        refine QN.body rfl [] (RFacts.nil _ _ _) (.no) (.bool false) (by kernel_rfl) (by kernel_rfl) (by kernel_rfl) ?_ _ (.inr rfl)
        exact fun w' hs' => ⟨_, rfl, I11, rfl, hs'.got _ .slnil⟩
       ·skip
        have hc := (Bool.eq_false_iff.1 hb)
        rw [if_neg hc] at H
        clear hb
        refine OK.sk ?_
        refine QN.blkN ?_
        refine QN.then_ ?_
        refine OK.rg ?_
        refine RL.s 3 [(7, i6 (W .i64 (x2 + 1))), (3, .bool t1), (4, .slice A1 t2.length c1), (5, pt nx3 0)] ?_
        refine RL.nil (by kernel_rfl) ?_
        exact QN.sb (hJ3 _ _ _ _ _ ⟨W .i64 (x2 + 1), rfl, rfl, rfl, (Imm.le_trans hi10 hi11), H⟩) (.cons_cons _ .slnil) (.refl _)
      ·intro Q_2 hJ4 hQ4
       obtain ⟨y3, H, HK3⟩ := bnd H
       obtain ⟨hi0_1, H⟩ := ifs H
       obtain ⟨hi1_1, H⟩ := ifs H
       obtain ⟨g1_, o1_, hA1_, hc1_⟩ := Ty.int_at (Rd.ext (Imm.le_trans hi8 hi10) hr4) x2 hi0_1 hi1_1
       refine OK.cases (decide ((t3.1.f2.getD (x2).toNat 0) < 0)) (fun hb1 => ?_) (fun hb1 => ?_)
       ·have hc1 := (of_decide_eq_true hb1)
        rw [if_pos hc1] at H
        refine OK.drawnC 9 34 O5_38 a5_38n (by kernel_rfl) (by kernel_rfl) u5d1l (u5d1g x2 g1_ o1_) [(⟨g1_, o1_ + (x2).toNat * 1, none⟩, i6 (t3.1.f2.getD (x2).toNat 0))] (RI.cons (hc1_ 0 _ rfl) (RI.nil _)) (.no :: .l 0 :: .no :: .no :: .r 0 :: .no :: .no :: .no :: .no :: .no :: .no :: .no :: .no :: .no :: .no :: .no :: .no :: .no :: .no :: .no :: .no :: .no :: .no :: .no :: .no :: .no :: .no :: .no :: .no :: .no :: .no :: .no :: .no :: .no :: []) a5_38 a5_38o (by kernel_rfl) (by kernel_rfl) (u5d1s t3 A4 c4 nx3 x2 g1_ o1_) (u5d1f t1 t2 A1 c1 t3 A4 c4 nx3 x2 g1_ o1_ 34) (u5d1v t1 t2 A1 c1 t3 A2 c2 A3 c3 A4 c4 nx3 x2 g1_ o1_) (u5d1e t1 t2 A1 c1 t3 A2 c2 A3 c3 A4 c4 nx3 x2 g1_ o1_) [] framesOk.nil ?_ [u5d1f t1 t2 A1 c1 t3 A4 c4 nx3 x2 g1_ o1_ 3, u5d1f t1 t2 A1 c1 t3 A4 c4 nx3 x2 g1_ o1_ 6] (framesOk.cons (fun u => rfl) (framesOk.cons (fun u => rfl) framesOk.nil)) ?_ ?_
        ·refine LoudsG.nil
        ·refine Givens.cons (fun u w =>  ?_) (fun _ _ _ => rfl) (Givens.cons (fun u w =>  ?_) (fun _ _ _ => rfl) (Givens.nil))
         ·exact giv_idx (T := 27) (e := 2) 1 .i64 x2 hA1_ t3.1.f2.length c4 (by kernel_rfl) (by kernel_rfl) (by kernel_rfl) hi0_1 hi1_1 w
         ·exact giv_run (v := .bool (decide ((t3.1.f2.getD (x2).toNat 0) < 0))) (by kernel_rfl) (by rw [hb1]; try rfl) w
        intro u I12 nx8 hi12 hF
        clear hF
        refine RL.norm (K' := ((63, undef) :: (62, undef) :: (61, undef) :: (60, undef) :: (59, undef) :: (58, undef) :: (57, undef) :: (56, .bool true) :: (55, .bool true) :: (54, undef) :: (53, undef) :: (52, undef) :: (51, undef) :: (50, undef) :: (49, undef) :: (48, undef) :: (47, undef) :: (46, undef) :: (45, undef) :: (44, undef) :: (43, undef) :: (42, undef) :: (41, undef) :: (40, undef) :: (39, undef) :: (38, undef) :: (37, undef) :: (36, .bool true) :: (35, .bool (decide ((t3.1.f2.getD (x2).toNat 0) < 0))) :: (34, i6 (t3.1.f2.getD (x2).toNat 0)) :: (33, pt g1_ (o1_ + (x2).toNat * 1)) :: (32, i6 x2) :: (31, .slice A4 t3.1.f2.length c4) :: (30, pt nx3 2) :: (27, .bool (decide (x2 < (t3.1.f0.length : Int)))) :: (3, .bool t1) :: (4, .slice A1 t2.length c1) :: (5, pt nx3 0) :: (7, i6 x2) :: [])) (X' := []) (by kernel_rfl) rfl rfl rfl ?_
        refine RL.s 3 [(66, .bool true), (3, .bool t1), (4, .slice A1 t2.length c1), (5, pt nx3 0), (7, i6 x2)] ?_
        refine RL.nil (by kernel_rfl) ?_
        obtain rfl := Option.some.inj H
        exact QN.sb (hJ4 _ _ _ _ _ ⟨true, rfl, rfl, rfl, hi12, HK3⟩) (.cons_cons _ .slnil) (.refl _)
       ·have hc1 := (of_decide_eq_false hb1)
        rw [if_neg hc1] at H
        obtain ⟨hi0_2, H⟩ := ifs H
        obtain ⟨hi1_2, H⟩ := ifs H
        obtain ⟨g2_, o2_, hA2_, hc2_⟩ := Ty.int_at (Rd.ext (Imm.le_trans hi8 hi10) hr4) x2 hi0_2 hi1_2
        obtain ⟨hi0_3, H⟩ := ifs H
        obtain ⟨hi1_3, H⟩ := ifs H
        obtain ⟨g3_, o3_, hA3_, hc3_⟩ := Ty.int_at (Rd.ext (Imm.le_trans (Imm.le_trans (Imm.le_trans hi6 hi7) hi8) hi10) hr2) x2 hi0_3 hi1_3
        obtain ⟨hi0_4, H⟩ := ifs H
        obtain ⟨hi1_4, H⟩ := ifs H
        obtain ⟨g4_, o4_, hA4_, hc4_⟩ := Ty.int_at (Rd.ext (Imm.le_trans (Imm.le_trans hi7 hi8) hi10) hr3) x2 hi0_4 hi1_4
        obtain ⟨t4, hA4, H⟩ := bnd H
        refine OK.cases (decide ((t3.1.f2.getD (x2).toNat 0) > t4)) (fun hb2 => ?_) (fun hb2 => ?_)
        ·have hc2 := (of_decide_eq_true hb2)
         rw [if_pos hc2] at H
         refine OK.drawnC 9 34 O5_38 a5_38n (by kernel_rfl) (by kernel_rfl) (u5d2l t4) (u5d2g x2 g1_ o1_ g2_ o2_ g3_ o3_ g4_ o4_) [(⟨g1_, o1_ + (x2).toNat * 1, none⟩, i6 (t3.1.f2.getD (x2).toNat 0)), (⟨g2_, o2_ + (x2).toNat * 1, none⟩, i6 (t3.1.f2.getD (x2).toNat 0)), (⟨g3_, o3_ + (x2).toNat * 1, none⟩, i6 (t3.1.f0.getD (x2).toNat 0)), (⟨g4_, o4_ + (x2).toNat * 1, none⟩, i6 (t3.1.f1.getD (x2).toNat 0))] (RI.cons (hc1_ 0 _ rfl) (RI.cons (hc2_ 0 _ rfl) (RI.cons (hc3_ 0 _ rfl) (RI.cons (hc4_ 0 _ rfl) (RI.nil _))))) (.no :: .l 0 :: .no :: .no :: .r 0 :: .no :: .no :: .no :: .l 0 :: .no :: .no :: .r 1 :: .no :: .no :: .l 0 :: .no :: .no :: .r 2 :: .no :: .l 0 :: .no :: .no :: .r 3 :: .no :: .no :: .no :: .no :: .no :: .no :: .no :: .no :: .no :: .no :: .no :: []) a5_38 a5_38o (by kernel_rfl) (by kernel_rfl) (u5d2s t2 A1 c1 t3 A2 c2 A3 c3 A4 c4 nx3 x2 g1_ o1_ g2_ o2_ g3_ o3_ g4_ o4_ t4) (u5d2f t1 t2 A1 c1 t3 A2 c2 A3 c3 A4 c4 nx3 x2 g1_ o1_ g2_ o2_ g3_ o3_ g4_ o4_ t4 34) (u5d2v t1 t2 A1 c1 t3 A2 c2 A3 c3 A4 c4 nx3 x2 g1_ o1_ g2_ o2_ g3_ o3_ g4_ o4_ t4) (u5d2e t1 t2 A1 c1 t3 A2 c2 A3 c3 A4 c4 nx3 x2 g1_ o1_ g2_ o2_ g3_ o3_ g4_ o4_ t4) [u5d2f t1 t2 A1 c1 t3 A2 c2 A3 c3 A4 c4 nx3 x2 g1_ o1_ g2_ o2_ g3_ o3_ g4_ o4_ t4 23] (framesOk.cons (fun u => rfl) framesOk.nil) ?_ [u5d2f t1 t2 A1 c1 t3 A2 c2 A3 c3 A4 c4 nx3 x2 g1_ o1_ g2_ o2_ g3_ o3_ g4_ o4_ t4 3, u5d2f t1 t2 A1 c1 t3 A2 c2 A3 c3 A4 c4 nx3 x2 g1_ o1_ g2_ o2_ g3_ o3_ g4_ o4_ t4 6, u5d2f t1 t2 A1 c1 t3 A2 c2 A3 c3 A4 c4 nx3 x2 g1_ o1_ g2_ o2_ g3_ o3_ g4_ o4_ t4 10, u5d2f t1 t2 A1 c1 t3 A2 c2 A3 c3 A4 c4 nx3 x2 g1_ o1_ g2_ o2_ g3_ o3_ g4_ o4_ t4 16, u5d2f t1 t2 A1 c1 t3 A2 c2 A3 c3 A4 c4 nx3 x2 g1_ o1_ g2_ o2_ g3_ o3_ g4_ o4_ t4 21, u5d2f t1 t2 A1 c1 t3 A2 c2 A3 c3 A4 c4 nx3 x2 g1_ o1_ g2_ o2_ g3_ o3_ g4_ o4_ t4 26] (framesOk.cons (fun u => rfl) (framesOk.cons (fun u => rfl) (framesOk.cons (fun u => rfl) (framesOk.cons (fun u => rfl) (framesOk.cons (fun u => rfl) (framesOk.cons (fun u => rfl) framesOk.nil)))))) ?_ ?_
         ·refine LoudsG.cons ?_ (LoudsG.nil)
          ·intro D u J w hp hJ hs hF
           refine Does.call 26 [.slice A1 t2.length c1, i6 (t3.1.f0.getD (x2).toNat 0), i6 (t3.1.f1.getD (x2).toNat 0)] (by kernel_rfl) ((armillaryref23_Value.calls kq1 J t2 A1 c1 (t3.1.f0.getD (x2).toNat 0) (t3.1.f1.getD (x2).toNat 0) w hs.im hl1 (Rd.ext (Imm.le_trans (Imm.le_trans (Imm.le_trans (Imm.le_trans (Imm.le_trans (Imm.le_trans hi4 hi5) hi6) hi7) hi8) hi10) hJ) hr1) t4 hA4).mono ?_)
           rintro e w' ⟨v, rfl, J2, rfl, hg⟩
           exact ⟨_, rfl, fun _ => (none, 0, []), J2, rfl, hg, trivial⟩
         ·refine Givens.cons (fun u w =>  ?_) (fun _ _ _ => rfl) (Givens.cons (fun u w =>  ?_) (fun _ _ _ => rfl) (Givens.cons (fun u w =>  ?_) (fun _ _ _ => rfl) (Givens.cons (fun u w =>  ?_) (fun _ _ _ => rfl) (Givens.cons (fun u w =>  ?_) (fun _ _ _ => rfl) (Givens.cons (fun u w =>  ?_) (fun _ _ _ => rfl) (Givens.nil))))))
          ·exact giv_idx (T := 27) (e := 2) 1 .i64 x2 hA1_ t3.1.f2.length c4 (by kernel_rfl) (by kernel_rfl) (by kernel_rfl) hi0_1 hi1_1 w
          ·exact giv_run (v := .bool (decide ((t3.1.f2.getD (x2).toNat 0) < 0))) (by kernel_rfl) (by rw [hb1]; try rfl) w
          ·exact giv_idx (T := 27) (e := 2) 1 .i64 x2 hA2_ t3.1.f2.length c4 (by kernel_rfl) (by kernel_rfl) (by kernel_rfl) hi0_2 hi1_2 w
          ·exact giv_idx (T := 26) (e := 3) 1 .i64 x2 hA3_ t3.1.f0.length c2 (by kernel_rfl) (by kernel_rfl) (by kernel_rfl) hi0_3 hi1_3 w
          ·exact giv_idx (T := 26) (e := 3) 1 .i64 x2 hA4_ t3.1.f1.length c3 (by kernel_rfl) (by kernel_rfl) (by kernel_rfl) hi0_4 hi1_4 w
          ·exact giv_run (v := .bool (decide ((t3.1.f2.getD (x2).toNat 0) > t4))) (by kernel_rfl) (by rw [hb2]; try rfl) w
         intro u I13 nx9 hi13 hF
         clear hF
         refine RL.norm (K' := ((63, undef) :: (62, undef) :: (61, undef) :: (60, undef) :: (59, undef) :: (58, undef) :: (57, undef) :: (56, .bool true) :: (55, .bool (decide ((t3.1.f2.getD (x2).toNat 0) > t4))) :: (54, .bool (decide ((t3.1.f2.getD (x2).toNat 0) > t4))) :: (53, i6 t4) :: (52, i6 (t3.1.f1.getD (x2).toNat 0)) :: (51, pt g4_ (o4_ + (x2).toNat * 1)) :: (50, i6 x2) :: (49, .slice A3 t3.1.f1.length c3) :: (48, pt nx3 1) :: (47, i6 (t3.1.f0.getD (x2).toNat 0)) :: (46, pt g3_ (o3_ + (x2).toNat * 1)) :: (45, i6 x2) :: (44, .slice A2 t3.1.f0.length c2) :: (43, pt nx3 0) :: (42, .slice A1 t2.length c1) :: (41, i6 (t3.1.f2.getD (x2).toNat 0)) :: (40, pt g2_ (o2_ + (x2).toNat * 1)) :: (39, i6 x2) :: (38, .slice A4 t3.1.f2.length c4) :: (37, pt nx3 2) :: (36, .bool false) :: (35, .bool (decide ((t3.1.f2.getD (x2).toNat 0) < 0))) :: (34, i6 (t3.1.f2.getD (x2).toNat 0)) :: (33, pt g1_ (o1_ + (x2).toNat * 1)) :: (32, i6 x2) :: (31, .slice A4 t3.1.f2.length c4) :: (30, pt nx3 2) :: (27, .bool (decide (x2 < (t3.1.f0.length : Int)))) :: (3, .bool t1) :: (4, .slice A1 t2.length c1) :: (5, pt nx3 0) :: (7, i6 x2) :: [])) (X' := []) (by kernel_rfl) rfl rfl rfl ?_
         refine RL.s 3 [(66, .bool true), (3, .bool t1), (4, .slice A1 t2.length c1), (5, pt nx3 0), (7, i6 x2)] ?_
         refine RL.nil (by kernel_rfl) ?_
         obtain rfl := Option.some.inj H
         exact QN.sb (hJ4 _ _ _ _ _ ⟨true, rfl, rfl, rfl, hi13, HK3⟩) (.cons_cons _ .slnil) (.refl _)
        ·have hc2 := (of_decide_eq_false hb2)
         rw [if_neg hc2] at H
         obtain ⟨hi0_5, H⟩ := ifs H
         obtain ⟨hi1_5, H⟩ := ifs H
         obtain ⟨g5_, o5_, hA5_, hc5_⟩ := Ty.int_at (Rd.ext (Imm.le_trans (Imm.le_trans (Imm.le_trans hi6 hi7) hi8) hi10) hr2) x2 hi0_5 hi1_5
         refine OK.drawnC 9 34 O5_38 a5_38n (by kernel_rfl) (by kernel_rfl) (u5d3l t4) (u5d3g x2 g1_ o1_ g2_ o2_ g3_ o3_ g4_ o4_ g5_ o5_) [(⟨g1_, o1_ + (x2).toNat * 1, none⟩, i6 (t3.1.f2.getD (x2).toNat 0)), (⟨g2_, o2_ + (x2).toNat * 1, none⟩, i6 (t3.1.f2.getD (x2).toNat 0)), (⟨g3_, o3_ + (x2).toNat * 1, none⟩, i6 (t3.1.f0.getD (x2).toNat 0)), (⟨g4_, o4_ + (x2).toNat * 1, none⟩, i6 (t3.1.f1.getD (x2).toNat 0)), (⟨g5_, o5_ + (x2).toNat * 1, none⟩, i6 (t3.1.f0.getD (x2).toNat 0))] (RI.cons (hc1_ 0 _ rfl) (RI.cons (hc2_ 0 _ rfl) (RI.cons (hc3_ 0 _ rfl) (RI.cons (hc4_ 0 _ rfl) (RI.cons (hc5_ 0 _ rfl) (RI.nil _)))))) (.no :: .l 0 :: .no :: .no :: .r 0 :: .no :: .no :: .no :: .l 0 :: .no :: .no :: .r 1 :: .no :: .no :: .l 0 :: .no :: .no :: .r 2 :: .no :: .l 0 :: .no :: .no :: .r 3 :: .no :: .no :: .no :: .no :: .no :: .l 0 :: .no :: .l 0 :: .no :: .no :: .r 4 :: []) a5_38 a5_38o (by kernel_rfl) (by kernel_rfl) (u5d3s t2 A1 c1 t3 A2 c2 A3 c3 A4 c4 nx3 x2 g1_ o1_ g2_ o2_ g3_ o3_ g4_ o4_ t4 g5_ o5_) (u5d3f t1 t2 A1 c1 t3 A2 c2 A3 c3 A4 c4 nx3 x2 g1_ o1_ g2_ o2_ g3_ o3_ g4_ o4_ t4 g5_ o5_ 34) (u5d3v t1 t2 A1 c1 t3 A2 c2 A3 c3 A4 c4 nx3 x2 g1_ o1_ g2_ o2_ g3_ o3_ g4_ o4_ t4 g5_ o5_) (u5d3e t1 t2 A1 c1 t3 A2 c2 A3 c3 A4 c4 nx3 x2 g1_ o1_ g2_ o2_ g3_ o3_ g4_ o4_ t4 g5_ o5_) [u5d3f t1 t2 A1 c1 t3 A2 c2 A3 c3 A4 c4 nx3 x2 g1_ o1_ g2_ o2_ g3_ o3_ g4_ o4_ t4 g5_ o5_ 23] (framesOk.cons (fun u => rfl) framesOk.nil) ?_ [u5d3f t1 t2 A1 c1 t3 A2 c2 A3 c3 A4 c4 nx3 x2 g1_ o1_ g2_ o2_ g3_ o3_ g4_ o4_ t4 g5_ o5_ 3, u5d3f t1 t2 A1 c1 t3 A2 c2 A3 c3 A4 c4 nx3 x2 g1_ o1_ g2_ o2_ g3_ o3_ g4_ o4_ t4 g5_ o5_ 6, u5d3f t1 t2 A1 c1 t3 A2 c2 A3 c3 A4 c4 nx3 x2 g1_ o1_ g2_ o2_ g3_ o3_ g4_ o4_ t4 g5_ o5_ 10, u5d3f t1 t2 A1 c1 t3 A2 c2 A3 c3 A4 c4 nx3 x2 g1_ o1_ g2_ o2_ g3_ o3_ g4_ o4_ t4 g5_ o5_ 16, u5d3f t1 t2 A1 c1 t3 A2 c2 A3 c3 A4 c4 nx3 x2 g1_ o1_ g2_ o2_ g3_ o3_ g4_ o4_ t4 g5_ o5_ 21, u5d3f t1 t2 A1 c1 t3 A2 c2 A3 c3 A4 c4 nx3 x2 g1_ o1_ g2_ o2_ g3_ o3_ g4_ o4_ t4 g5_ o5_ 26, u5d3f t1 t2 A1 c1 t3 A2 c2 A3 c3 A4 c4 nx3 x2 g1_ o1_ g2_ o2_ g3_ o3_ g4_ o4_ t4 g5_ o5_ 32] (framesOk.cons (fun u => rfl) (framesOk.cons (fun u => rfl) (framesOk.cons (fun u => rfl) (framesOk.cons (fun u => rfl) (framesOk.cons (fun u => rfl) (framesOk.cons (fun u => rfl) (framesOk.cons (fun u => rfl) framesOk.nil))))))) ?_ ?_
         ·refine LoudsG.cons ?_ (LoudsG.nil)
          ·intro D u J w hp hJ hs hF
           refine Does.call 26 [.slice A1 t2.length c1, i6 (t3.1.f0.getD (x2).toNat 0), i6 (t3.1.f1.getD (x2).toNat 0)] (by kernel_rfl) ((armillaryref23_Value.calls kq1 J t2 A1 c1 (t3.1.f0.getD (x2).toNat 0) (t3.1.f1.getD (x2).toNat 0) w hs.im hl1 (Rd.ext (Imm.le_trans (Imm.le_trans (Imm.le_trans (Imm.le_trans (Imm.le_trans (Imm.le_trans hi4 hi5) hi6) hi7) hi8) hi10) hJ) hr1) t4 hA4).mono ?_)
           rintro e w' ⟨v, rfl, J2, rfl, hg⟩
           exact ⟨_, rfl, fun _ => (none, 0, []), J2, rfl, hg, trivial⟩
         ·refine Givens.cons (fun u w =>  ?_) (fun _ _ _ => rfl) (Givens.cons (fun u w =>  ?_) (fun _ _ _ => rfl) (Givens.cons (fun u w =>  ?_) (fun _ _ _ => rfl) (Givens.cons (fun u w =>  ?_) (fun _ _ _ => rfl) (Givens.cons (fun u w =>  ?_) (fun _ _ _ => rfl) (Givens.cons (fun u w =>  ?_) (fun _ _ _ => rfl) (Givens.cons (fun u w =>  ?_) (fun _ _ _ => rfl) (Givens.nil)))))))
          ·exact giv_idx (T := 27) (e := 2) 1 .i64 x2 hA1_ t3.1.f2.length c4 (by kernel_rfl) (by kernel_rfl) (by kernel_rfl) hi0_1 hi1_1 w
          ·exact giv_run (v := .bool (decide ((t3.1.f2.getD (x2).toNat 0) < 0))) (by kernel_rfl) (by rw [hb1]; try rfl) w
          ·exact giv_idx (T := 27) (e := 2) 1 .i64 x2 hA2_ t3.1.f2.length c4 (by kernel_rfl) (by kernel_rfl) (by kernel_rfl) hi0_2 hi1_2 w
          ·exact giv_idx (T := 26) (e := 3) 1 .i64 x2 hA3_ t3.1.f0.length c2 (by kernel_rfl) (by kernel_rfl) (by kernel_rfl) hi0_3 hi1_3 w
          ·exact giv_idx (T := 26) (e := 3) 1 .i64 x2 hA4_ t3.1.f1.length c3 (by kernel_rfl) (by kernel_rfl) (by kernel_rfl) hi0_4 hi1_4 w
          ·exact giv_run (v := .bool (decide ((t3.1.f2.getD (x2).toNat 0) > t4))) (by kernel_rfl) (by rw [hb2]; try rfl) w
          ·exact giv_idx (T := 26) (e := 3) 1 .i64 x2 hA5_ t3.1.f0.length c2 (by kernel_rfl) (by kernel_rfl) (by kernel_rfl) hi0_5 hi1_5 w
         intro u I14 nx10 hi14 hF
         clear hF
         refine RL.norm (K' := ((63, i6 (t3.1.f0.getD (x2).toNat 0)) :: (62, pt g5_ (o5_ + (x2).toNat * 1)) :: (61, i6 x2) :: (60, .slice A2 t3.1.f0.length c2) :: (59, pt nx3 0) :: (58, .agg #[.slice A2 t3.1.f0.length c2, .slice A3 t3.1.f1.length c3, .slice A4 t3.1.f2.length c4]) :: (57, .slice A1 t2.length c1) :: (56, .bool false) :: (55, .bool (decide ((t3.1.f2.getD (x2).toNat 0) > t4))) :: (54, .bool (decide ((t3.1.f2.getD (x2).toNat 0) > t4))) :: (53, i6 t4) :: (52, i6 (t3.1.f1.getD (x2).toNat 0)) :: (51, pt g4_ (o4_ + (x2).toNat * 1)) :: (50, i6 x2) :: (49, .slice A3 t3.1.f1.length c3) :: (48, pt nx3 1) :: (47, i6 (t3.1.f0.getD (x2).toNat 0)) :: (46, pt g3_ (o3_ + (x2).toNat * 1)) :: (45, i6 x2) :: (44, .slice A2 t3.1.f0.length c2) :: (43, pt nx3 0) :: (42, .slice A1 t2.length c1) :: (41, i6 (t3.1.f2.getD (x2).toNat 0)) :: (40, pt g2_ (o2_ + (x2).toNat * 1)) :: (39, i6 x2) :: (38, .slice A4 t3.1.f2.length c4) :: (37, pt nx3 2) :: (36, .bool false) :: (35, .bool (decide ((t3.1.f2.getD (x2).toNat 0) < 0))) :: (34, i6 (t3.1.f2.getD (x2).toNat 0)) :: (33, pt g1_ (o1_ + (x2).toNat * 1)) :: (32, i6 x2) :: (31, .slice A4 t3.1.f2.length c4) :: (30, pt nx3 2) :: (27, .bool (decide (x2 < (t3.1.f0.length : Int)))) :: (3, .bool t1) :: (4, .slice A1 t2.length c1) :: (5, pt nx3 0) :: (7, i6 x2) :: [])) (X' := []) (by kernel_rfl) rfl rfl rfl ?_
         obtain ⟨t5, hA5, H⟩ := bnd H
         refine RL.callP 21 [.slice A1 t2.length c1, .agg #[.slice A2 t3.1.f0.length c2, .slice A3 t3.1.f1.length c3, .slice A4 t3.1.f2.length c4], i6 (t3.1.f0.getD (x2).toNat 0)] (some 64) (fun w => auction_Utility.Post I14 w t5) (by kernel_rfl) (by kernel_rfl) (fun w hs => auction_Utility.calls kq1 I14 t2 A1 c1 t3.1 A2 c2 A3 c3 A4 c4 (t3.1.f0.getD (x2).toNat 0) w hs.im hl1 (Rd.ext (Imm.le_trans (Imm.le_trans (Imm.le_trans (Imm.le_trans (Imm.le_trans (Imm.le_trans hi4 hi5) hi6) hi7) hi8) hi10) hi14) hr1) hl2 (Rd.ext (Imm.le_trans (Imm.le_trans (Imm.le_trans (Imm.le_trans hi6 hi7) hi8) hi10) hi14) hr2) hl3 (Rd.ext (Imm.le_trans (Imm.le_trans (Imm.le_trans hi7 hi8) hi10) hi14) hr3) hl4 (Rd.ext (Imm.le_trans (Imm.le_trans hi8 hi10) hi14) hr4) t5 hA5) ?_
         rintro w v w' hs ⟨I15, rfl, hg⟩
         have hi15 := hg.le
         refine RL.resume (X' := []) rfl (hs.call hg) ?_
         clear hs hg
         generalize w'.heap.size = nx11
         clear w w'
         refine RL.s 2 [(66, .bool (decide (t5 < 0))), (3, .bool t1), (4, .slice A1 t2.length c1), (5, pt nx3 0), (7, i6 x2)] ?_
         refine RL.nil (by kernel_rfl) ?_
         obtain rfl := Option.some.inj H
         exact QN.sb (hJ4 _ _ _ _ _ ⟨(decide (t5 < 0)), rfl, rfl, rfl, (Imm.le_trans hi14 hi15), HK3⟩) (.cons_cons _ .slnil) (.refl _)
     ·skip
      have hc := (of_decide_eq_false hb)
      rw [if_neg hc] at H
      clear hb
      refine OK.ex 0 ?_
      refine QN.thenE ?_
      refine QN.outE hQ3 ?_
      refine QN.blkE ?_
      obtain rfl := Option.some.inj H
      exact QN.sb (hJ2 _ _ _ _ _ ⟨rfl, rfl, rfl, hi10, HK2⟩) (.cons_cons _ .slnil) (.refl _)
 ·intro Q_3 hJ1 hQ1
  obtain ⟨y1, H, HK1⟩ := bnd H
  refine OK.rg ?_
  refine RL.s 3 [(18, .bool (t3.2 != 0)), (5, pt nx3 0), (4, .slice A1 t2.length c1), (3, .bool t1)] ?_
  refine RL.cases (t3.2 != 0) (fun hb => ?_) (fun hb => ?_)
  ·have hc := (bne_iff_ne.1 hb)
   rw [hb]
   rw [if_pos hc] at H; clear hb
   refine RL.s 4 [(22, .bool true), (5, pt nx3 0), (4, .slice A1 t2.length c1), (3, .bool t1)] ?_
   refine RL.nil (by kernel_rfl) ?_
   obtain rfl := Option.some.inj H
   exact QN.sb (hJ1 _ _ _ _ _ ⟨true, rfl, rfl, rfl, (Imm.le_refl _), HK1⟩) (.cons_cons _ .slnil) (.refl _)
  ·have hc := (not_not_intro (bne_eq_false_iff_eq.1 hb))
   rw [hb]
   rw [if_neg hc] at H; clear hb
   refine RL.simK (K' := [(19, .agg #[.slice A2 t3.1.f0.length c2, .slice A3 t3.1.f1.length c3, .slice A4 t3.1.f2.length c4]), (18, .bool false), (5, pt nx3 0), (4, .slice A1 t2.length c1), (3, .bool t1)]) [] (RFacts.nil _ _ _) 1 [.l 0] (by kernel_rfl) (by kernel_rfl) ?_
   obtain ⟨t6, hA6, H⟩ := bnd H
   refine RL.callP 25 [.agg #[.slice A2 t3.1.f0.length c2, .slice A3 t3.1.f1.length c3, .slice A4 t3.1.f2.length c4]] (some 20) (fun w => armillarylaw23_shaped.Post I7 w t6) (by kernel_rfl) (by kernel_rfl) (fun w hs => armillarylaw23_shaped.calls I7 t3.1 A2 c2 A3 c3 A4 c4 w hs.im hl2 (Rd.ext (Imm.le_trans hi6 hi7) hr2) hl3 (Rd.ext hi7 hr3) hl4 hr4 t6 hA6) ?_
   rintro w v w' hs ⟨I16, rfl, hg⟩
   have hi16 := hg.le
   refine RL.resume (X' := []) rfl (hs.call hg) ?_
   clear hs hg
   generalize w'.heap.size = nx12
   clear w w'
   refine RL.s 2 [(22, .bool (!t6)), (5, pt nx3 0), (4, .slice A1 t2.length c1), (3, .bool t1)] ?_
   refine RL.nil (by kernel_rfl) ?_
   obtain rfl := Option.some.inj H
   exact QN.sb (hJ1 _ _ _ _ _ ⟨(!t6), rfl, rfl, rfl, hi16, HK1⟩) (.cons_cons _ .slnil) (.refl _)

end Go.Proofs.Ytihmbmeelheinaa
namespace Go.Proofs.Ytihmbmeelheinaa
open Go Go.Proofs.Ytihmbmeelheinaa.RW Go.Proofs.Ytihmbmeelheinaa.auc
open Go.Proofs.Ytihmbmeelheinaa.hun (g sm Solved)
set_option linter.unusedVariables false
theorem rational_l1 {l : List S48} {d : S29} {σ : Int → Option Int} {X : Int} {Y : Int → Int} (k : Cl l d σ X Y) (h : okB l) : ∀ (q n : Nat), q + n = (ws l).length → Ev (fun f => armillarylaw23_AuctionRational.l1 l (d, 0) f (n : Int)) (.inl ())
  | 0, n, e => by
    obtain ⟨n0, n1, n2, n3⟩ := k.len0 h
    exact Ev.succ (g := fun _ => some _) (fun f => by rw [armillarylaw23_AuctionRational.l1, if_neg (by show ¬ (n : Int) < (d.f0.length : Int); omega)]) (Ev.const rfl)
  | q + 1, n, e => by
    obtain ⟨n0, n1, n2, n3⟩ := k.len0 h
    have hn : n < (ws l).length := by omega
    have ih := rational_l1 k h q (n + 1) (by omega)
    have c0 : (n : Int) < (((d, (0 : Int)).1.f0.length : Nat) : Int) := by show (n : Int) < (d.f0.length : Int); omega
    have c1 : (n : Int) < (((d, (0 : Int)).1.f1.length : Nat) : Int) := by show (n : Int) < (d.f1.length : Int); omega
    have c2 : (n : Int) < (((d, (0 : Int)).1.f2.length : Nat) : Int) := by show (n : Int) < (d.f2.length : Int); omega
    have cp : (0 : Int) ≤ (n : Int) := by omega
    obtain ⟨p1, p2, p3⟩ := k.pr h hn
    have hv := h.vb (g (ws l) n) (g d.f1 n)
    have hval := value_ev l (g d.f0 n) (g d.f1 n) (by have := h.n64; omega)
    have hut := k.util h (g d.f0 n)
    rw [k.who, if_pos (g_mem hn)] at hut
    rw [k.who] at hval
    refine Ev.succ (fun f => by rw [armillarylaw23_AuctionRational.l1, if_pos c0, Wn (by omega), tn]) ?_
    refine Ev.bind (r := false) ?_ (Ev.congr (fun f => if_neg (by decide)) ih)
    refine Ev.congr (fun f => if_pos cp) (Ev.congr (fun f => if_pos c2) (Ev.congr (fun f => if_neg (by show ¬ g d.f2 n < 0; omega)) (Ev.congr (fun f => if_pos cp) (Ev.congr (fun f => if_pos c2) (Ev.congr (fun f => if_pos cp) (Ev.congr (fun f => if_pos c0) (Ev.congr (fun f => if_pos cp) (Ev.congr (fun f => if_pos c1) ?_))))))))
    show Ev (fun f => (armillaryref23_Value.f f l (g d.f0 n) (g d.f1 n)).bind _) _
    rw [k.who]
    refine Ev.bind hval (Ev.congr (fun f => if_neg (by show ¬ g d.f2 n > _; omega)) (Ev.congr (fun f => if_pos cp) (Ev.congr (fun f => if_pos (by rw [← k.who]; exact c0)) (Ev.bind hut (Ev.const ?_)))))
    rw [decide_eq_false (by omega)]
theorem armillarylaw23_AuctionRational_holds (a0 : List S48) (hp0 : ∀ x ∈ a0, p48 x) (h0 : a0.length ≤ 9223372036854775807) : ∃ k, armillarylaw23_AuctionRational.f k a0 = some true := by
  obtain ⟨l, hg, hm⟩ := made_ev h0
  have h := hg.ok (by decide) (by decide)
  obtain ⟨d, cols, X, Y, hc, ⟨e, hs⟩, k⟩ := clear_ev h
  refine Ev.get (Ev.bind sanity_ev (Ev.bind hm (Ev.bind hc (Ev.bind1 (r := false) ?_ (Ev.congr (fun f => if_neg (by decide)) (Ev.bind (rational_l1 k h (ws l).length 0 rfl) (Ev.const rfl)))))))
  rw [if_neg (by simp), k.shaped]
  rfl
end Go.Proofs.Ytihmbmeelheinaa
namespace Go.Proofs.Ytihmbmeelheinaa.auctionRational
open Go.ChangeShapes Go.WideShapes Go.ChangeAt Go.RowKit Go.Proofs.Ytihmbmeelheinaa Go.Proofs.Ytihmbmeelheinaa.RW
open Go.ChangeMaps (open_string shut_string)
set_option linter.unusedVariables false
set_option maxRecDepth 1000000
set_option maxHeartbeats 8000000

theorem own : ownKnob Try.prog.godebug = none := by kernel_rfl
theorem laidOut : laidOutB Try.prog = true := by kernel_rfl
theorem lifted (os : Os) (started : os.Started) (H : Type) (enc : TypeId × Value → H) :
  ReturnsInHanded {} Try.checked os 5 .any (Rows.auctionRationalSpec.pre6 enc Try.prog Try.f5 Rows.auctionRationalRow.domain false) (Rows.auctionRationalSpec.post enc Try.prog Try.f5 false true false false) := by
 refine returnsInHanded_of_change (C := Try.checked) own started (by kernel_rfl) Try.func5
  (ChangeSpec.witness6 (enc := enc) (C := Try.checked) false ⟨#[], #[.slice none 0 0], []⟩ 8 (by kernel_rfl) (by kernel_rfl) (by kernel_rfl) (by kernel_rfl)) ?_
 intro W base args ds gs before hval0 hW hcnd _
 have hval : ∀ (j : Nat) t v, Try.f5.params[j]? = some t → args[j]? = some v → Value.okWide Try.prog W .any base t v := hval0
 have hW' := hW
 obtain ⟨p, q, hA0, hV, rfl, hfz, hnd⟩ := hW
 have hA : DataW.TrodAll enc Try.prog W 0 (fun _ => true) true Try.f5.params.toList args.toList ds p := hA0
 rw [Try.params5] at hA hval
 obtain ⟨v0, vs0, d0, ds0, p0, q0, hargs, rfl, rfl, h0, z0⟩ := trodAll_cons hA
 obtain ⟨rfl, rfl, rfl⟩ := trodAll_nil z0
 obtain rfl : args = #[v0] := by cases args; simp_all
 obtain ⟨rfl, rfl⟩ := trodVars_none hV
 have k0 := h0
 have lt0 : ∀ x ∈ p0, x.block < W.heap.size := by obtain ⟨m, hm⟩ := k0; exact DataW.trod_lt m _ _ _ hm
 obtain ⟨b0, len0, cap0, rfl⟩ := okWide_slice Try.underlying22 (hval 0 22 v0 rfl rfl)
 obtain ⟨fuel0, hf0⟩ := h0
 obtain ⟨a0, ⟨A0, c0, e0, l0, r0⟩, hp0⟩ := (opens_slice (e := 48) o48 (by kernel_rfl) (by kernel_rfl) (Nat.le_of_ble_eq_true (by kernel_rfl)) : Opens Try.prog (Ty.slice t48) 22 (fun l => ∀ x ∈ l, p48 x)) W 0 _ _ _ _ _ hf0
 obtain ⟨rfl, rfl, rfl⟩ : b0 = A0 ∧ len0 = a0.length ∧ cap0 = c0 := by simpa [Value.cells] using e0
 clear hA0 hval0
 obtain ⟨k, hk⟩ := armillarylaw23_AuctionRational_holds a0 hp0 r0.1
 refine (armillarylaw23_AuctionRational.calls k (wImm W) a0 b0 cap0 W (wImm_at W) l0 r0 true hk).mono ?_
 rintro e W' ⟨v, rfl, J, rfl, hg⟩
 have bel : Below W.heap.size W W' := ⟨hg.evo.os, hg.evo.tape, hg.evo.output, hg.evo.size, fun k hk => hg.evo.blk k hk (fun h => h)⟩
 exact ⟨_, rfl, _, _, _, [], _, [], hW', trodAll_mk1 (shut_bool Try.underlying4 _), (trodAll_cons_mk (Below.trod laidOut (by kernel_rfl) (of_decide_eq_true (by kernel_rfl)) k0 bel lt0) trodAll_mk0), rfl, bel.frame _, fun h => by cases h⟩

theorem over : Rows.auctionRationalRow.holds Try.pinned (OpenSpec.ofChange Rows.auctionRationalSpec) :=
 OpenClaim.holds_of_wide 5 Try.f5 rfl rfl rfl rfl rfl rfl rfl ⟨rfl, rfl, rfl, rfl, rfl⟩ rfl rfl rfl rfl rfl (by kernel_rfl) Try.func5 (by kernel_rfl)
  (of_decide_eq_true (by kernel_rfl)) (by unfold Func.isWrapper; first | (rw [if_pos (by decide +kernel)]; kernel_rfl) | (rw [if_neg (by decide +kernel)]; exact ⟨rfl, rfl⟩))
  (fun os started H enc _ => lifted os started H enc)
theorem proved : Rows.AuctionRationalSaid := over
#print axioms proved
end Go.Proofs.Ytihmbmeelheinaa.auctionRational
