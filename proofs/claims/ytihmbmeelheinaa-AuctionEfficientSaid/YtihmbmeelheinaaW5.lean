/- Words of the walk, the functions' walks and plain laws, joined; no conditions beyond those that the theorems name. -/
import Derived.Test.YtihmbmeelheinaaW2
import Derived.Test.YtihmbmeelheinaaW4
namespace Go.Proofs.Ytihmbmeelheinaa
open Go Go.Proofs.Ytihmbmeelheinaa.RW
set_option linter.unusedVariables false
set_option maxRecDepth 100000
set_option maxHeartbeats 8000000

/-! ### armillaryref23_Same: function 19, armillary/armillaryref23.Same -/
noncomputable def K19_0 : Code := cBody Try.f19
noncomputable def O19_29 : List Oper := cOps (cL (cL (cL (cR (cL (cL (cR (cL (cR (cR K19_0))))))))))
def armillaryref23_Same.k1  : (Unit) ⊕ (Bool) → Option (Bool)
 | .inl () => (some true)
 | .inr r_ => some r_
def armillaryref23_Same.l1 (a0 : S29) (a1 : S29) : Nat → Int → Option ((Unit) ⊕ (Bool))
 | 0, _ => none
 | k + 1, x2 => (if x2 < (a0.f0.length : Int) then ((if 0 ≤ x2 then (if x2 < (a0.f0.length : Int) then (if 0 ≤ x2 then (if x2 < (a1.f0.length : Int) then (if (a0.f0.getD (x2).toNat 0) ≠ (a1.f0.getD (x2).toNat 0) then (some true) else (if 0 ≤ x2 then (if x2 < (a0.f1.length : Int) then (if 0 ≤ x2 then (if x2 < (a1.f1.length : Int) then (if (a0.f1.getD (x2).toNat 0) ≠ (a1.f1.getD (x2).toNat 0) then (some true) else (if 0 ≤ x2 then (if x2 < (a0.f2.length : Int) then (if 0 ≤ x2 then (if x2 < (a1.f2.length : Int) then (some ((a0.f2.getD (x2).toNat 0) != (a1.f2.getD (x2).toNat 0))) else none) else none) else none) else none)) else none) else none) else none) else none)) else none) else none) else none) else none).bind (fun x3 => (if x3 = true then (some (Sum.inr false)) else (armillaryref23_Same.l1 a0 a1 k (W .i64 (x2 + 1)))))) else (some (Sum.inl ())))
def armillaryref23_Same.k3 (k : Nat) (a0 : S29) (a1 : S29) (x1 : Bool) : Option (Bool) := (if x1 = true then (some false) else ((armillaryref23_Same.l1 a0 a1 k 0).bind (armillaryref23_Same.k1)))
def armillaryref23_Same.f (k : Nat) (a0 : S29) (a1 : S29) : Option (Bool) := ((if (a0.f0.length : Int) ≠ (a1.f0.length : Int) then (some true) else (if (a0.f1.length : Int) ≠ (a1.f1.length : Int) then (some true) else (if (a0.f2.length : Int) ≠ (a1.f2.length : Int) then (some true) else (if (a0.f1.length : Int) ≠ (a0.f0.length : Int) then (some true) else (some ((a0.f2.length : Int) != (a0.f0.length : Int))))))).bind (armillaryref23_Same.k3 k a0 a1))
def armillaryref23_Same.Post (I : Imm) (w : World) (r : Bool) (v : Value) (w' : World) : Prop :=
 ∃ (J : Imm), v = .bool r ∧ Got w w' I J []
noncomputable def a19_29n : List Nat := (0 :: 1 :: 0 :: 7 :: 15 :: 0 :: 32 :: 0 :: 224 :: 480 :: 1023 :: 2047 :: 4095 :: 8191 :: 4095 :: 32767 :: 65535 :: 4095 :: 135167 :: 4095 :: 921599 :: 1970175 :: 4194303 :: 8388607 :: 16777215 :: 33554431 :: 67108863 :: 33554431 :: 268435455 :: 536870911 :: 33554431 :: 1107296255 :: 33554431 :: 7549747199 :: 16139681791 :: 34359738367 :: 68719476735 :: [])
theorem a19_29 : ancs O19_29 [] = a19_29n := by kernel_rfl
theorem a19_29o : drawOk O19_29 a19_29n 35 = true := by kernel_rfl
noncomputable def u19d1l  : List Ld :=
 []
noncomputable def u19d1g (x2 : Int) (g1_ : Nat) (o1_ : Nat) (g2_ : Nat) (o2_ : Nat) : List (Nat × ((Nat → Wt) → Value)) := [(3, fun u => pt g1_ (o1_ + (x2).toNat * 1)), (8, fun u => pt g2_ (o2_ + (x2).toNat * 1)), (11, fun u => .bool true)]
noncomputable def u19d1q (a0 : S29) (Ap0_0 : Option Addr) (cp0_0 : Nat) (Ap0_1 : Option Addr) (cp0_1 : Nat) (Ap0_2 : Option Addr) (cp0_2 : Nat) (a1 : S29) (Ap1_0 : Option Addr) (cp1_0 : Nat) (Ap1_1 : Option Addr) (cp1_1 : Nat) (Ap1_2 : Option Addr) (cp1_2 : Nat) (nx0 : Nat) (x2 : Int) (g1_ : Nat) (o1_ : Nat) (g2_ : Nat) (o2_ : Nat) (u : Nat → Wt) : Option (List Value × List (Nat × Value) × List (Nat × Nat)) := qSim Try.prog [(⟨g1_, o1_ + (x2).toNat * 1, none⟩, i6 (a0.f0.getD (x2).toNat 0)), (⟨g2_, o2_ + (x2).toNat * 1, none⟩, i6 (a1.f0.getD (x2).toNat 0))] [⟨nx0, [.slice Ap0_0 a0.f0.length cp0_0, .slice Ap0_1 a0.f1.length cp0_1, .slice Ap0_2 a0.f2.length cp0_2], 29⟩, ⟨nx0 + 1, [.slice Ap1_0 a1.f0.length cp1_0, .slice Ap1_1 a1.f1.length cp1_1, .slice Ap1_2 a1.f2.length cp1_2], 29⟩] O19_29 ⟨93, []⟩ (Ld.vl u19d1l) (u19d1g x2 g1_ o1_ g2_ o2_) u (.no :: .l 0 :: .no :: .no :: .r 0 :: .no :: .l 1 :: .no :: .no :: .r 1 :: .no :: .no :: .no :: .no :: .no :: .no :: .no :: .no :: .no :: .no :: .no :: .no :: .no :: .no :: .no :: .no :: .no :: .no :: .no :: .no :: .no :: .no :: .no :: .no :: .no :: []) 0 (O19_29.take 35) [(53, .bool (decide (x2 < (a0.f0.length : Int)))), (2, pt nx0 0), (3, pt (nx0 + 1) 0), (5, i6 x2)]
noncomputable def u19d1s (a0 : S29) (Ap0_0 : Option Addr) (cp0_0 : Nat) (a1 : S29) (Ap1_0 : Option Addr) (cp1_0 : Nat) (nx0 : Nat) (x2 : Int) (g1_ : Nat) (o1_ : Nat) (g2_ : Nat) (o2_ : Nat) (u : Nat → Wt) : List Value := (pt nx0 0 :: .slice Ap0_0 a0.f0.length cp0_0 :: i6 x2 :: pt g1_ (o1_ + (x2).toNat * 1) :: i6 (a0.f0.getD (x2).toNat 0) :: pt (nx0 + 1) 0 :: .slice Ap1_0 a1.f0.length cp1_0 :: i6 x2 :: pt g2_ (o2_ + (x2).toNat * 1) :: i6 (a1.f0.getD (x2).toNat 0) :: .bool ((a0.f0.getD (x2).toNat 0) != (a1.f0.getD (x2).toNat 0)) :: .bool true :: undef :: undef :: undef :: undef :: undef :: undef :: undef :: undef :: undef :: undef :: undef :: .bool true :: .bool true :: undef :: undef :: undef :: undef :: undef :: undef :: undef :: undef :: undef :: undef :: [])
noncomputable def u19d1f (a0 : S29) (Ap0_0 : Option Addr) (cp0_0 : Nat) (a1 : S29) (Ap1_0 : Option Addr) (cp1_0 : Nat) (nx0 : Nat) (x2 : Int) (g1_ : Nat) (o1_ : Nat) (g2_ : Nat) (o2_ : Nat) (i : Nat) (u : Nat → Wt) : List (Nat × Value) := foldPut ⟨93, []⟩ [(53, .bool (decide (x2 < (a0.f0.length : Int)))), (2, pt nx0 0), (3, pt (nx0 + 1) 0), (5, i6 x2)] (O19_29.take i) (((u19d1s a0 Ap0_0 cp0_0 a1 Ap1_0 cp1_0 nx0 x2 g1_ o1_ g2_ o2_) u).take i)
theorem u19d1v (a0 : S29) (Ap0_0 : Option Addr) (cp0_0 : Nat) (Ap0_1 : Option Addr) (cp0_1 : Nat) (Ap0_2 : Option Addr) (cp0_2 : Nat) (a1 : S29) (Ap1_0 : Option Addr) (cp1_0 : Nat) (Ap1_1 : Option Addr) (cp1_1 : Nat) (Ap1_2 : Option Addr) (cp1_2 : Nat) (nx0 : Nat) (x2 : Int) (g1_ : Nat) (o1_ : Nat) (g2_ : Nat) (o2_ : Nat) (u : Nat → Wt) : (u19d1q a0 Ap0_0 cp0_0 Ap0_1 cp0_1 Ap0_2 cp0_2 a1 Ap1_0 cp1_0 Ap1_1 cp1_1 Ap1_2 cp1_2 nx0 x2 g1_ o1_ g2_ o2_ u).map (fun x => (x.1, x.2.1)) = some ((u19d1s a0 Ap0_0 cp0_0 a1 Ap1_0 cp1_0 nx0 x2 g1_ o1_ g2_ o2_) u, (u19d1f a0 Ap0_0 cp0_0 a1 Ap1_0 cp1_0 nx0 x2 g1_ o1_ g2_ o2_ 35) u) := by kernel_rfl
theorem u19d1e (a0 : S29) (Ap0_0 : Option Addr) (cp0_0 : Nat) (Ap0_1 : Option Addr) (cp0_1 : Nat) (Ap0_2 : Option Addr) (cp0_2 : Nat) (a1 : S29) (Ap1_0 : Option Addr) (cp1_0 : Nat) (Ap1_1 : Option Addr) (cp1_1 : Nat) (Ap1_2 : Option Addr) (cp1_2 : Nat) (nx0 : Nat) (x2 : Int) (g1_ : Nat) (o1_ : Nat) (g2_ : Nat) (o2_ : Nat) (u : Nat → Wt) : (u19d1q a0 Ap0_0 cp0_0 Ap0_1 cp0_1 Ap0_2 cp0_2 a1 Ap1_0 cp1_0 Ap1_1 cp1_1 Ap1_2 cp1_2 nx0 x2 g1_ o1_ g2_ o2_ u).map (fun x => x.2.2.map (·.1)) = (u19d1q a0 Ap0_0 cp0_0 Ap0_1 cp0_1 Ap0_2 cp0_2 a1 Ap1_0 cp1_0 Ap1_1 cp1_1 Ap1_2 cp1_2 nx0 x2 g1_ o1_ g2_ o2_ u).map (fun x => x.2.2.map (·.2)) := by kernel_rfl
noncomputable def u19d2l  : List Ld :=
 []
noncomputable def u19d2g (x2 : Int) (g1_ : Nat) (o1_ : Nat) (g2_ : Nat) (o2_ : Nat) (g3_ : Nat) (o3_ : Nat) (g4_ : Nat) (o4_ : Nat) : List (Nat × ((Nat → Wt) → Value)) := [(3, fun u => pt g1_ (o1_ + (x2).toNat * 1)), (8, fun u => pt g2_ (o2_ + (x2).toNat * 1)), (11, fun u => .bool false), (15, fun u => pt g3_ (o3_ + (x2).toNat * 1)), (20, fun u => pt g4_ (o4_ + (x2).toNat * 1)), (24, fun u => .bool true)]
noncomputable def u19d2q (a0 : S29) (Ap0_0 : Option Addr) (cp0_0 : Nat) (Ap0_1 : Option Addr) (cp0_1 : Nat) (Ap0_2 : Option Addr) (cp0_2 : Nat) (a1 : S29) (Ap1_0 : Option Addr) (cp1_0 : Nat) (Ap1_1 : Option Addr) (cp1_1 : Nat) (Ap1_2 : Option Addr) (cp1_2 : Nat) (nx0 : Nat) (x2 : Int) (g1_ : Nat) (o1_ : Nat) (g2_ : Nat) (o2_ : Nat) (g3_ : Nat) (o3_ : Nat) (g4_ : Nat) (o4_ : Nat) (u : Nat → Wt) : Option (List Value × List (Nat × Value) × List (Nat × Nat)) := qSim Try.prog [(⟨g1_, o1_ + (x2).toNat * 1, none⟩, i6 (a0.f0.getD (x2).toNat 0)), (⟨g2_, o2_ + (x2).toNat * 1, none⟩, i6 (a1.f0.getD (x2).toNat 0)), (⟨g3_, o3_ + (x2).toNat * 1, none⟩, i6 (a0.f1.getD (x2).toNat 0)), (⟨g4_, o4_ + (x2).toNat * 1, none⟩, i6 (a1.f1.getD (x2).toNat 0))] [⟨nx0, [.slice Ap0_0 a0.f0.length cp0_0, .slice Ap0_1 a0.f1.length cp0_1, .slice Ap0_2 a0.f2.length cp0_2], 29⟩, ⟨nx0 + 1, [.slice Ap1_0 a1.f0.length cp1_0, .slice Ap1_1 a1.f1.length cp1_1, .slice Ap1_2 a1.f2.length cp1_2], 29⟩] O19_29 ⟨93, []⟩ (Ld.vl u19d2l) (u19d2g x2 g1_ o1_ g2_ o2_ g3_ o3_ g4_ o4_) u (.no :: .l 0 :: .no :: .no :: .r 0 :: .no :: .l 1 :: .no :: .no :: .r 1 :: .no :: .no :: .no :: .l 0 :: .no :: .no :: .r 2 :: .no :: .l 1 :: .no :: .no :: .r 3 :: .no :: .no :: .no :: .no :: .no :: .no :: .no :: .no :: .no :: .no :: .no :: .no :: .no :: []) 0 (O19_29.take 35) [(53, .bool (decide (x2 < (a0.f0.length : Int)))), (2, pt nx0 0), (3, pt (nx0 + 1) 0), (5, i6 x2)]
noncomputable def u19d2s (a0 : S29) (Ap0_0 : Option Addr) (cp0_0 : Nat) (Ap0_1 : Option Addr) (cp0_1 : Nat) (a1 : S29) (Ap1_0 : Option Addr) (cp1_0 : Nat) (Ap1_1 : Option Addr) (cp1_1 : Nat) (nx0 : Nat) (x2 : Int) (g1_ : Nat) (o1_ : Nat) (g2_ : Nat) (o2_ : Nat) (g3_ : Nat) (o3_ : Nat) (g4_ : Nat) (o4_ : Nat) (u : Nat → Wt) : List Value := (pt nx0 0 :: .slice Ap0_0 a0.f0.length cp0_0 :: i6 x2 :: pt g1_ (o1_ + (x2).toNat * 1) :: i6 (a0.f0.getD (x2).toNat 0) :: pt (nx0 + 1) 0 :: .slice Ap1_0 a1.f0.length cp1_0 :: i6 x2 :: pt g2_ (o2_ + (x2).toNat * 1) :: i6 (a1.f0.getD (x2).toNat 0) :: .bool ((a0.f0.getD (x2).toNat 0) != (a1.f0.getD (x2).toNat 0)) :: .bool false :: pt nx0 1 :: .slice Ap0_1 a0.f1.length cp0_1 :: i6 x2 :: pt g3_ (o3_ + (x2).toNat * 1) :: i6 (a0.f1.getD (x2).toNat 0) :: pt (nx0 + 1) 1 :: .slice Ap1_1 a1.f1.length cp1_1 :: i6 x2 :: pt g4_ (o4_ + (x2).toNat * 1) :: i6 (a1.f1.getD (x2).toNat 0) :: .bool ((a0.f1.getD (x2).toNat 0) != (a1.f1.getD (x2).toNat 0)) :: .bool ((a0.f1.getD (x2).toNat 0) != (a1.f1.getD (x2).toNat 0)) :: .bool true :: undef :: undef :: undef :: undef :: undef :: undef :: undef :: undef :: undef :: undef :: [])
noncomputable def u19d2f (a0 : S29) (Ap0_0 : Option Addr) (cp0_0 : Nat) (Ap0_1 : Option Addr) (cp0_1 : Nat) (a1 : S29) (Ap1_0 : Option Addr) (cp1_0 : Nat) (Ap1_1 : Option Addr) (cp1_1 : Nat) (nx0 : Nat) (x2 : Int) (g1_ : Nat) (o1_ : Nat) (g2_ : Nat) (o2_ : Nat) (g3_ : Nat) (o3_ : Nat) (g4_ : Nat) (o4_ : Nat) (i : Nat) (u : Nat → Wt) : List (Nat × Value) := foldPut ⟨93, []⟩ [(53, .bool (decide (x2 < (a0.f0.length : Int)))), (2, pt nx0 0), (3, pt (nx0 + 1) 0), (5, i6 x2)] (O19_29.take i) (((u19d2s a0 Ap0_0 cp0_0 Ap0_1 cp0_1 a1 Ap1_0 cp1_0 Ap1_1 cp1_1 nx0 x2 g1_ o1_ g2_ o2_ g3_ o3_ g4_ o4_) u).take i)
theorem u19d2v (a0 : S29) (Ap0_0 : Option Addr) (cp0_0 : Nat) (Ap0_1 : Option Addr) (cp0_1 : Nat) (Ap0_2 : Option Addr) (cp0_2 : Nat) (a1 : S29) (Ap1_0 : Option Addr) (cp1_0 : Nat) (Ap1_1 : Option Addr) (cp1_1 : Nat) (Ap1_2 : Option Addr) (cp1_2 : Nat) (nx0 : Nat) (x2 : Int) (g1_ : Nat) (o1_ : Nat) (g2_ : Nat) (o2_ : Nat) (g3_ : Nat) (o3_ : Nat) (g4_ : Nat) (o4_ : Nat) (u : Nat → Wt) : (u19d2q a0 Ap0_0 cp0_0 Ap0_1 cp0_1 Ap0_2 cp0_2 a1 Ap1_0 cp1_0 Ap1_1 cp1_1 Ap1_2 cp1_2 nx0 x2 g1_ o1_ g2_ o2_ g3_ o3_ g4_ o4_ u).map (fun x => (x.1, x.2.1)) = some ((u19d2s a0 Ap0_0 cp0_0 Ap0_1 cp0_1 a1 Ap1_0 cp1_0 Ap1_1 cp1_1 nx0 x2 g1_ o1_ g2_ o2_ g3_ o3_ g4_ o4_) u, (u19d2f a0 Ap0_0 cp0_0 Ap0_1 cp0_1 a1 Ap1_0 cp1_0 Ap1_1 cp1_1 nx0 x2 g1_ o1_ g2_ o2_ g3_ o3_ g4_ o4_ 35) u) := by kernel_rfl
theorem u19d2e (a0 : S29) (Ap0_0 : Option Addr) (cp0_0 : Nat) (Ap0_1 : Option Addr) (cp0_1 : Nat) (Ap0_2 : Option Addr) (cp0_2 : Nat) (a1 : S29) (Ap1_0 : Option Addr) (cp1_0 : Nat) (Ap1_1 : Option Addr) (cp1_1 : Nat) (Ap1_2 : Option Addr) (cp1_2 : Nat) (nx0 : Nat) (x2 : Int) (g1_ : Nat) (o1_ : Nat) (g2_ : Nat) (o2_ : Nat) (g3_ : Nat) (o3_ : Nat) (g4_ : Nat) (o4_ : Nat) (u : Nat → Wt) : (u19d2q a0 Ap0_0 cp0_0 Ap0_1 cp0_1 Ap0_2 cp0_2 a1 Ap1_0 cp1_0 Ap1_1 cp1_1 Ap1_2 cp1_2 nx0 x2 g1_ o1_ g2_ o2_ g3_ o3_ g4_ o4_ u).map (fun x => x.2.2.map (·.1)) = (u19d2q a0 Ap0_0 cp0_0 Ap0_1 cp0_1 Ap0_2 cp0_2 a1 Ap1_0 cp1_0 Ap1_1 cp1_1 Ap1_2 cp1_2 nx0 x2 g1_ o1_ g2_ o2_ g3_ o3_ g4_ o4_ u).map (fun x => x.2.2.map (·.2)) := by kernel_rfl
noncomputable def u19d3l  : List Ld :=
 []
noncomputable def u19d3g (x2 : Int) (g1_ : Nat) (o1_ : Nat) (g2_ : Nat) (o2_ : Nat) (g3_ : Nat) (o3_ : Nat) (g4_ : Nat) (o4_ : Nat) (g5_ : Nat) (o5_ : Nat) (g6_ : Nat) (o6_ : Nat) : List (Nat × ((Nat → Wt) → Value)) := [(3, fun u => pt g1_ (o1_ + (x2).toNat * 1)), (8, fun u => pt g2_ (o2_ + (x2).toNat * 1)), (11, fun u => .bool false), (15, fun u => pt g3_ (o3_ + (x2).toNat * 1)), (20, fun u => pt g4_ (o4_ + (x2).toNat * 1)), (24, fun u => .bool false), (28, fun u => pt g5_ (o5_ + (x2).toNat * 1)), (33, fun u => pt g6_ (o6_ + (x2).toNat * 1))]
noncomputable def u19d3q (a0 : S29) (Ap0_0 : Option Addr) (cp0_0 : Nat) (Ap0_1 : Option Addr) (cp0_1 : Nat) (Ap0_2 : Option Addr) (cp0_2 : Nat) (a1 : S29) (Ap1_0 : Option Addr) (cp1_0 : Nat) (Ap1_1 : Option Addr) (cp1_1 : Nat) (Ap1_2 : Option Addr) (cp1_2 : Nat) (nx0 : Nat) (x2 : Int) (g1_ : Nat) (o1_ : Nat) (g2_ : Nat) (o2_ : Nat) (g3_ : Nat) (o3_ : Nat) (g4_ : Nat) (o4_ : Nat) (g5_ : Nat) (o5_ : Nat) (g6_ : Nat) (o6_ : Nat) (u : Nat → Wt) : Option (List Value × List (Nat × Value) × List (Nat × Nat)) := qSim Try.prog [(⟨g1_, o1_ + (x2).toNat * 1, none⟩, i6 (a0.f0.getD (x2).toNat 0)), (⟨g2_, o2_ + (x2).toNat * 1, none⟩, i6 (a1.f0.getD (x2).toNat 0)), (⟨g3_, o3_ + (x2).toNat * 1, none⟩, i6 (a0.f1.getD (x2).toNat 0)), (⟨g4_, o4_ + (x2).toNat * 1, none⟩, i6 (a1.f1.getD (x2).toNat 0)), (⟨g5_, o5_ + (x2).toNat * 1, none⟩, i6 (a0.f2.getD (x2).toNat 0)), (⟨g6_, o6_ + (x2).toNat * 1, none⟩, i6 (a1.f2.getD (x2).toNat 0))] [⟨nx0, [.slice Ap0_0 a0.f0.length cp0_0, .slice Ap0_1 a0.f1.length cp0_1, .slice Ap0_2 a0.f2.length cp0_2], 29⟩, ⟨nx0 + 1, [.slice Ap1_0 a1.f0.length cp1_0, .slice Ap1_1 a1.f1.length cp1_1, .slice Ap1_2 a1.f2.length cp1_2], 29⟩] O19_29 ⟨93, []⟩ (Ld.vl u19d3l) (u19d3g x2 g1_ o1_ g2_ o2_ g3_ o3_ g4_ o4_ g5_ o5_ g6_ o6_) u (.no :: .l 0 :: .no :: .no :: .r 0 :: .no :: .l 1 :: .no :: .no :: .r 1 :: .no :: .no :: .no :: .l 0 :: .no :: .no :: .r 2 :: .no :: .l 1 :: .no :: .no :: .r 3 :: .no :: .no :: .no :: .no :: .l 0 :: .no :: .no :: .r 4 :: .no :: .l 1 :: .no :: .no :: .r 5 :: []) 0 (O19_29.take 35) [(53, .bool (decide (x2 < (a0.f0.length : Int)))), (2, pt nx0 0), (3, pt (nx0 + 1) 0), (5, i6 x2)]
noncomputable def u19d3s (a0 : S29) (Ap0_0 : Option Addr) (cp0_0 : Nat) (Ap0_1 : Option Addr) (cp0_1 : Nat) (Ap0_2 : Option Addr) (cp0_2 : Nat) (a1 : S29) (Ap1_0 : Option Addr) (cp1_0 : Nat) (Ap1_1 : Option Addr) (cp1_1 : Nat) (Ap1_2 : Option Addr) (cp1_2 : Nat) (nx0 : Nat) (x2 : Int) (g1_ : Nat) (o1_ : Nat) (g2_ : Nat) (o2_ : Nat) (g3_ : Nat) (o3_ : Nat) (g4_ : Nat) (o4_ : Nat) (g5_ : Nat) (o5_ : Nat) (g6_ : Nat) (o6_ : Nat) (u : Nat → Wt) : List Value := (pt nx0 0 :: .slice Ap0_0 a0.f0.length cp0_0 :: i6 x2 :: pt g1_ (o1_ + (x2).toNat * 1) :: i6 (a0.f0.getD (x2).toNat 0) :: pt (nx0 + 1) 0 :: .slice Ap1_0 a1.f0.length cp1_0 :: i6 x2 :: pt g2_ (o2_ + (x2).toNat * 1) :: i6 (a1.f0.getD (x2).toNat 0) :: .bool ((a0.f0.getD (x2).toNat 0) != (a1.f0.getD (x2).toNat 0)) :: .bool false :: pt nx0 1 :: .slice Ap0_1 a0.f1.length cp0_1 :: i6 x2 :: pt g3_ (o3_ + (x2).toNat * 1) :: i6 (a0.f1.getD (x2).toNat 0) :: pt (nx0 + 1) 1 :: .slice Ap1_1 a1.f1.length cp1_1 :: i6 x2 :: pt g4_ (o4_ + (x2).toNat * 1) :: i6 (a1.f1.getD (x2).toNat 0) :: .bool ((a0.f1.getD (x2).toNat 0) != (a1.f1.getD (x2).toNat 0)) :: .bool ((a0.f1.getD (x2).toNat 0) != (a1.f1.getD (x2).toNat 0)) :: .bool false :: pt nx0 2 :: .slice Ap0_2 a0.f2.length cp0_2 :: i6 x2 :: pt g5_ (o5_ + (x2).toNat * 1) :: i6 (a0.f2.getD (x2).toNat 0) :: pt (nx0 + 1) 2 :: .slice Ap1_2 a1.f2.length cp1_2 :: i6 x2 :: pt g6_ (o6_ + (x2).toNat * 1) :: i6 (a1.f2.getD (x2).toNat 0) :: [])
noncomputable def u19d3f (a0 : S29) (Ap0_0 : Option Addr) (cp0_0 : Nat) (Ap0_1 : Option Addr) (cp0_1 : Nat) (Ap0_2 : Option Addr) (cp0_2 : Nat) (a1 : S29) (Ap1_0 : Option Addr) (cp1_0 : Nat) (Ap1_1 : Option Addr) (cp1_1 : Nat) (Ap1_2 : Option Addr) (cp1_2 : Nat) (nx0 : Nat) (x2 : Int) (g1_ : Nat) (o1_ : Nat) (g2_ : Nat) (o2_ : Nat) (g3_ : Nat) (o3_ : Nat) (g4_ : Nat) (o4_ : Nat) (g5_ : Nat) (o5_ : Nat) (g6_ : Nat) (o6_ : Nat) (i : Nat) (u : Nat → Wt) : List (Nat × Value) := foldPut ⟨93, []⟩ [(53, .bool (decide (x2 < (a0.f0.length : Int)))), (2, pt nx0 0), (3, pt (nx0 + 1) 0), (5, i6 x2)] (O19_29.take i) (((u19d3s a0 Ap0_0 cp0_0 Ap0_1 cp0_1 Ap0_2 cp0_2 a1 Ap1_0 cp1_0 Ap1_1 cp1_1 Ap1_2 cp1_2 nx0 x2 g1_ o1_ g2_ o2_ g3_ o3_ g4_ o4_ g5_ o5_ g6_ o6_) u).take i)
theorem u19d3v (a0 : S29) (Ap0_0 : Option Addr) (cp0_0 : Nat) (Ap0_1 : Option Addr) (cp0_1 : Nat) (Ap0_2 : Option Addr) (cp0_2 : Nat) (a1 : S29) (Ap1_0 : Option Addr) (cp1_0 : Nat) (Ap1_1 : Option Addr) (cp1_1 : Nat) (Ap1_2 : Option Addr) (cp1_2 : Nat) (nx0 : Nat) (x2 : Int) (g1_ : Nat) (o1_ : Nat) (g2_ : Nat) (o2_ : Nat) (g3_ : Nat) (o3_ : Nat) (g4_ : Nat) (o4_ : Nat) (g5_ : Nat) (o5_ : Nat) (g6_ : Nat) (o6_ : Nat) (u : Nat → Wt) : (u19d3q a0 Ap0_0 cp0_0 Ap0_1 cp0_1 Ap0_2 cp0_2 a1 Ap1_0 cp1_0 Ap1_1 cp1_1 Ap1_2 cp1_2 nx0 x2 g1_ o1_ g2_ o2_ g3_ o3_ g4_ o4_ g5_ o5_ g6_ o6_ u).map (fun x => (x.1, x.2.1)) = some ((u19d3s a0 Ap0_0 cp0_0 Ap0_1 cp0_1 Ap0_2 cp0_2 a1 Ap1_0 cp1_0 Ap1_1 cp1_1 Ap1_2 cp1_2 nx0 x2 g1_ o1_ g2_ o2_ g3_ o3_ g4_ o4_ g5_ o5_ g6_ o6_) u, (u19d3f a0 Ap0_0 cp0_0 Ap0_1 cp0_1 Ap0_2 cp0_2 a1 Ap1_0 cp1_0 Ap1_1 cp1_1 Ap1_2 cp1_2 nx0 x2 g1_ o1_ g2_ o2_ g3_ o3_ g4_ o4_ g5_ o5_ g6_ o6_ 35) u) := by kernel_rfl
theorem u19d3e (a0 : S29) (Ap0_0 : Option Addr) (cp0_0 : Nat) (Ap0_1 : Option Addr) (cp0_1 : Nat) (Ap0_2 : Option Addr) (cp0_2 : Nat) (a1 : S29) (Ap1_0 : Option Addr) (cp1_0 : Nat) (Ap1_1 : Option Addr) (cp1_1 : Nat) (Ap1_2 : Option Addr) (cp1_2 : Nat) (nx0 : Nat) (x2 : Int) (g1_ : Nat) (o1_ : Nat) (g2_ : Nat) (o2_ : Nat) (g3_ : Nat) (o3_ : Nat) (g4_ : Nat) (o4_ : Nat) (g5_ : Nat) (o5_ : Nat) (g6_ : Nat) (o6_ : Nat) (u : Nat → Wt) : (u19d3q a0 Ap0_0 cp0_0 Ap0_1 cp0_1 Ap0_2 cp0_2 a1 Ap1_0 cp1_0 Ap1_1 cp1_1 Ap1_2 cp1_2 nx0 x2 g1_ o1_ g2_ o2_ g3_ o3_ g4_ o4_ g5_ o5_ g6_ o6_ u).map (fun x => x.2.2.map (·.1)) = (u19d3q a0 Ap0_0 cp0_0 Ap0_1 cp0_1 Ap0_2 cp0_2 a1 Ap1_0 cp1_0 Ap1_1 cp1_1 Ap1_2 cp1_2 nx0 x2 g1_ o1_ g2_ o2_ g3_ o3_ g4_ o4_ g5_ o5_ g6_ o6_ u).map (fun x => x.2.2.map (·.2)) := by kernel_rfl
theorem armillaryref23_Same.calls (k : Nat) (I0 : Imm) (a0 : S29) (Ap0_0 : Option Addr) (cp0_0 : Nat) (Ap0_1 : Option Addr) (cp0_1 : Nat) (Ap0_2 : Option Addr) (cp0_2 : Nat) (a1 : S29) (Ap1_0 : Option Addr) (cp1_0 : Nat) (Ap1_1 : Option Addr) (cp1_1 : Nat) (Ap1_2 : Option Addr) (cp1_2 : Nat) (w : World) (hI : I0.at_ w) (hlp0_0 : a0.f0.length ≤ cp0_0) (hrp0_0 : Rd (Ty.int .i64) I0 Ap0_0 a0.f0) (hlp0_1 : a0.f1.length ≤ cp0_1) (hrp0_1 : Rd (Ty.int .i64) I0 Ap0_1 a0.f1) (hlp0_2 : a0.f2.length ≤ cp0_2) (hrp0_2 : Rd (Ty.int .i64) I0 Ap0_2 a0.f2) (hlp1_0 : a1.f0.length ≤ cp1_0) (hrp1_0 : Rd (Ty.int .i64) I0 Ap1_0 a1.f0) (hlp1_1 : a1.f1.length ≤ cp1_1) (hrp1_1 : Rd (Ty.int .i64) I0 Ap1_1 a1.f1) (hlp1_2 : a1.f2.length ≤ cp1_2) (hrp1_2 : Rd (Ty.int .i64) I0 Ap1_2 a1.f2) (r : Bool) (h : armillaryref23_Same.f k a0 a1 = some r) :
  Calls Try.prog 19 [.agg #[.slice Ap0_0 a0.f0.length cp0_0, .slice Ap0_1 a0.f1.length cp0_1, .slice Ap0_2 a0.f2.length cp0_2], .agg #[.slice Ap1_0 a1.f0.length cp1_0, .slice Ap1_1 a1.f1.length cp1_1, .slice Ap1_2 a1.f2.length cp1_2]].toArray w fun e w' => ∃ v, e = .returned v ∧ armillaryref23_Same.Post I0 w r v w' := by
 have H : ((if (a0.f0.length : Int) ≠ (a1.f0.length : Int) then (some true) else (if (a0.f1.length : Int) ≠ (a1.f1.length : Int) then (some true) else (if (a0.f2.length : Int) ≠ (a1.f2.length : Int) then (some true) else (if (a0.f1.length : Int) ≠ (a0.f0.length : Int) then (some true) else (some ((a0.f2.length : Int) != (a0.f0.length : Int))))))).bind (armillaryref23_Same.k3 k a0 a1)) = some r := h
 clear h
 refine calls_body Try.func19 (by kernel_rfl) 93 (by kernel_rfl) (by kernel_rfl) ⟨w, fun _ => False, I0⟩ I0 [] [(0, .agg #[.slice Ap0_0 a0.f0.length cp0_0, .slice Ap0_1 a0.f1.length cp0_1, .slice Ap0_2 a0.f2.length cp0_2]), (1, .agg #[.slice Ap1_0 a1.f0.length cp1_0, .slice Ap1_1 a1.f1.length cp1_1, .slice Ap1_2 a1.f2.length cp1_2])] (by kernel_rfl) (Sat.start w _ I0 hI) ?_
 generalize w.heap.size = nx0
 show OK _ K19_0 _ _ _ _ _ _ _ _
 refine OK.sr ?_
 refine RL.spt 3 [(3, pt (nx0 + 1) 0), (2, pt nx0 0)] (nx0 + 2) [⟨nx0, [.slice Ap0_0 a0.f0.length cp0_0, .slice Ap0_1 a0.f1.length cp0_1, .slice Ap0_2 a0.f2.length cp0_2], 29⟩, ⟨nx0 + 1, [.slice Ap1_0 a1.f0.length cp1_0, .slice Ap1_1 a1.f1.length cp1_1, .slice Ap1_2 a1.f2.length cp1_2], 29⟩] ?_
 refine OK.sq ?_
 refine OK.sq ?_
 refine OK.join (fun K' I' _ L' X' => ∃ (x1 : Bool), K' = [(2, pt nx0 0), (3, pt (nx0 + 1) 0), (48, .bool x1)] ∧ L' = [⟨nx0, [.slice Ap0_0 a0.f0.length cp0_0, .slice Ap0_1 a0.f1.length cp0_1, .slice Ap0_2 a0.f2.length cp0_2], 29⟩, ⟨nx0 + 1, [.slice Ap1_0 a1.f0.length cp1_0, .slice Ap1_1 a1.f1.length cp1_1, .slice Ap1_2 a1.f2.length cp1_2], 29⟩] ∧ X' = [] ∧ Imm.le I0 I' ∧ armillaryref23_Same.k3 k a0 a1 x1 = some r) ?_ ?_
 ·rintro _ I1 nx1 _ _ ⟨x1, rfl, rfl, rfl, hi1, H⟩
  rw [armillaryref23_Same.k3] at H
  refine QN.then_ ?_
  refine OK.cd x1 (fun hb => ?_) (fun hb => ?_)
  ·skip
   have hc := hb
   rw [if_pos hc] at H
   clear hb
   refine OK.sr ?_
   refine RL.st 1 [(4, .bool false)] ?_
   refine OK.re ?_
   refine QN.thenR ?_
   obtain rfl := Option.some.inj H
   refine QN.body rfl [] (RFacts.nil _ _ _) (.no) (.bool false) (by kernel_rfl) (by kernel_rfl) (by kernel_rfl) ?_ _ (.inr rfl)
   exact fun w' hs' => ⟨_, rfl, I1, rfl, hs'.got _ .slnil⟩
  ·skip
   have hc := (Bool.eq_false_iff.1 hb)
   rw [if_neg hc] at H
   clear hb
   refine OK.skt ?_
   refine OK.sq ?_
   refine OK.sr ?_
   refine RL.st 1 [(5, i6 0), (2, pt nx0 0), (3, pt (nx0 + 1) 0)] ?_
   refine OK.join (fun K' I' _ L' X' => K' = [] ∧ L' = [⟨nx0, [.slice Ap0_0 a0.f0.length cp0_0, .slice Ap0_1 a0.f1.length cp0_1, .slice Ap0_2 a0.f2.length cp0_2], 29⟩, ⟨nx0 + 1, [.slice Ap1_0 a1.f0.length cp1_0, .slice Ap1_1 a1.f1.length cp1_1, .slice Ap1_2 a1.f2.length cp1_2], 29⟩] ∧ X' = [] ∧ Imm.le I1 I' ∧ armillaryref23_Same.k1 (Sum.inl ()) = some r) ?_ ?_
   ·rintro _ I2 nx2 _ _ ⟨rfl, rfl, rfl, hi2, H⟩
    rw [armillaryref23_Same.k1] at H
    refine QN.then_ ?_
    refine OK.sr ?_
    refine RL.st 1 [(4, .bool true)] ?_
    refine OK.re ?_
    obtain rfl := Option.some.inj H
    refine QN.body rfl [] (RFacts.nil _ _ _) (.no) (.bool true) (by kernel_rfl) (by kernel_rfl) (by kernel_rfl) ?_ _ (.inr rfl)
    exact fun w' hs' => ⟨_, rfl, I2, rfl, hs'.got _ .slnil⟩
   ·intro Q_1 hJ2 hQ2
    obtain ⟨y2, H, HK2⟩ := bnd H
    refine OK.bk 0 ?_
    refine OK.sub (K' := [(2, pt nx0 0), (3, pt (nx0 + 1) 0), (5, i6 0)]) (L' := [⟨nx0, [.slice Ap0_0 a0.f0.length cp0_0, .slice Ap0_1 a0.f1.length cp0_1, .slice Ap0_2 a0.f2.length cp0_2], 29⟩, ⟨nx0 + 1, [.slice Ap1_0 a1.f0.length cp1_0, .slice Ap1_1 a1.f1.length cp1_1, .slice Ap1_2 a1.f2.length cp1_2], 29⟩]) (by kernel_rfl) (.cons_cons _ (.cons_cons _ .slnil)) (.refl _) ?_
    refine OK.lp (fun n_ K' I' _ L' X' => ∃ (x2 : Int), K' = [(2, pt nx0 0), (3, pt (nx0 + 1) 0), (5, i6 x2)] ∧ L' = [⟨nx0, [.slice Ap0_0 a0.f0.length cp0_0, .slice Ap0_1 a0.f1.length cp0_1, .slice Ap0_2 a0.f2.length cp0_2], 29⟩, ⟨nx0 + 1, [.slice Ap1_0 a1.f0.length cp1_0, .slice Ap1_1 a1.f1.length cp1_1, .slice Ap1_2 a1.f2.length cp1_2], 29⟩] ∧ X' = [] ∧ Imm.le I1 I' ∧ armillaryref23_Same.l1 a0 a1 n_ x2 = some y2) k ⟨0, rfl, rfl, rfl, (Imm.le_refl _), H⟩ ?_ ?_
    ·rintro _ _ _ _ _ ⟨x2, rfl, rfl, rfl, _, H⟩
     cases H
    ·rintro kq1 _ I3 nx3 _ _ ⟨x2, rfl, rfl, rfl, hi3, H⟩ Q_l1 hJ3 hQ3
     rw [armillaryref23_Same.l1] at H
     refine OK.sq ?_
     refine OK.sr ?_
     refine RL.simK (K' := [(53, .bool (decide (x2 < (a0.f0.length : Int)))), (2, pt nx0 0), (3, pt (nx0 + 1) 0), (5, i6 x2)]) [] (RFacts.nil _ _ _) 5 [.no, .no, .l 0, .no, .no] (by kernel_rfl) (by kernel_rfl) ?_
     refine RL.nt ?_
     refine OK.cd (decide (x2 < (a0.f0.length : Int))) (fun hb => ?_) (fun hb => ?_)
     ·skip
      have hc := (of_decide_eq_true hb)
      rw [if_pos hc] at H
      clear hb
      refine OK.skt ?_
      refine OK.sq ?_
      refine OK.bk 1 ?_
      refine OK.sq ?_
      refine OK.join (fun K' I' _ L' X' => ∃ (x3 : Bool), K' = [(2, pt nx0 0), (3, pt (nx0 + 1) 0), (5, i6 x2), (92, .bool x3)] ∧ L' = [⟨nx0, [.slice Ap0_0 a0.f0.length cp0_0, .slice Ap0_1 a0.f1.length cp0_1, .slice Ap0_2 a0.f2.length cp0_2], 29⟩, ⟨nx0 + 1, [.slice Ap1_0 a1.f0.length cp1_0, .slice Ap1_1 a1.f1.length cp1_1, .slice Ap1_2 a1.f2.length cp1_2], 29⟩] ∧ X' = [] ∧ Imm.le I3 I' ∧ (if x3 = true then (some (Sum.inr false)) else (armillaryref23_Same.l1 a0 a1 kq1 (W .i64 (x2 + 1)))) = some y2) ?_ ?_
      ·rintro _ I4 nx4 _ _ ⟨x3, rfl, rfl, rfl, hi4, H⟩
       replace H : (if x3 = true then (some (Sum.inr false)) else (armillaryref23_Same.l1 a0 a1 kq1 (W .i64 (x2 + 1)))) = some y2 := H
       refine QN.then_ ?_
       refine OK.cd x3 (fun hb => ?_) (fun hb => ?_)
       ·skip
        have hc := hb
        rw [if_pos hc] at H
        clear hb
        refine OK.sr ?_
        refine RL.st 1 [(4, .bool false)] ?_
        refine OK.re ?_
        refine QN.blkR ?_
        refine QN.thenR ?_
        refine QN.outR hQ3 ?_
        refine QN.blkR ?_
        refine QN.outR hQ2 ?_
        refine QN.thenR ?_
        obtain rfl := Option.some.inj H
        replace H : some false = some r := HK2
        obtain rfl := Option.some.inj H
        refine QN.body rfl [] (RFacts.nil _ _ _) (.no) (.bool false) (by kernel_rfl) (by kernel_rfl) (by kernel_rfl) ?_ _ (.inr rfl)
        exact fun w' hs' => ⟨_, rfl, I4, rfl, hs'.got _ .slnil⟩
       ·skip
        have hc := (Bool.eq_false_iff.1 hb)
        rw [if_neg hc] at H
        clear hb
        refine OK.sk ?_
        refine QN.blkN ?_
        refine QN.then_ ?_
        refine OK.rg ?_
        refine RL.s 3 [(5, i6 (W .i64 (x2 + 1))), (2, pt nx0 0), (3, pt (nx0 + 1) 0)] ?_
        refine RL.nil (by kernel_rfl) ?_
        exact QN.sb (hJ3 _ _ _ _ _ ⟨W .i64 (x2 + 1), rfl, rfl, rfl, (Imm.le_trans hi3 hi4), H⟩) (.cons_cons _ (.cons_cons _ .slnil)) (.refl _)
      ·intro Q_2 hJ4 hQ4
       obtain ⟨y3, H, HK3⟩ := bnd H
       obtain ⟨hi0_1, H⟩ := ifs H
       obtain ⟨hi1_1, H⟩ := ifs H
       obtain ⟨g1_, o1_, hA1_, hc1_⟩ := Ty.int_at (Rd.ext (Imm.le_trans hi1 hi3) hrp0_0) x2 hi0_1 hi1_1
       obtain ⟨hi0_2, H⟩ := ifs H
       obtain ⟨hi1_2, H⟩ := ifs H
       obtain ⟨g2_, o2_, hA2_, hc2_⟩ := Ty.int_at (Rd.ext (Imm.le_trans hi1 hi3) hrp1_0) x2 hi0_2 hi1_2
       refine OK.cases ((a0.f0.getD (x2).toNat 0) != (a1.f0.getD (x2).toNat 0)) (fun hb1 => ?_) (fun hb1 => ?_)
       ·have hc1 := (bne_iff_ne.1 hb1)
        rw [if_pos hc1] at H
        refine OK.drawnC 6 35 O19_29 a19_29n (by kernel_rfl) (by kernel_rfl) u19d1l (u19d1g x2 g1_ o1_ g2_ o2_) [(⟨g1_, o1_ + (x2).toNat * 1, none⟩, i6 (a0.f0.getD (x2).toNat 0)), (⟨g2_, o2_ + (x2).toNat * 1, none⟩, i6 (a1.f0.getD (x2).toNat 0))] (RI.cons (hc1_ 0 _ rfl) (RI.cons (hc2_ 0 _ rfl) (RI.nil _))) (.no :: .l 0 :: .no :: .no :: .r 0 :: .no :: .l 1 :: .no :: .no :: .r 1 :: .no :: .no :: .no :: .no :: .no :: .no :: .no :: .no :: .no :: .no :: .no :: .no :: .no :: .no :: .no :: .no :: .no :: .no :: .no :: .no :: .no :: .no :: .no :: .no :: .no :: []) a19_29 a19_29o (by kernel_rfl) (by kernel_rfl) (u19d1s a0 Ap0_0 cp0_0 a1 Ap1_0 cp1_0 nx0 x2 g1_ o1_ g2_ o2_) (u19d1f a0 Ap0_0 cp0_0 a1 Ap1_0 cp1_0 nx0 x2 g1_ o1_ g2_ o2_ 35) (u19d1v a0 Ap0_0 cp0_0 Ap0_1 cp0_1 Ap0_2 cp0_2 a1 Ap1_0 cp1_0 Ap1_1 cp1_1 Ap1_2 cp1_2 nx0 x2 g1_ o1_ g2_ o2_) (u19d1e a0 Ap0_0 cp0_0 Ap0_1 cp0_1 Ap0_2 cp0_2 a1 Ap1_0 cp1_0 Ap1_1 cp1_1 Ap1_2 cp1_2 nx0 x2 g1_ o1_ g2_ o2_) [] framesOk.nil ?_ [u19d1f a0 Ap0_0 cp0_0 a1 Ap1_0 cp1_0 nx0 x2 g1_ o1_ g2_ o2_ 3, u19d1f a0 Ap0_0 cp0_0 a1 Ap1_0 cp1_0 nx0 x2 g1_ o1_ g2_ o2_ 8, u19d1f a0 Ap0_0 cp0_0 a1 Ap1_0 cp1_0 nx0 x2 g1_ o1_ g2_ o2_ 11] (framesOk.cons (fun u => rfl) (framesOk.cons (fun u => rfl) (framesOk.cons (fun u => rfl) framesOk.nil))) ?_ ?_
        ·refine LoudsG.nil
        ·refine Givens.cons (fun u w =>  ?_) (fun _ _ _ => rfl) (Givens.cons (fun u w =>  ?_) (fun _ _ _ => rfl) (Givens.cons (fun u w =>  ?_) (fun _ _ _ => rfl) (Givens.nil)))
         ·exact giv_idx (T := 26) (e := 3) 1 .i64 x2 hA1_ a0.f0.length cp0_0 (by kernel_rfl) (by kernel_rfl) (by kernel_rfl) hi0_1 hi1_1 w
         ·exact giv_idx (T := 26) (e := 3) 1 .i64 x2 hA2_ a1.f0.length cp1_0 (by kernel_rfl) (by kernel_rfl) (by kernel_rfl) hi0_2 hi1_2 w
         ·exact giv_run (v := .bool ((a0.f0.getD (x2).toNat 0) != (a1.f0.getD (x2).toNat 0))) (by kernel_rfl) (by rw [hb1]; try rfl) w
        intro u I5 nx5 hi5 hF
        clear hF
        refine RL.norm (K' := ((90, undef) :: (89, undef) :: (88, undef) :: (87, undef) :: (86, undef) :: (85, undef) :: (84, undef) :: (83, undef) :: (82, undef) :: (81, undef) :: (80, .bool true) :: (79, .bool true) :: (78, undef) :: (77, undef) :: (76, undef) :: (75, undef) :: (74, undef) :: (73, undef) :: (72, undef) :: (71, undef) :: (70, undef) :: (69, undef) :: (68, undef) :: (67, .bool true) :: (66, .bool ((a0.f0.getD (x2).toNat 0) != (a1.f0.getD (x2).toNat 0))) :: (65, i6 (a1.f0.getD (x2).toNat 0)) :: (64, pt g2_ (o2_ + (x2).toNat * 1)) :: (63, i6 x2) :: (62, .slice Ap1_0 a1.f0.length cp1_0) :: (61, pt (nx0 + 1) 0) :: (60, i6 (a0.f0.getD (x2).toNat 0)) :: (59, pt g1_ (o1_ + (x2).toNat * 1)) :: (58, i6 x2) :: (57, .slice Ap0_0 a0.f0.length cp0_0) :: (56, pt nx0 0) :: (53, .bool (decide (x2 < (a0.f0.length : Int)))) :: (2, pt nx0 0) :: (3, pt (nx0 + 1) 0) :: (5, i6 x2) :: [])) (X' := []) (by kernel_rfl) rfl rfl rfl ?_
        refine RL.s 2 [(92, .bool true), (2, pt nx0 0), (3, pt (nx0 + 1) 0), (5, i6 x2)] ?_
        refine RL.nil (by kernel_rfl) ?_
        obtain rfl := Option.some.inj H
        exact QN.sb (hJ4 _ _ _ _ _ ⟨true, rfl, rfl, rfl, hi5, HK3⟩) (.cons_cons _ (.cons_cons _ .slnil)) (.refl _)
       ·have hc1 := (not_not_intro (bne_eq_false_iff_eq.1 hb1))
        rw [if_neg hc1] at H
        obtain ⟨hi0_3, H⟩ := ifs H
        obtain ⟨hi1_3, H⟩ := ifs H
        obtain ⟨g3_, o3_, hA3_, hc3_⟩ := Ty.int_at (Rd.ext (Imm.le_trans hi1 hi3) hrp0_1) x2 hi0_3 hi1_3
        obtain ⟨hi0_4, H⟩ := ifs H
        obtain ⟨hi1_4, H⟩ := ifs H
        obtain ⟨g4_, o4_, hA4_, hc4_⟩ := Ty.int_at (Rd.ext (Imm.le_trans hi1 hi3) hrp1_1) x2 hi0_4 hi1_4
        refine OK.cases ((a0.f1.getD (x2).toNat 0) != (a1.f1.getD (x2).toNat 0)) (fun hb2 => ?_) (fun hb2 => ?_)
        ·have hc2 := (bne_iff_ne.1 hb2)
         rw [if_pos hc2] at H
         refine OK.drawnC 6 35 O19_29 a19_29n (by kernel_rfl) (by kernel_rfl) u19d2l (u19d2g x2 g1_ o1_ g2_ o2_ g3_ o3_ g4_ o4_) [(⟨g1_, o1_ + (x2).toNat * 1, none⟩, i6 (a0.f0.getD (x2).toNat 0)), (⟨g2_, o2_ + (x2).toNat * 1, none⟩, i6 (a1.f0.getD (x2).toNat 0)), (⟨g3_, o3_ + (x2).toNat * 1, none⟩, i6 (a0.f1.getD (x2).toNat 0)), (⟨g4_, o4_ + (x2).toNat * 1, none⟩, i6 (a1.f1.getD (x2).toNat 0))] (RI.cons (hc1_ 0 _ rfl) (RI.cons (hc2_ 0 _ rfl) (RI.cons (hc3_ 0 _ rfl) (RI.cons (hc4_ 0 _ rfl) (RI.nil _))))) (.no :: .l 0 :: .no :: .no :: .r 0 :: .no :: .l 1 :: .no :: .no :: .r 1 :: .no :: .no :: .no :: .l 0 :: .no :: .no :: .r 2 :: .no :: .l 1 :: .no :: .no :: .r 3 :: .no :: .no :: .no :: .no :: .no :: .no :: .no :: .no :: .no :: .no :: .no :: .no :: .no :: []) a19_29 a19_29o (by kernel_rfl) (by kernel_rfl) (u19d2s a0 Ap0_0 cp0_0 Ap0_1 cp0_1 a1 Ap1_0 cp1_0 Ap1_1 cp1_1 nx0 x2 g1_ o1_ g2_ o2_ g3_ o3_ g4_ o4_) (u19d2f a0 Ap0_0 cp0_0 Ap0_1 cp0_1 a1 Ap1_0 cp1_0 Ap1_1 cp1_1 nx0 x2 g1_ o1_ g2_ o2_ g3_ o3_ g4_ o4_ 35) (u19d2v a0 Ap0_0 cp0_0 Ap0_1 cp0_1 Ap0_2 cp0_2 a1 Ap1_0 cp1_0 Ap1_1 cp1_1 Ap1_2 cp1_2 nx0 x2 g1_ o1_ g2_ o2_ g3_ o3_ g4_ o4_) (u19d2e a0 Ap0_0 cp0_0 Ap0_1 cp0_1 Ap0_2 cp0_2 a1 Ap1_0 cp1_0 Ap1_1 cp1_1 Ap1_2 cp1_2 nx0 x2 g1_ o1_ g2_ o2_ g3_ o3_ g4_ o4_) [] framesOk.nil ?_ [u19d2f a0 Ap0_0 cp0_0 Ap0_1 cp0_1 a1 Ap1_0 cp1_0 Ap1_1 cp1_1 nx0 x2 g1_ o1_ g2_ o2_ g3_ o3_ g4_ o4_ 3, u19d2f a0 Ap0_0 cp0_0 Ap0_1 cp0_1 a1 Ap1_0 cp1_0 Ap1_1 cp1_1 nx0 x2 g1_ o1_ g2_ o2_ g3_ o3_ g4_ o4_ 8, u19d2f a0 Ap0_0 cp0_0 Ap0_1 cp0_1 a1 Ap1_0 cp1_0 Ap1_1 cp1_1 nx0 x2 g1_ o1_ g2_ o2_ g3_ o3_ g4_ o4_ 11, u19d2f a0 Ap0_0 cp0_0 Ap0_1 cp0_1 a1 Ap1_0 cp1_0 Ap1_1 cp1_1 nx0 x2 g1_ o1_ g2_ o2_ g3_ o3_ g4_ o4_ 15, u19d2f a0 Ap0_0 cp0_0 Ap0_1 cp0_1 a1 Ap1_0 cp1_0 Ap1_1 cp1_1 nx0 x2 g1_ o1_ g2_ o2_ g3_ o3_ g4_ o4_ 20, u19d2f a0 Ap0_0 cp0_0 Ap0_1 cp0_1 a1 Ap1_0 cp1_0 Ap1_1 cp1_1 nx0 x2 g1_ o1_ g2_ o2_ g3_ o3_ g4_ o4_ 24] (framesOk.cons (fun u => rfl) (framesOk.cons (fun u => rfl) (framesOk.cons (fun u => rfl) (framesOk.cons (fun u => rfl) (framesOk.cons (fun u => rfl) (framesOk.cons (fun u => rfl) framesOk.nil)))))) ?_ ?_
         ·refine LoudsG.nil
         ·refine Givens.cons (fun u w =>  ?_) (fun _ _ _ => rfl) (Givens.cons (fun u w =>  ?_) (fun _ _ _ => rfl) (Givens.cons (fun u w =>  ?_) (fun _ _ _ => rfl) (Givens.cons (fun u w =>  ?_) (fun _ _ _ => rfl) (Givens.cons (fun u w =>  ?_) (fun _ _ _ => rfl) (Givens.cons (fun u w =>  ?_) (fun _ _ _ => rfl) (Givens.nil))))))
          ·exact giv_idx (T := 26) (e := 3) 1 .i64 x2 hA1_ a0.f0.length cp0_0 (by kernel_rfl) (by kernel_rfl) (by kernel_rfl) hi0_1 hi1_1 w
          ·exact giv_idx (T := 26) (e := 3) 1 .i64 x2 hA2_ a1.f0.length cp1_0 (by kernel_rfl) (by kernel_rfl) (by kernel_rfl) hi0_2 hi1_2 w
          ·exact giv_run (v := .bool ((a0.f0.getD (x2).toNat 0) != (a1.f0.getD (x2).toNat 0))) (by kernel_rfl) (by rw [hb1]; try rfl) w
          ·exact giv_idx (T := 26) (e := 3) 1 .i64 x2 hA3_ a0.f1.length cp0_1 (by kernel_rfl) (by kernel_rfl) (by kernel_rfl) hi0_3 hi1_3 w
          ·exact giv_idx (T := 26) (e := 3) 1 .i64 x2 hA4_ a1.f1.length cp1_1 (by kernel_rfl) (by kernel_rfl) (by kernel_rfl) hi0_4 hi1_4 w
          ·exact giv_run (v := .bool ((a0.f1.getD (x2).toNat 0) != (a1.f1.getD (x2).toNat 0))) (by kernel_rfl) (by rw [hb2]; try rfl) w
         intro u I6 nx6 hi6 hF
         clear hF
         refine RL.norm (K' := ((90, undef) :: (89, undef) :: (88, undef) :: (87, undef) :: (86, undef) :: (85, undef) :: (84, undef) :: (83, undef) :: (82, undef) :: (81, undef) :: (80, .bool true) :: (79, .bool ((a0.f1.getD (x2).toNat 0) != (a1.f1.getD (x2).toNat 0))) :: (78, .bool ((a0.f1.getD (x2).toNat 0) != (a1.f1.getD (x2).toNat 0))) :: (77, i6 (a1.f1.getD (x2).toNat 0)) :: (76, pt g4_ (o4_ + (x2).toNat * 1)) :: (75, i6 x2) :: (74, .slice Ap1_1 a1.f1.length cp1_1) :: (73, pt (nx0 + 1) 1) :: (72, i6 (a0.f1.getD (x2).toNat 0)) :: (71, pt g3_ (o3_ + (x2).toNat * 1)) :: (70, i6 x2) :: (69, .slice Ap0_1 a0.f1.length cp0_1) :: (68, pt nx0 1) :: (67, .bool false) :: (66, .bool ((a0.f0.getD (x2).toNat 0) != (a1.f0.getD (x2).toNat 0))) :: (65, i6 (a1.f0.getD (x2).toNat 0)) :: (64, pt g2_ (o2_ + (x2).toNat * 1)) :: (63, i6 x2) :: (62, .slice Ap1_0 a1.f0.length cp1_0) :: (61, pt (nx0 + 1) 0) :: (60, i6 (a0.f0.getD (x2).toNat 0)) :: (59, pt g1_ (o1_ + (x2).toNat * 1)) :: (58, i6 x2) :: (57, .slice Ap0_0 a0.f0.length cp0_0) :: (56, pt nx0 0) :: (53, .bool (decide (x2 < (a0.f0.length : Int)))) :: (2, pt nx0 0) :: (3, pt (nx0 + 1) 0) :: (5, i6 x2) :: [])) (X' := []) (by kernel_rfl) rfl rfl rfl ?_
         refine RL.s 2 [(92, .bool true), (2, pt nx0 0), (3, pt (nx0 + 1) 0), (5, i6 x2)] ?_
         refine RL.nil (by kernel_rfl) ?_
         obtain rfl := Option.some.inj H
         exact QN.sb (hJ4 _ _ _ _ _ ⟨true, rfl, rfl, rfl, hi6, HK3⟩) (.cons_cons _ (.cons_cons _ .slnil)) (.refl _)
        ·have hc2 := (not_not_intro (bne_eq_false_iff_eq.1 hb2))
         rw [if_neg hc2] at H
         obtain ⟨hi0_5, H⟩ := ifs H
         obtain ⟨hi1_5, H⟩ := ifs H
         obtain ⟨g5_, o5_, hA5_, hc5_⟩ := Ty.int_at (Rd.ext (Imm.le_trans hi1 hi3) hrp0_2) x2 hi0_5 hi1_5
         obtain ⟨hi0_6, H⟩ := ifs H
         obtain ⟨hi1_6, H⟩ := ifs H
         obtain ⟨g6_, o6_, hA6_, hc6_⟩ := Ty.int_at (Rd.ext (Imm.le_trans hi1 hi3) hrp1_2) x2 hi0_6 hi1_6
         refine OK.drawnC 6 35 O19_29 a19_29n (by kernel_rfl) (by kernel_rfl) u19d3l (u19d3g x2 g1_ o1_ g2_ o2_ g3_ o3_ g4_ o4_ g5_ o5_ g6_ o6_) [(⟨g1_, o1_ + (x2).toNat * 1, none⟩, i6 (a0.f0.getD (x2).toNat 0)), (⟨g2_, o2_ + (x2).toNat * 1, none⟩, i6 (a1.f0.getD (x2).toNat 0)), (⟨g3_, o3_ + (x2).toNat * 1, none⟩, i6 (a0.f1.getD (x2).toNat 0)), (⟨g4_, o4_ + (x2).toNat * 1, none⟩, i6 (a1.f1.getD (x2).toNat 0)), (⟨g5_, o5_ + (x2).toNat * 1, none⟩, i6 (a0.f2.getD (x2).toNat 0)), (⟨g6_, o6_ + (x2).toNat * 1, none⟩, i6 (a1.f2.getD (x2).toNat 0))] (RI.cons (hc1_ 0 _ rfl) (RI.cons (hc2_ 0 _ rfl) (RI.cons (hc3_ 0 _ rfl) (RI.cons (hc4_ 0 _ rfl) (RI.cons (hc5_ 0 _ rfl) (RI.cons (hc6_ 0 _ rfl) (RI.nil _))))))) (.no :: .l 0 :: .no :: .no :: .r 0 :: .no :: .l 1 :: .no :: .no :: .r 1 :: .no :: .no :: .no :: .l 0 :: .no :: .no :: .r 2 :: .no :: .l 1 :: .no :: .no :: .r 3 :: .no :: .no :: .no :: .no :: .l 0 :: .no :: .no :: .r 4 :: .no :: .l 1 :: .no :: .no :: .r 5 :: []) a19_29 a19_29o (by kernel_rfl) (by kernel_rfl) (u19d3s a0 Ap0_0 cp0_0 Ap0_1 cp0_1 Ap0_2 cp0_2 a1 Ap1_0 cp1_0 Ap1_1 cp1_1 Ap1_2 cp1_2 nx0 x2 g1_ o1_ g2_ o2_ g3_ o3_ g4_ o4_ g5_ o5_ g6_ o6_) (u19d3f a0 Ap0_0 cp0_0 Ap0_1 cp0_1 Ap0_2 cp0_2 a1 Ap1_0 cp1_0 Ap1_1 cp1_1 Ap1_2 cp1_2 nx0 x2 g1_ o1_ g2_ o2_ g3_ o3_ g4_ o4_ g5_ o5_ g6_ o6_ 35) (u19d3v a0 Ap0_0 cp0_0 Ap0_1 cp0_1 Ap0_2 cp0_2 a1 Ap1_0 cp1_0 Ap1_1 cp1_1 Ap1_2 cp1_2 nx0 x2 g1_ o1_ g2_ o2_ g3_ o3_ g4_ o4_ g5_ o5_ g6_ o6_) (u19d3e a0 Ap0_0 cp0_0 Ap0_1 cp0_1 Ap0_2 cp0_2 a1 Ap1_0 cp1_0 Ap1_1 cp1_1 Ap1_2 cp1_2 nx0 x2 g1_ o1_ g2_ o2_ g3_ o3_ g4_ o4_ g5_ o5_ g6_ o6_) [] framesOk.nil ?_ [u19d3f a0 Ap0_0 cp0_0 Ap0_1 cp0_1 Ap0_2 cp0_2 a1 Ap1_0 cp1_0 Ap1_1 cp1_1 Ap1_2 cp1_2 nx0 x2 g1_ o1_ g2_ o2_ g3_ o3_ g4_ o4_ g5_ o5_ g6_ o6_ 3, u19d3f a0 Ap0_0 cp0_0 Ap0_1 cp0_1 Ap0_2 cp0_2 a1 Ap1_0 cp1_0 Ap1_1 cp1_1 Ap1_2 cp1_2 nx0 x2 g1_ o1_ g2_ o2_ g3_ o3_ g4_ o4_ g5_ o5_ g6_ o6_ 8, u19d3f a0 Ap0_0 cp0_0 Ap0_1 cp0_1 Ap0_2 cp0_2 a1 Ap1_0 cp1_0 Ap1_1 cp1_1 Ap1_2 cp1_2 nx0 x2 g1_ o1_ g2_ o2_ g3_ o3_ g4_ o4_ g5_ o5_ g6_ o6_ 11, u19d3f a0 Ap0_0 cp0_0 Ap0_1 cp0_1 Ap0_2 cp0_2 a1 Ap1_0 cp1_0 Ap1_1 cp1_1 Ap1_2 cp1_2 nx0 x2 g1_ o1_ g2_ o2_ g3_ o3_ g4_ o4_ g5_ o5_ g6_ o6_ 15, u19d3f a0 Ap0_0 cp0_0 Ap0_1 cp0_1 Ap0_2 cp0_2 a1 Ap1_0 cp1_0 Ap1_1 cp1_1 Ap1_2 cp1_2 nx0 x2 g1_ o1_ g2_ o2_ g3_ o3_ g4_ o4_ g5_ o5_ g6_ o6_ 20, u19d3f a0 Ap0_0 cp0_0 Ap0_1 cp0_1 Ap0_2 cp0_2 a1 Ap1_0 cp1_0 Ap1_1 cp1_1 Ap1_2 cp1_2 nx0 x2 g1_ o1_ g2_ o2_ g3_ o3_ g4_ o4_ g5_ o5_ g6_ o6_ 24, u19d3f a0 Ap0_0 cp0_0 Ap0_1 cp0_1 Ap0_2 cp0_2 a1 Ap1_0 cp1_0 Ap1_1 cp1_1 Ap1_2 cp1_2 nx0 x2 g1_ o1_ g2_ o2_ g3_ o3_ g4_ o4_ g5_ o5_ g6_ o6_ 28, u19d3f a0 Ap0_0 cp0_0 Ap0_1 cp0_1 Ap0_2 cp0_2 a1 Ap1_0 cp1_0 Ap1_1 cp1_1 Ap1_2 cp1_2 nx0 x2 g1_ o1_ g2_ o2_ g3_ o3_ g4_ o4_ g5_ o5_ g6_ o6_ 33] (framesOk.cons (fun u => rfl) (framesOk.cons (fun u => rfl) (framesOk.cons (fun u => rfl) (framesOk.cons (fun u => rfl) (framesOk.cons (fun u => rfl) (framesOk.cons (fun u => rfl) (framesOk.cons (fun u => rfl) (framesOk.cons (fun u => rfl) framesOk.nil)))))))) ?_ ?_
         ·refine LoudsG.nil
         ·refine Givens.cons (fun u w =>  ?_) (fun _ _ _ => rfl) (Givens.cons (fun u w =>  ?_) (fun _ _ _ => rfl) (Givens.cons (fun u w =>  ?_) (fun _ _ _ => rfl) (Givens.cons (fun u w =>  ?_) (fun _ _ _ => rfl) (Givens.cons (fun u w =>  ?_) (fun _ _ _ => rfl) (Givens.cons (fun u w =>  ?_) (fun _ _ _ => rfl) (Givens.cons (fun u w =>  ?_) (fun _ _ _ => rfl) (Givens.cons (fun u w =>  ?_) (fun _ _ _ => rfl) (Givens.nil))))))))
          ·exact giv_idx (T := 26) (e := 3) 1 .i64 x2 hA1_ a0.f0.length cp0_0 (by kernel_rfl) (by kernel_rfl) (by kernel_rfl) hi0_1 hi1_1 w
          ·exact giv_idx (T := 26) (e := 3) 1 .i64 x2 hA2_ a1.f0.length cp1_0 (by kernel_rfl) (by kernel_rfl) (by kernel_rfl) hi0_2 hi1_2 w
          ·exact giv_run (v := .bool ((a0.f0.getD (x2).toNat 0) != (a1.f0.getD (x2).toNat 0))) (by kernel_rfl) (by rw [hb1]; try rfl) w
          ·exact giv_idx (T := 26) (e := 3) 1 .i64 x2 hA3_ a0.f1.length cp0_1 (by kernel_rfl) (by kernel_rfl) (by kernel_rfl) hi0_3 hi1_3 w
          ·exact giv_idx (T := 26) (e := 3) 1 .i64 x2 hA4_ a1.f1.length cp1_1 (by kernel_rfl) (by kernel_rfl) (by kernel_rfl) hi0_4 hi1_4 w
          ·exact giv_run (v := .bool ((a0.f1.getD (x2).toNat 0) != (a1.f1.getD (x2).toNat 0))) (by kernel_rfl) (by rw [hb2]; try rfl) w
          ·exact giv_idx (T := 27) (e := 2) 1 .i64 x2 hA5_ a0.f2.length cp0_2 (by kernel_rfl) (by kernel_rfl) (by kernel_rfl) hi0_5 hi1_5 w
          ·exact giv_idx (T := 27) (e := 2) 1 .i64 x2 hA6_ a1.f2.length cp1_2 (by kernel_rfl) (by kernel_rfl) (by kernel_rfl) hi0_6 hi1_6 w
         intro u I7 nx7 hi7 hF
         clear hF
         refine RL.norm (K' := ((90, i6 (a1.f2.getD (x2).toNat 0)) :: (89, pt g6_ (o6_ + (x2).toNat * 1)) :: (88, i6 x2) :: (87, .slice Ap1_2 a1.f2.length cp1_2) :: (86, pt (nx0 + 1) 2) :: (85, i6 (a0.f2.getD (x2).toNat 0)) :: (84, pt g5_ (o5_ + (x2).toNat * 1)) :: (83, i6 x2) :: (82, .slice Ap0_2 a0.f2.length cp0_2) :: (81, pt nx0 2) :: (80, .bool false) :: (79, .bool ((a0.f1.getD (x2).toNat 0) != (a1.f1.getD (x2).toNat 0))) :: (78, .bool ((a0.f1.getD (x2).toNat 0) != (a1.f1.getD (x2).toNat 0))) :: (77, i6 (a1.f1.getD (x2).toNat 0)) :: (76, pt g4_ (o4_ + (x2).toNat * 1)) :: (75, i6 x2) :: (74, .slice Ap1_1 a1.f1.length cp1_1) :: (73, pt (nx0 + 1) 1) :: (72, i6 (a0.f1.getD (x2).toNat 0)) :: (71, pt g3_ (o3_ + (x2).toNat * 1)) :: (70, i6 x2) :: (69, .slice Ap0_1 a0.f1.length cp0_1) :: (68, pt nx0 1) :: (67, .bool false) :: (66, .bool ((a0.f0.getD (x2).toNat 0) != (a1.f0.getD (x2).toNat 0))) :: (65, i6 (a1.f0.getD (x2).toNat 0)) :: (64, pt g2_ (o2_ + (x2).toNat * 1)) :: (63, i6 x2) :: (62, .slice Ap1_0 a1.f0.length cp1_0) :: (61, pt (nx0 + 1) 0) :: (60, i6 (a0.f0.getD (x2).toNat 0)) :: (59, pt g1_ (o1_ + (x2).toNat * 1)) :: (58, i6 x2) :: (57, .slice Ap0_0 a0.f0.length cp0_0) :: (56, pt nx0 0) :: (53, .bool (decide (x2 < (a0.f0.length : Int)))) :: (2, pt nx0 0) :: (3, pt (nx0 + 1) 0) :: (5, i6 x2) :: [])) (X' := []) (by kernel_rfl) rfl rfl rfl ?_
         refine RL.s 2 [(92, .bool ((a0.f2.getD (x2).toNat 0) != (a1.f2.getD (x2).toNat 0))), (2, pt nx0 0), (3, pt (nx0 + 1) 0), (5, i6 x2)] ?_
         refine RL.nil (by kernel_rfl) ?_
         obtain rfl := Option.some.inj H
         exact QN.sb (hJ4 _ _ _ _ _ ⟨((a0.f2.getD (x2).toNat 0) != (a1.f2.getD (x2).toNat 0)), rfl, rfl, rfl, hi7, HK3⟩) (.cons_cons _ (.cons_cons _ .slnil)) (.refl _)
     ·skip
      have hc := (of_decide_eq_false hb)
      rw [if_neg hc] at H
      clear hb
      refine OK.ex 0 ?_
      refine QN.thenE ?_
      refine QN.outE hQ3 ?_
      refine QN.blkE ?_
      obtain rfl := Option.some.inj H
      exact QN.sb (hJ2 _ _ _ _ _ ⟨rfl, rfl, rfl, hi3, HK2⟩) (.cons_cons _ (.cons_cons _ .slnil)) (.refl _)
 ·intro Q_3 hJ1 hQ1
  obtain ⟨y1, H, HK1⟩ := bnd H
  refine OK.rg ?_
  refine RL.simK (K' := [(13, .bool ((a0.f0.length : Int) != (a1.f0.length : Int))), (3, pt (nx0 + 1) 0), (2, pt nx0 0)]) [] (RFacts.nil _ _ _) 8 [.no, .l 0, .no, .no, .l 1, .no, .no, .no] (by kernel_rfl) (by kernel_rfl) ?_
  refine RL.cases ((a0.f0.length : Int) != (a1.f0.length : Int)) (fun hb => ?_) (fun hb => ?_)
  ·have hc := (bne_iff_ne.1 hb)
   rw [hb]
   rw [if_pos hc] at H; clear hb
   refine RL.simK (K' := [(48, .bool true), (3, pt (nx0 + 1) 0), (2, pt nx0 0)]) [] (RFacts.nil _ _ _) 35 (.no :: .no :: .no :: .no :: .no :: .no :: .no :: .no :: .no :: .no :: .no :: .no :: .no :: .no :: .no :: .no :: .no :: .no :: .no :: .no :: .no :: .no :: .no :: .no :: .no :: .no :: .no :: .no :: .no :: .no :: .no :: .no :: .no :: .no :: .no :: []) (by kernel_rfl) (by kernel_rfl) ?_
   refine RL.nil (by kernel_rfl) ?_
   obtain rfl := Option.some.inj H
   exact QN.sb (hJ1 _ _ _ _ _ ⟨true, rfl, rfl, rfl, (Imm.le_refl _), HK1⟩) (.cons_cons _ (.cons_cons _ .slnil)) (.refl _)
  ·have hc := (not_not_intro (bne_eq_false_iff_eq.1 hb))
   rw [hb]
   rw [if_neg hc] at H; clear hb
   refine RL.simK (K' := [(22, .bool ((a0.f1.length : Int) != (a1.f1.length : Int))), (3, pt (nx0 + 1) 0), (2, pt nx0 0)]) [] (RFacts.nil _ _ _) 9 [.no, .l 0, .no, .no, .l 1, .no, .no, .no, .no] (by kernel_rfl) (by kernel_rfl) ?_
   refine RL.cases ((a0.f1.length : Int) != (a1.f1.length : Int)) (fun hb => ?_) (fun hb => ?_)
   ·have hc := (bne_iff_ne.1 hb)
    rw [hb]
    rw [if_pos hc] at H; clear hb
    refine RL.s 26 [(48, .bool true), (3, pt (nx0 + 1) 0), (2, pt nx0 0)] ?_
    refine RL.nil (by kernel_rfl) ?_
    obtain rfl := Option.some.inj H
    exact QN.sb (hJ1 _ _ _ _ _ ⟨true, rfl, rfl, rfl, (Imm.le_refl _), HK1⟩) (.cons_cons _ (.cons_cons _ .slnil)) (.refl _)
   ·have hc := (not_not_intro (bne_eq_false_iff_eq.1 hb))
    rw [hb]
    rw [if_neg hc] at H; clear hb
    refine RL.simK (K' := [(31, .bool ((a0.f2.length : Int) != (a1.f2.length : Int))), (3, pt (nx0 + 1) 0), (2, pt nx0 0)]) [] (RFacts.nil _ _ _) 9 [.no, .l 0, .no, .no, .l 1, .no, .no, .no, .no] (by kernel_rfl) (by kernel_rfl) ?_
    refine RL.cases ((a0.f2.length : Int) != (a1.f2.length : Int)) (fun hb => ?_) (fun hb => ?_)
    ·have hc := (bne_iff_ne.1 hb)
     rw [hb]
     rw [if_pos hc] at H; clear hb
     refine RL.s 17 [(48, .bool true), (3, pt (nx0 + 1) 0), (2, pt nx0 0)] ?_
     refine RL.nil (by kernel_rfl) ?_
     obtain rfl := Option.some.inj H
     exact QN.sb (hJ1 _ _ _ _ _ ⟨true, rfl, rfl, rfl, (Imm.le_refl _), HK1⟩) (.cons_cons _ (.cons_cons _ .slnil)) (.refl _)
    ·have hc := (not_not_intro (bne_eq_false_iff_eq.1 hb))
     rw [hb]
     rw [if_neg hc] at H; clear hb
     refine RL.simK (K' := [(40, .bool ((a0.f1.length : Int) != (a0.f0.length : Int))), (3, pt (nx0 + 1) 0), (2, pt nx0 0)]) [] (RFacts.nil _ _ _) 9 [.no, .l 0, .no, .no, .l 0, .no, .no, .no, .no] (by kernel_rfl) (by kernel_rfl) ?_
     refine RL.cases ((a0.f1.length : Int) != (a0.f0.length : Int)) (fun hb => ?_) (fun hb => ?_)
     ·have hc := (bne_iff_ne.1 hb)
      rw [hb]
      rw [if_pos hc] at H; clear hb
      refine RL.s 8 [(48, .bool true), (3, pt (nx0 + 1) 0), (2, pt nx0 0)] ?_
      refine RL.nil (by kernel_rfl) ?_
      obtain rfl := Option.some.inj H
      exact QN.sb (hJ1 _ _ _ _ _ ⟨true, rfl, rfl, rfl, (Imm.le_refl _), HK1⟩) (.cons_cons _ (.cons_cons _ .slnil)) (.refl _)
     ·have hc := (not_not_intro (bne_eq_false_iff_eq.1 hb))
      rw [hb]
      rw [if_neg hc] at H; clear hb
      refine RL.simK (K' := [(48, .bool ((a0.f2.length : Int) != (a0.f0.length : Int))), (3, pt (nx0 + 1) 0), (2, pt nx0 0)]) [] (RFacts.nil _ _ _) 8 [.no, .l 0, .no, .no, .l 0, .no, .no, .no] (by kernel_rfl) (by kernel_rfl) ?_
      refine RL.nil (by kernel_rfl) ?_
      obtain rfl := Option.some.inj H
      exact QN.sb (hJ1 _ _ _ _ _ ⟨((a0.f2.length : Int) != (a0.f0.length : Int)), rfl, rfl, rfl, (Imm.le_refl _), HK1⟩) (.cons_cons _ (.cons_cons _ .slnil)) (.refl _)

end Go.Proofs.Ytihmbmeelheinaa
namespace Go.Proofs.Ytihmbmeelheinaa
open Go Go.Proofs.Ytihmbmeelheinaa.RW
set_option linter.unusedVariables false
set_option maxRecDepth 100000
set_option maxHeartbeats 8000000

/-! ### slices_Index_int_int: function 42, slices.Index[[]int,int] -/
noncomputable def K42_0 : Code := cBody Try.f42
def slices_Index_int_int.k1  : (Unit) ⊕ (Int) → Option (Int)
 | .inl () => (some (-1))
 | .inr r_ => some r_
def slices_Index_int_int.l1 (a0 : List Int) (a1 : Int) : Nat → Int → Option ((Unit) ⊕ (Int))
 | 0, _ => none
 | k + 1, x1 => (if x1 < (a0.length : Int) then (if 0 ≤ x1 then (if x1 < (a0.length : Int) then (if a1 = (a0.getD (x1).toNat 0) then (some (Sum.inr x1)) else (slices_Index_int_int.l1 a0 a1 k (W .i64 (x1 + 1)))) else none) else none) else (some (Sum.inl ())))
def slices_Index_int_int.f (k : Nat) (a0 : List Int) (a1 : Int) : Option (Int) := ((slices_Index_int_int.l1 a0 a1 k 0).bind (slices_Index_int_int.k1))
def slices_Index_int_int.Post (I : Imm) (w : World) (r : Int) (v : Value) (w' : World) : Prop :=
 ∃ (J : Imm), v = .int .i64 r ∧ Got w w' I J []
theorem slices_Index_int_int.calls (k : Nat) (I0 : Imm) (a0 : List Int) (Ap0 : Option Addr) (cp0 : Nat) (a1 : Int) (w : World) (hI : I0.at_ w) (hlp0 : a0.length ≤ cp0) (hrp0 : Rd (Ty.int .i64) I0 Ap0 a0) (r : Int) (h : slices_Index_int_int.f k a0 a1 = some r) :
  Calls Try.prog 42 [.slice Ap0 a0.length cp0, i6 a1].toArray w fun e w' => ∃ v, e = .returned v ∧ slices_Index_int_int.Post I0 w r v w' := by
 have H : ((slices_Index_int_int.l1 a0 a1 k 0).bind (slices_Index_int_int.k1)) = some r := h
 clear h
 refine calls_body Try.func42 (by kernel_rfl) 19 (by kernel_rfl) (by kernel_rfl) ⟨w, fun _ => False, I0⟩ I0 [] [(0, .slice Ap0 a0.length cp0), (1, i6 a1)] (by kernel_rfl) (Sat.start w _ I0 hI) ?_
 generalize w.heap.size = nx0
 show OK _ K42_0 _ _ _ _ _ _ _ _
 refine OK.sr ?_
 refine RL.st 1 [(0, .slice Ap0 a0.length cp0), (1, i6 a1)] ?_
 refine OK.sq ?_
 refine OK.sr ?_
 refine RL.st 3 [(8, i6 0), (7, i6 (a0.length : Int)), (0, .slice Ap0 a0.length cp0), (1, i6 a1)] ?_
 refine OK.join (fun K' I' _ L' X' => K' = [] ∧ L' = [] ∧ X' = [] ∧ Imm.le I0 I' ∧ slices_Index_int_int.k1 (Sum.inl ()) = some r) ?_ ?_
 ·rintro _ I1 nx1 _ _ ⟨rfl, rfl, rfl, hi1, H⟩
  rw [slices_Index_int_int.k1] at H
  refine QN.then_ ?_
  refine OK.sr ?_
  refine RL.st 1 [(4, i6 (-1))] ?_
  refine OK.re ?_
  obtain rfl := Option.some.inj H
  refine QN.body rfl [] (RFacts.nil _ _ _) (.no) (i6 (-1)) (by kernel_rfl) (by kernel_rfl) (by kernel_rfl) ?_ _ (.inr rfl)
  exact fun w' hs' => ⟨_, rfl, I1, rfl, hs'.got _ .slnil⟩
 ·intro Q_1 hJ1 hQ1
  obtain ⟨y1, H, HK1⟩ := bnd H
  refine OK.bk 0 ?_
  refine OK.sub (K' := [(0, .slice Ap0 a0.length cp0), (1, i6 a1), (7, i6 (a0.length : Int)), (8, i6 0)]) (L' := []) (by kernel_rfl) .slnil (.refl _) ?_
  refine OK.lp (fun n_ K' I' _ L' X' => ∃ (x1 : Int), K' = [(0, .slice Ap0 a0.length cp0), (1, i6 a1), (7, i6 (a0.length : Int)), (8, i6 x1)] ∧ L' = [] ∧ X' = [] ∧ Imm.le I0 I' ∧ slices_Index_int_int.l1 a0 a1 n_ x1 = some y1) k ⟨0, rfl, rfl, rfl, (Imm.le_refl _), H⟩ ?_ ?_
  ·rintro _ _ _ _ _ ⟨x1, rfl, rfl, rfl, _, H⟩
   cases H
  ·rintro kq1 _ I2 nx2 _ _ ⟨x1, rfl, rfl, rfl, hi2, H⟩ Q_l1 hJ2 hQ2
   rw [slices_Index_int_int.l1] at H
   refine OK.sr ?_
   refine RL.st 1 [(9, .bool (decide (x1 < (a0.length : Int)))), (0, .slice Ap0 a0.length cp0), (1, i6 a1), (7, i6 (a0.length : Int)), (8, i6 x1)] ?_
   refine OK.sq ?_
   refine OK.cd (decide (x1 < (a0.length : Int))) (fun hb => ?_) (fun hb => ?_)
   ·skip
    have hc := (of_decide_eq_true hb)
    rw [if_pos hc] at H
    clear hb
    refine OK.skt ?_
    refine OK.sq ?_
    refine OK.bk 1 ?_
    refine OK.sr ?_
    refine RL.st 2 [(5, i6 x1), (0, .slice Ap0 a0.length cp0), (1, i6 a1), (7, i6 (a0.length : Int)), (8, i6 x1)] ?_
    refine OK.sr ?_
    refine RL.s 3 [(13, i6 x1), (12, .slice Ap0 a0.length cp0), (11, i6 a1), (5, i6 x1), (0, .slice Ap0 a0.length cp0), (1, i6 a1), (7, i6 (a0.length : Int)), (8, i6 x1)] ?_
    obtain ⟨hib0, H⟩ := ifs H
    obtain ⟨hib1, H⟩ := ifs H
    obtain ⟨g1_, o1_, hA1_, hc1_⟩ := Ty.int_at (Rd.ext hi2 hrp0) x1 hib0 hib1
    refine RL.idx 1 .i64 x1 hA1_ a0.length cp0 (some 14) (by kernel_rfl) (by kernel_rfl) (T := 26) (e := 3) (by kernel_rfl) (by kernel_rfl) hib0 hib1 (K' := [(14, pt g1_ (o1_ + (x1).toNat * 1)), (13, i6 x1), (12, .slice Ap0 a0.length cp0), (11, i6 a1), (5, i6 x1), (0, .slice Ap0 a0.length cp0), (1, i6 a1), (7, i6 (a0.length : Int)), (8, i6 x1)]) (by kernel_rfl) ?_
    refine RL.simK (K' := [(16, .bool (a1 == (a0.getD (x1).toNat 0))), (5, i6 x1), (0, .slice Ap0 a0.length cp0), (1, i6 a1), (7, i6 (a0.length : Int)), (8, i6 x1)]) [(⟨g1_, o1_ + (x1).toNat * 1, none⟩, i6 (a0.getD (x1).toNat 0))] (RFacts.imm (hc1_ 0 _ rfl) (RFacts.nil _ _ _)) 2 [.r 0, .no] (by kernel_rfl) (by kernel_rfl) ?_
    refine RL.nt ?_
    refine OK.cd (a1 == (a0.getD (x1).toNat 0)) (fun hb => ?_) (fun hb => ?_)
    ·skip
     have hc := (beq_iff_eq.1 hb)
     rw [if_pos hc] at H
     clear hb
     refine OK.sr ?_
     refine RL.st 2 [(4, i6 x1)] ?_
     refine OK.re ?_
     refine QN.blkR ?_
     refine QN.thenR ?_
     refine QN.outR hQ2 ?_
     refine QN.blkR ?_
     refine QN.outR hQ1 ?_
     refine QN.thenR ?_
     obtain rfl := Option.some.inj H
     replace H : some x1 = some r := HK1
     obtain rfl := Option.some.inj H
     refine QN.body rfl [] (RFacts.nil _ _ _) (.no) (i6 x1) (by kernel_rfl) (by kernel_rfl) (by kernel_rfl) ?_ _ (.inr rfl)
     exact fun w' hs' => ⟨_, rfl, I2, rfl, hs'.got _ .slnil⟩
    ·skip
     have hc := (beq_eq_false_iff_ne.1 hb)
     rw [if_neg hc] at H
     clear hb
     refine OK.sk ?_
     refine QN.blkN ?_
     refine QN.then_ ?_
     refine OK.rg ?_
     refine RL.s 2 [(8, i6 (W .i64 (x1 + 1))), (0, .slice Ap0 a0.length cp0), (1, i6 a1), (7, i6 (a0.length : Int))] ?_
     refine RL.nil (by kernel_rfl) ?_
     exact QN.sb (hJ2 _ _ _ _ _ ⟨W .i64 (x1 + 1), rfl, rfl, rfl, hi2, H⟩) .slnil (.refl _)
   ·skip
    have hc := (of_decide_eq_false hb)
    rw [if_neg hc] at H
    clear hb
    refine OK.ex 0 ?_
    refine QN.thenE ?_
    refine QN.outE hQ2 ?_
    refine QN.blkE ?_
    obtain rfl := Option.some.inj H
    exact QN.sb (hJ1 _ _ _ _ _ ⟨rfl, rfl, rfl, hi2, HK1⟩) .slnil (.refl _)

end Go.Proofs.Ytihmbmeelheinaa
namespace Go.Proofs.Ytihmbmeelheinaa
open Go Go.Proofs.Ytihmbmeelheinaa.RW
set_option linter.unusedVariables false
set_option maxRecDepth 100000
set_option maxHeartbeats 8000000

/-! ### auction_Utility: function 21, armillary/auction.Utility -/
noncomputable def K21_0 : Code := cBody Try.f21
noncomputable def O21_17 : List Oper := cOps (cL (cR (cR (cR K21_0))))
def auction_Utility.f (k : Nat) (a0 : List S48) (a1 : S29) (a2 : Int) : Option (Int) := ((slices_Index_int_int.f k a1.f0 a2).bind fun t1 => (if t1 < 0 then (some 0) else ((auction_values.f k a0).bind fun t2 => (if 0 ≤ t1 then (if t1 < (a1.f1.length : Int) then (if 0 ≤ t1 then (if t1 < (a1.f2.length : Int) then (some (W .i64 (((mget t2 (a2, (a1.f1.getD (t1).toNat 0))).getD 0) - (a1.f2.getD (t1).toNat 0)))) else none) else none) else none) else none))))
def auction_Utility.Post (I : Imm) (w : World) (r : Int) (v : Value) (w' : World) : Prop :=
 ∃ (J : Imm), v = .int .i64 r ∧ Got w w' I J []
noncomputable def a21_17n : List Nat := [0, 1, 0, 0, 8, 0, 56, 120, 252, 511, 0, 1024, 0, 7168, 15360, 32767, 65535]
theorem a21_17 : ancs O21_17 [] = a21_17n := by kernel_rfl
theorem a21_17o : drawOk O21_17 a21_17n 15 = true := by kernel_rfl
noncomputable def u21d1l (t2 : (List ((Int × Int) × Int))) : List Ld :=
 [⟨1, fun x => .map (some ((x 0).2.1)), fun x => [], fun x J => Mp kK (Value.int .i64) J (x 0).2.1 t2 ∧ True, fun x J J' h f => ⟨Mp.ext h f.1, trivial⟩⟩]
noncomputable def u21d1g (a1 : S29) (a2 : Int) (t1 : Int) (t2 : (List ((Int × Int) × Int))) (g1_ : Nat) (o1_ : Nat) (g2_ : Nat) (o2_ : Nat) : List (Nat × ((Nat → Wt) → Value)) := [(6, fun u => pt g1_ (o1_ + (t1).toNat * 1)), (9, fun u => i6 ((mget t2 (a2, (a1.f1.getD (t1).toNat 0))).getD 0)), (13, fun u => pt g2_ (o2_ + (t1).toNat * 1))]
noncomputable def u21d1q (a0 : List S48) (Ap0 : Option Addr) (cp0 : Nat) (a1 : S29) (Ap1_0 : Option Addr) (cp1_0 : Nat) (Ap1_1 : Option Addr) (cp1_1 : Nat) (Ap1_2 : Option Addr) (cp1_2 : Nat) (a2 : Int) (nx0 : Nat) (t1 : Int) (t2 : (List ((Int × Int) × Int))) (g1_ : Nat) (o1_ : Nat) (g2_ : Nat) (o2_ : Nat) (u : Nat → Wt) : Option (List Value × List (Nat × Value) × List (Nat × Nat)) := qSim Try.prog [(⟨g1_, o1_ + (t1).toNat * 1, none⟩, i6 (a1.f1.getD (t1).toNat 0)), (⟨g2_, o2_ + (t1).toNat * 1, none⟩, i6 (a1.f2.getD (t1).toNat 0))] [⟨nx0, [.slice Ap1_0 a1.f0.length cp1_0, .slice Ap1_1 a1.f1.length cp1_1, .slice Ap1_2 a1.f2.length cp1_2], 29⟩] O21_17 ⟨30, []⟩ (Ld.vl (u21d1l t2)) (u21d1g a1 a2 t1 t2 g1_ o1_ g2_ o2_) u [.no, .no, .no, .no, .l 0, .no, .no, .r 0, .no, .no, .no, .l 0, .no, .no, .r 1] 0 (O21_17.take 15) [(13, .bool (decide (t1 < 0))), (7, i6 t1), (4, pt nx0 0), (0, .slice Ap0 a0.length cp0), (2, i6 a2)]
noncomputable def u21d1s (a0 : List S48) (Ap0 : Option Addr) (cp0 : Nat) (a1 : S29) (Ap1_1 : Option Addr) (cp1_1 : Nat) (Ap1_2 : Option Addr) (cp1_2 : Nat) (a2 : Int) (nx0 : Nat) (t1 : Int) (t2 : (List ((Int × Int) × Int))) (g1_ : Nat) (o1_ : Nat) (g2_ : Nat) (o2_ : Nat) (u : Nat → Wt) : List Value := [.slice Ap0 a0.length cp0, .map (some ((u 1 0).2.1)), i6 a2, pt nx0 1, .slice Ap1_1 a1.f1.length cp1_1, i6 t1, pt g1_ (o1_ + (t1).toNat * 1), i6 (a1.f1.getD (t1).toNat 0), .agg #[i6 a2, i6 (a1.f1.getD (t1).toNat 0)], i6 ((mget t2 (a2, (a1.f1.getD (t1).toNat 0))).getD 0), pt nx0 2, .slice Ap1_2 a1.f2.length cp1_2, i6 t1, pt g2_ (o2_ + (t1).toNat * 1), i6 (a1.f2.getD (t1).toNat 0)]
noncomputable def u21d1f (a0 : List S48) (Ap0 : Option Addr) (cp0 : Nat) (a1 : S29) (Ap1_1 : Option Addr) (cp1_1 : Nat) (Ap1_2 : Option Addr) (cp1_2 : Nat) (a2 : Int) (nx0 : Nat) (t1 : Int) (t2 : (List ((Int × Int) × Int))) (g1_ : Nat) (o1_ : Nat) (g2_ : Nat) (o2_ : Nat) (i : Nat) (u : Nat → Wt) : List (Nat × Value) := foldPut ⟨30, []⟩ [(13, .bool (decide (t1 < 0))), (7, i6 t1), (4, pt nx0 0), (0, .slice Ap0 a0.length cp0), (2, i6 a2)] (O21_17.take i) (((u21d1s a0 Ap0 cp0 a1 Ap1_1 cp1_1 Ap1_2 cp1_2 a2 nx0 t1 t2 g1_ o1_ g2_ o2_) u).take i)
theorem u21d1v (a0 : List S48) (Ap0 : Option Addr) (cp0 : Nat) (a1 : S29) (Ap1_0 : Option Addr) (cp1_0 : Nat) (Ap1_1 : Option Addr) (cp1_1 : Nat) (Ap1_2 : Option Addr) (cp1_2 : Nat) (a2 : Int) (nx0 : Nat) (t1 : Int) (t2 : (List ((Int × Int) × Int))) (g1_ : Nat) (o1_ : Nat) (g2_ : Nat) (o2_ : Nat) (u : Nat → Wt) : (u21d1q a0 Ap0 cp0 a1 Ap1_0 cp1_0 Ap1_1 cp1_1 Ap1_2 cp1_2 a2 nx0 t1 t2 g1_ o1_ g2_ o2_ u).map (fun x => (x.1, x.2.1)) = some ((u21d1s a0 Ap0 cp0 a1 Ap1_1 cp1_1 Ap1_2 cp1_2 a2 nx0 t1 t2 g1_ o1_ g2_ o2_) u, (u21d1f a0 Ap0 cp0 a1 Ap1_1 cp1_1 Ap1_2 cp1_2 a2 nx0 t1 t2 g1_ o1_ g2_ o2_ 15) u) := by kernel_rfl
theorem u21d1e (a0 : List S48) (Ap0 : Option Addr) (cp0 : Nat) (a1 : S29) (Ap1_0 : Option Addr) (cp1_0 : Nat) (Ap1_1 : Option Addr) (cp1_1 : Nat) (Ap1_2 : Option Addr) (cp1_2 : Nat) (a2 : Int) (nx0 : Nat) (t1 : Int) (t2 : (List ((Int × Int) × Int))) (g1_ : Nat) (o1_ : Nat) (g2_ : Nat) (o2_ : Nat) (u : Nat → Wt) : (u21d1q a0 Ap0 cp0 a1 Ap1_0 cp1_0 Ap1_1 cp1_1 Ap1_2 cp1_2 a2 nx0 t1 t2 g1_ o1_ g2_ o2_ u).map (fun x => x.2.2.map (·.1)) = (u21d1q a0 Ap0 cp0 a1 Ap1_0 cp1_0 Ap1_1 cp1_1 Ap1_2 cp1_2 a2 nx0 t1 t2 g1_ o1_ g2_ o2_ u).map (fun x => x.2.2.map (·.2)) := by kernel_rfl
theorem auction_Utility.calls (k : Nat) (I0 : Imm) (a0 : List S48) (Ap0 : Option Addr) (cp0 : Nat) (a1 : S29) (Ap1_0 : Option Addr) (cp1_0 : Nat) (Ap1_1 : Option Addr) (cp1_1 : Nat) (Ap1_2 : Option Addr) (cp1_2 : Nat) (a2 : Int) (w : World) (hI : I0.at_ w) (hlp0 : a0.length ≤ cp0) (hrp0 : Rd t48 I0 Ap0 a0) (hlp1_0 : a1.f0.length ≤ cp1_0) (hrp1_0 : Rd (Ty.int .i64) I0 Ap1_0 a1.f0) (hlp1_1 : a1.f1.length ≤ cp1_1) (hrp1_1 : Rd (Ty.int .i64) I0 Ap1_1 a1.f1) (hlp1_2 : a1.f2.length ≤ cp1_2) (hrp1_2 : Rd (Ty.int .i64) I0 Ap1_2 a1.f2) (r : Int) (h : auction_Utility.f k a0 a1 a2 = some r) :
  Calls Try.prog 21 [.slice Ap0 a0.length cp0, .agg #[.slice Ap1_0 a1.f0.length cp1_0, .slice Ap1_1 a1.f1.length cp1_1, .slice Ap1_2 a1.f2.length cp1_2], i6 a2].toArray w fun e w' => ∃ v, e = .returned v ∧ auction_Utility.Post I0 w r v w' := by
 have H : ((slices_Index_int_int.f k a1.f0 a2).bind fun t1 => (if t1 < 0 then (some 0) else ((auction_values.f k a0).bind fun t2 => (if 0 ≤ t1 then (if t1 < (a1.f1.length : Int) then (if 0 ≤ t1 then (if t1 < (a1.f2.length : Int) then (some (W .i64 (((mget t2 (a2, (a1.f1.getD (t1).toNat 0))).getD 0) - (a1.f2.getD (t1).toNat 0)))) else none) else none) else none) else none)))) = some r := h
 clear h
 refine calls_body Try.func21 (by kernel_rfl) 30 (by kernel_rfl) (by kernel_rfl) ⟨w, fun _ => False, I0⟩ I0 [] [(0, .slice Ap0 a0.length cp0), (1, .agg #[.slice Ap1_0 a1.f0.length cp1_0, .slice Ap1_1 a1.f1.length cp1_1, .slice Ap1_2 a1.f2.length cp1_2]), (2, i6 a2)] (by kernel_rfl) (Sat.start w _ I0 hI) ?_
 generalize w.heap.size = nx0
 show OK _ K21_0 _ _ _ _ _ _ _ _
 refine OK.sr ?_
 refine RL.spt 2 [(4, pt nx0 0), (0, .slice Ap0 a0.length cp0), (2, i6 a2)] (nx0 + 1) [⟨nx0, [.slice Ap1_0 a1.f0.length cp1_0, .slice Ap1_1 a1.f1.length cp1_1, .slice Ap1_2 a1.f2.length cp1_2], 29⟩] ?_
 refine OK.sr ?_
 refine RL.simK (K' := [(10, i6 a2), (9, .slice Ap1_0 a1.f0.length cp1_0), (4, pt nx0 0), (0, .slice Ap0 a0.length cp0), (2, i6 a2)]) [] (RFacts.nil _ _ _) 3 [.no, .l 0, .no] (by kernel_rfl) (by kernel_rfl) ?_
 obtain ⟨t1, hA1, H⟩ := bnd H
 refine RL.callP 42 [.slice Ap1_0 a1.f0.length cp1_0, i6 a2] (some 11) (fun w => slices_Index_int_int.Post I0 w t1) (by kernel_rfl) (by kernel_rfl) (fun w hs => slices_Index_int_int.calls k I0 a1.f0 Ap1_0 cp1_0 a2 w hs.im hlp1_0 hrp1_0 t1 hA1) ?_
 rintro w v w' hs ⟨I1, rfl, hg⟩
 have hi1 := hg.le
 refine RL.resume (X' := []) rfl (hs.call hg) ?_
 clear hs hg
 generalize w'.heap.size = nx1
 clear w w'
 refine RL.st 1 [(7, i6 t1), (4, pt nx0 0), (0, .slice Ap0 a0.length cp0), (2, i6 a2)] ?_
 refine OK.sq ?_
 refine OK.sr ?_
 refine RL.st 2 [(13, .bool (decide (t1 < 0))), (7, i6 t1), (4, pt nx0 0), (0, .slice Ap0 a0.length cp0), (2, i6 a2)] ?_
 refine OK.cd (decide (t1 < 0)) (fun hb => ?_) (fun hb => ?_)
 ·skip
  have hc := (of_decide_eq_true hb)
  rw [if_pos hc] at H
  clear hb
  refine OK.sr ?_
  refine RL.st 1 [(6, i6 0)] ?_
  refine OK.re ?_
  refine QN.thenR ?_
  obtain rfl := Option.some.inj H
  refine QN.body rfl [] (RFacts.nil _ _ _) (.no) (i6 0) (by kernel_rfl) (by kernel_rfl) (by kernel_rfl) ?_ _ (.inr rfl)
  exact fun w' hs' => ⟨_, rfl, I1, rfl, hs'.got _ .slnil⟩
 ·skip
  have hc := (of_decide_eq_false hb)
  rw [if_neg hc] at H
  clear hb
  refine OK.skt ?_
  refine OK.sq ?_
  obtain ⟨t2, hA2, H⟩ := bnd H
  obtain ⟨hi0_1, H⟩ := ifs H
  obtain ⟨hi1_1, H⟩ := ifs H
  obtain ⟨g1_, o1_, hA1_, hc1_⟩ := Ty.int_at (Rd.ext hi1 hrp1_1) t1 hi0_1 hi1_1
  obtain ⟨hi0_2, H⟩ := ifs H
  obtain ⟨hi1_2, H⟩ := ifs H
  obtain ⟨g2_, o2_, hA2_, hc2_⟩ := Ty.int_at (Rd.ext hi1 hrp1_2) t1 hi0_2 hi1_2
  refine OK.drawnC 4 15 O21_17 a21_17n (by kernel_rfl) (by kernel_rfl) (u21d1l t2) (u21d1g a1 a2 t1 t2 g1_ o1_ g2_ o2_) [(⟨g1_, o1_ + (t1).toNat * 1, none⟩, i6 (a1.f1.getD (t1).toNat 0)), (⟨g2_, o2_ + (t1).toNat * 1, none⟩, i6 (a1.f2.getD (t1).toNat 0))] (RI.cons (hc1_ 0 _ rfl) (RI.cons (hc2_ 0 _ rfl) (RI.nil _))) [.no, .no, .no, .no, .l 0, .no, .no, .r 0, .no, .no, .no, .l 0, .no, .no, .r 1] a21_17 a21_17o (by kernel_rfl) (by kernel_rfl) (u21d1s a0 Ap0 cp0 a1 Ap1_1 cp1_1 Ap1_2 cp1_2 a2 nx0 t1 t2 g1_ o1_ g2_ o2_) (u21d1f a0 Ap0 cp0 a1 Ap1_1 cp1_1 Ap1_2 cp1_2 a2 nx0 t1 t2 g1_ o1_ g2_ o2_ 15) (u21d1v a0 Ap0 cp0 a1 Ap1_0 cp1_0 Ap1_1 cp1_1 Ap1_2 cp1_2 a2 nx0 t1 t2 g1_ o1_ g2_ o2_) (u21d1e a0 Ap0 cp0 a1 Ap1_0 cp1_0 Ap1_1 cp1_1 Ap1_2 cp1_2 a2 nx0 t1 t2 g1_ o1_ g2_ o2_) [u21d1f a0 Ap0 cp0 a1 Ap1_1 cp1_1 Ap1_2 cp1_2 a2 nx0 t1 t2 g1_ o1_ g2_ o2_ 1] (framesOk.cons (fun u => rfl) framesOk.nil) ?_ [u21d1f a0 Ap0 cp0 a1 Ap1_1 cp1_1 Ap1_2 cp1_2 a2 nx0 t1 t2 g1_ o1_ g2_ o2_ 6, u21d1f a0 Ap0 cp0 a1 Ap1_1 cp1_1 Ap1_2 cp1_2 a2 nx0 t1 t2 g1_ o1_ g2_ o2_ 9, u21d1f a0 Ap0 cp0 a1 Ap1_1 cp1_1 Ap1_2 cp1_2 a2 nx0 t1 t2 g1_ o1_ g2_ o2_ 13] (framesOk.cons (fun u => rfl) (framesOk.cons (fun u => rfl) (framesOk.cons (fun u => rfl) framesOk.nil))) ?_ ?_
  ·refine LoudsG.cons ?_ (LoudsG.nil)
   ·intro D u J w hp hJ hs hF
    refine Does.call 28 [.slice Ap0 a0.length cp0] (by kernel_rfl) ((auction_values.calls k J a0 Ap0 cp0 w hs.im hlp0 (Rd.ext (Imm.le_trans hi1 hJ) hrp0) t2 hA2).mono ?_)
    rintro e w' ⟨v, rfl, J2, g0_, rfl, hg, hm0_⟩
    exact ⟨_, rfl, fun _ => (none, g0_, []), J2, rfl, hg, hm0_, trivial⟩
  ·refine Givens.cons (fun u w =>  ?_) (fun _ _ _ => rfl) (Givens.consU (fun D u w hp hS =>  ?_) (fun _ _ _ => rfl) (Givens.cons (fun u w =>  ?_) (fun _ _ _ => rfl) (Givens.nil)))
   ·exact giv_idx (T := 26) (e := 3) 1 .i64 t1 hA1_ a1.f1.length cp1_1 (by kernel_rfl) (by kernel_rfl) (by kernel_rfl) hi0_1 hi1_1 w
   ·obtain ⟨J, hJ, hs, hF⟩ := hS
    exact giv_look2 mt54 (a2, (a1.f1.getD (t1).toNat 0)) (((hF.1 (hp 1 (by kernel_rfl) (by kernel_rfl))).1)) hs.im (by kernel_rfl)
   ·exact giv_idx (T := 27) (e := 2) 1 .i64 t1 hA2_ a1.f2.length cp1_2 (by kernel_rfl) (by kernel_rfl) (by kernel_rfl) hi0_2 hi1_2 w
  intro u I2 nx2 hi2 hF
  have hf1 := ((hF.1 rfl).1)
  clear hF
  refine RL.norm (K' := [(28, i6 (a1.f2.getD (t1).toNat 0)), (27, pt g2_ (o2_ + (t1).toNat * 1)), (26, i6 t1), (25, .slice Ap1_2 a1.f2.length cp1_2), (24, pt nx0 2), (23, i6 ((mget t2 (a2, (a1.f1.getD (t1).toNat 0))).getD 0)), (22, .agg #[i6 a2, i6 (a1.f1.getD (t1).toNat 0)]), (21, i6 (a1.f1.getD (t1).toNat 0)), (20, pt g1_ (o1_ + (t1).toNat * 1)), (19, i6 t1), (18, .slice Ap1_1 a1.f1.length cp1_1), (17, pt nx0 1), (16, i6 a2), (15, .map (some ((u 1 0).2.1))), (14, .slice Ap0 a0.length cp0), (13, .bool (decide (t1 < 0))), (7, i6 t1), (4, pt nx0 0), (0, .slice Ap0 a0.length cp0), (2, i6 a2)]) (X' := []) (by kernel_rfl) rfl rfl rfl ?_
  revert hf1
  generalize (u 1 0).1 = A1
  generalize (u 1 0).2.1 = c1
  generalize (u 1 0).2.2 = cs1
  intro hf1
  clear u
  refine RL.st 2 [(6, i6 (W .i64 (((mget t2 (a2, (a1.f1.getD (t1).toNat 0))).getD 0) - (a1.f2.getD (t1).toNat 0))))] ?_
  refine OK.re ?_
  obtain rfl := Option.some.inj H
  refine QN.body rfl [] (RFacts.nil _ _ _) (.no) (i6 (W .i64 (((mget t2 (a2, (a1.f1.getD (t1).toNat 0))).getD 0) - (a1.f2.getD (t1).toNat 0)))) (by kernel_rfl) (by kernel_rfl) (by kernel_rfl) ?_ _ (.inr rfl)
  exact fun w' hs' => ⟨_, rfl, I2, rfl, hs'.got _ .slnil⟩

end Go.Proofs.Ytihmbmeelheinaa
namespace Go.Proofs.Ytihmbmeelheinaa
open Go Go.Proofs.Ytihmbmeelheinaa.RW
set_option linter.unusedVariables false
set_option maxRecDepth 100000
set_option maxHeartbeats 8000000

/-! ### auction_Welfare: function 23, armillary/auction.Welfare -/
noncomputable def K23_0 : Code := cBody Try.f23
def auction_Welfare.k1  (x1 : Int) : Option (Int) := (some x1)
def auction_Welfare.l1 (a1 : S29) (t1 : (List ((Int × Int) × Int))) : Nat → Int → Int → Option (Int)
 | 0, _, _ => none
 | k + 1, x2, x3 => (if x3 < (a1.f0.length : Int) then (if 0 ≤ x3 then (if x3 < (a1.f0.length : Int) then (if 0 ≤ x3 then (if x3 < (a1.f1.length : Int) then (auction_Welfare.l1 a1 t1 k (W .i64 (x2 + ((mget t1 ((a1.f0.getD (x3).toNat 0), (a1.f1.getD (x3).toNat 0))).getD 0))) (W .i64 (x3 + 1))) else none) else none) else none) else none) else (some x2))
def auction_Welfare.f (k : Nat) (a0 : List S48) (a1 : S29) : Option (Int) := ((auction_values.f k a0).bind fun t1 => ((auction_Welfare.l1 a1 t1 k 0 0).bind (auction_Welfare.k1)))
def auction_Welfare.Post (I : Imm) (w : World) (r : Int) (v : Value) (w' : World) : Prop :=
 ∃ (J : Imm), v = .int .i64 r ∧ Got w w' I J []
theorem auction_Welfare.calls (k : Nat) (I0 : Imm) (a0 : List S48) (Ap0 : Option Addr) (cp0 : Nat) (a1 : S29) (Ap1_0 : Option Addr) (cp1_0 : Nat) (Ap1_1 : Option Addr) (cp1_1 : Nat) (Ap1_2 : Option Addr) (cp1_2 : Nat) (w : World) (hI : I0.at_ w) (hlp0 : a0.length ≤ cp0) (hrp0 : Rd t48 I0 Ap0 a0) (hlp1_0 : a1.f0.length ≤ cp1_0) (hrp1_0 : Rd (Ty.int .i64) I0 Ap1_0 a1.f0) (hlp1_1 : a1.f1.length ≤ cp1_1) (hrp1_1 : Rd (Ty.int .i64) I0 Ap1_1 a1.f1) (hlp1_2 : a1.f2.length ≤ cp1_2) (hrp1_2 : Rd (Ty.int .i64) I0 Ap1_2 a1.f2) (r : Int) (h : auction_Welfare.f k a0 a1 = some r) :
  Calls Try.prog 23 [.slice Ap0 a0.length cp0, .agg #[.slice Ap1_0 a1.f0.length cp1_0, .slice Ap1_1 a1.f1.length cp1_1, .slice Ap1_2 a1.f2.length cp1_2]].toArray w fun e w' => ∃ v, e = .returned v ∧ auction_Welfare.Post I0 w r v w' := by
 have H : ((auction_values.f k a0).bind fun t1 => ((auction_Welfare.l1 a1 t1 k 0 0).bind (auction_Welfare.k1))) = some r := h
 clear h
 refine calls_body Try.func23 (by kernel_rfl) 32 (by kernel_rfl) (by kernel_rfl) ⟨w, fun _ => False, I0⟩ I0 [] [(0, .slice Ap0 a0.length cp0), (1, .agg #[.slice Ap1_0 a1.f0.length cp1_0, .slice Ap1_1 a1.f1.length cp1_1, .slice Ap1_2 a1.f2.length cp1_2])] (by kernel_rfl) (Sat.start w _ I0 hI) ?_
 generalize w.heap.size = nx0
 show OK _ K23_0 _ _ _ _ _ _ _ _
 refine OK.sr ?_
 refine RL.spt 2 [(3, pt nx0 0), (0, .slice Ap0 a0.length cp0)] (nx0 + 1) [⟨nx0, [.slice Ap1_0 a1.f0.length cp1_0, .slice Ap1_1 a1.f1.length cp1_1, .slice Ap1_2 a1.f2.length cp1_2], 29⟩] ?_
 refine OK.sr ?_
 refine RL.s 1 [(9, .slice Ap0 a0.length cp0), (3, pt nx0 0)] ?_
 obtain ⟨t1, hA1, H⟩ := bnd H
 refine RL.callP 28 [.slice Ap0 a0.length cp0] (some 10) (fun w => auction_values.Post I0 w t1) (by kernel_rfl) (by kernel_rfl) (fun w hs => auction_values.calls k I0 a0 Ap0 cp0 w hs.im hlp0 hrp0 t1 hA1) ?_
 rintro w v w' hs ⟨I1, g1, rfl, hg, hm1⟩
 have hi1 := hg.le
 refine RL.resume (X' := []) rfl (hs.call hg) ?_
 clear hs hg
 generalize w'.heap.size = nx1
 clear w w'
 refine RL.st 2 [(6, i6 0), (5, .map (some g1)), (3, pt nx0 0)] ?_
 refine OK.sq ?_
 refine OK.sr ?_
 refine RL.simK (K' := [(14, i6 0), (13, i6 (a1.f0.length : Int)), (12, .slice Ap1_0 a1.f0.length cp1_0), (6, i6 0), (5, .map (some g1)), (3, pt nx0 0)]) [] (RFacts.nil _ _ _) 4 [.no, .l 0, .no, .no] (by kernel_rfl) (by kernel_rfl) ?_
 refine RL.nt ?_
 refine OK.join (fun K' I' _ L' X' => ∃ (x1 : Int), K' = [(6, i6 x1)] ∧ L' = [⟨nx0, [.slice Ap1_0 a1.f0.length cp1_0, .slice Ap1_1 a1.f1.length cp1_1, .slice Ap1_2 a1.f2.length cp1_2], 29⟩] ∧ X' = [] ∧ Imm.le I1 I' ∧ auction_Welfare.k1 x1 = some r) ?_ ?_
 ·rintro _ I2 nx2 _ _ ⟨x1, rfl, rfl, rfl, hi2, H⟩
  rw [auction_Welfare.k1] at H
  refine QN.then_ ?_
  refine OK.sr ?_
  refine RL.st 2 [(4, i6 x1)] ?_
  refine OK.re ?_
  obtain rfl := Option.some.inj H
  refine QN.body rfl [] (RFacts.nil _ _ _) (.no) (i6 x1) (by kernel_rfl) (by kernel_rfl) (by kernel_rfl) ?_ _ (.inr rfl)
  exact fun w' hs' => ⟨_, rfl, I2, rfl, hs'.got _ .slnil⟩
 ·intro Q_1 hJ1 hQ1
  obtain ⟨y1, H, HK1⟩ := bnd H
  refine OK.bk 0 ?_
  refine OK.sub (K' := [(3, pt nx0 0), (5, .map (some g1)), (6, i6 0), (12, .slice Ap1_0 a1.f0.length cp1_0), (13, i6 (a1.f0.length : Int)), (14, i6 0)]) (L' := [⟨nx0, [.slice Ap1_0 a1.f0.length cp1_0, .slice Ap1_1 a1.f1.length cp1_1, .slice Ap1_2 a1.f2.length cp1_2], 29⟩]) (by kernel_rfl) (.cons_cons _ .slnil) (.refl _) ?_
  refine OK.lp (fun n_ K' I' _ L' X' => ∃ (x2 : Int) (x3 : Int), K' = [(3, pt nx0 0), (5, .map (some g1)), (6, i6 x2), (12, .slice Ap1_0 a1.f0.length cp1_0), (13, i6 (a1.f0.length : Int)), (14, i6 x3)] ∧ L' = [⟨nx0, [.slice Ap1_0 a1.f0.length cp1_0, .slice Ap1_1 a1.f1.length cp1_1, .slice Ap1_2 a1.f2.length cp1_2], 29⟩] ∧ X' = [] ∧ Imm.le I1 I' ∧ auction_Welfare.l1 a1 t1 n_ x2 x3 = some y1) k ⟨0, 0, rfl, rfl, rfl, (Imm.le_refl _), H⟩ ?_ ?_
  ·rintro _ _ _ _ _ ⟨x2, x3, rfl, rfl, rfl, _, H⟩
   cases H
  ·rintro kq1 _ I3 nx3 _ _ ⟨x2, x3, rfl, rfl, rfl, hi3, H⟩ Q_l1 hJ2 hQ2
   rw [auction_Welfare.l1] at H
   refine OK.sr ?_
   refine RL.st 1 [(15, .bool (decide (x3 < (a1.f0.length : Int)))), (3, pt nx0 0), (5, .map (some g1)), (6, i6 x2), (12, .slice Ap1_0 a1.f0.length cp1_0), (13, i6 (a1.f0.length : Int)), (14, i6 x3)] ?_
   refine OK.sq ?_
   refine OK.cd (decide (x3 < (a1.f0.length : Int))) (fun hb => ?_) (fun hb => ?_)
   ·skip
    have hc := (of_decide_eq_true hb)
    rw [if_pos hc] at H
    clear hb
    refine OK.skt ?_
    refine OK.sq ?_
    refine OK.bk 1 ?_
    refine OK.sr ?_
    refine RL.s 1 [(16, i6 x3), (3, pt nx0 0), (5, .map (some g1)), (6, i6 x2), (12, .slice Ap1_0 a1.f0.length cp1_0), (13, i6 (a1.f0.length : Int)), (14, i6 x3)] ?_
    obtain ⟨hib0, H⟩ := ifs H
    obtain ⟨hib1, H⟩ := ifs H
    obtain ⟨g1_, o1_, hA1_, hc1_⟩ := Ty.int_at (Rd.ext (Imm.le_trans hi1 hi3) hrp1_0) x3 hib0 hib1
    refine RL.idx 1 .i64 x3 hA1_ a1.f0.length cp1_0 (some 17) (by kernel_rfl) (by kernel_rfl) (T := 26) (e := 3) (by kernel_rfl) (by kernel_rfl) hib0 hib1 (K' := [(17, pt g1_ (o1_ + (x3).toNat * 1)), (16, i6 x3), (3, pt nx0 0), (5, .map (some g1)), (6, i6 x2), (12, .slice Ap1_0 a1.f0.length cp1_0), (13, i6 (a1.f0.length : Int)), (14, i6 x3)]) (by kernel_rfl) ?_
    refine RL.simK (K' := [(8, i6 (a1.f0.getD (x3).toNat 0)), (7, i6 x3), (3, pt nx0 0), (5, .map (some g1)), (6, i6 x2), (12, .slice Ap1_0 a1.f0.length cp1_0), (13, i6 (a1.f0.length : Int)), (14, i6 x3)]) [(⟨g1_, o1_ + (x3).toNat * 1, none⟩, i6 (a1.f0.getD (x3).toNat 0))] (RFacts.imm (hc1_ 0 _ rfl) (RFacts.nil _ _ _)) 3 [.r 0, .no, .no] (by kernel_rfl) (by kernel_rfl) ?_
    refine RL.nt ?_
    refine OK.rg ?_
    refine RL.simK (K' := [(24, i6 x3), (23, .slice Ap1_1 a1.f1.length cp1_1), (21, i6 (a1.f0.getD (x3).toNat 0)), (20, .map (some g1)), (19, i6 x2), (3, pt nx0 0), (5, .map (some g1)), (6, i6 x2), (12, .slice Ap1_0 a1.f0.length cp1_0), (13, i6 (a1.f0.length : Int)), (14, i6 x3)]) [] (RFacts.nil _ _ _) 6 [.no, .no, .no, .no, .l 0, .no] (by kernel_rfl) (by kernel_rfl) ?_
    obtain ⟨hib0, H⟩ := ifs H
    obtain ⟨hib1, H⟩ := ifs H
    obtain ⟨g2_, o2_, hA2_, hc2_⟩ := Ty.int_at (Rd.ext (Imm.le_trans hi1 hi3) hrp1_1) x3 hib0 hib1
    refine RL.idx 1 .i64 x3 hA2_ a1.f1.length cp1_1 (some 25) (by kernel_rfl) (by kernel_rfl) (T := 26) (e := 3) (by kernel_rfl) (by kernel_rfl) hib0 hib1 (K' := [(25, pt g2_ (o2_ + (x3).toNat * 1)), (24, i6 x3), (23, .slice Ap1_1 a1.f1.length cp1_1), (21, i6 (a1.f0.getD (x3).toNat 0)), (20, .map (some g1)), (19, i6 x2), (3, pt nx0 0), (5, .map (some g1)), (6, i6 x2), (12, .slice Ap1_0 a1.f0.length cp1_0), (13, i6 (a1.f0.length : Int)), (14, i6 x3)]) (by kernel_rfl) ?_
    refine RL.simK (K' := [(27, .agg #[i6 (a1.f0.getD (x3).toNat 0), i6 (a1.f1.getD (x3).toNat 0)]), (20, .map (some g1)), (19, i6 x2), (3, pt nx0 0), (5, .map (some g1)), (6, i6 x2), (12, .slice Ap1_0 a1.f0.length cp1_0), (13, i6 (a1.f0.length : Int)), (14, i6 x3)]) [(⟨g2_, o2_ + (x3).toNat * 1, none⟩, i6 (a1.f1.getD (x3).toNat 0))] (RFacts.imm (hc2_ 0 _ rfl) (RFacts.nil _ _ _)) 2 [.r 0, .no] (by kernel_rfl) (by kernel_rfl) ?_
    refine RL.lookF2 mt54 ((a1.f0.getD (x3).toNat 0), (a1.f1.getD (x3).toNat 0)) (some 28) (by kernel_rfl) (Mp.ext hi3 hm1) (by kernel_rfl) (K' := [(28, i6 ((mget t1 ((a1.f0.getD (x3).toNat 0), (a1.f1.getD (x3).toNat 0))).getD 0)), (27, .agg #[i6 (a1.f0.getD (x3).toNat 0), i6 (a1.f1.getD (x3).toNat 0)]), (20, .map (some g1)), (19, i6 x2), (3, pt nx0 0), (5, .map (some g1)), (6, i6 x2), (12, .slice Ap1_0 a1.f0.length cp1_0), (13, i6 (a1.f0.length : Int)), (14, i6 x3)]) (by kernel_rfl) ?_
    refine RL.s 2 [(6, i6 (W .i64 (x2 + ((mget t1 ((a1.f0.getD (x3).toNat 0), (a1.f1.getD (x3).toNat 0))).getD 0)))), (3, pt nx0 0), (5, .map (some g1)), (12, .slice Ap1_0 a1.f0.length cp1_0), (13, i6 (a1.f0.length : Int)), (14, i6 x3)] ?_
    refine RL.nil (by kernel_rfl) ?_
    refine QN.blkN ?_
    refine QN.then_ ?_
    refine OK.rg ?_
    refine RL.s 2 [(14, i6 (W .i64 (x3 + 1))), (6, i6 (W .i64 (x2 + ((mget t1 ((a1.f0.getD (x3).toNat 0), (a1.f1.getD (x3).toNat 0))).getD 0)))), (3, pt nx0 0), (5, .map (some g1)), (12, .slice Ap1_0 a1.f0.length cp1_0), (13, i6 (a1.f0.length : Int))] ?_
    refine RL.nil (by kernel_rfl) ?_
    exact QN.sb (hJ2 _ _ _ _ _ ⟨W .i64 (x2 + ((mget t1 ((a1.f0.getD (x3).toNat 0), (a1.f1.getD (x3).toNat 0))).getD 0)), W .i64 (x3 + 1), rfl, rfl, rfl, hi3, H⟩) (.cons_cons _ .slnil) (.refl _)
   ·skip
    have hc := (of_decide_eq_false hb)
    rw [if_neg hc] at H
    clear hb
    refine OK.ex 0 ?_
    refine QN.thenE ?_
    refine QN.outE hQ2 ?_
    refine QN.blkE ?_
    obtain rfl := Option.some.inj H
    exact QN.sb (hJ1 _ _ _ _ _ ⟨x2, rfl, rfl, rfl, hi3, HK1⟩) (.cons_cons _ .slnil) (.refl _)

end Go.Proofs.Ytihmbmeelheinaa
namespace Go.Proofs.Ytihmbmeelheinaa
open Go Go.Proofs.Ytihmbmeelheinaa.RW
set_option linter.unusedVariables false
set_option maxRecDepth 100000
set_option maxHeartbeats 8000000

/-! ### armillarylaw23_sanity: function 11, armillary/armillarylaw23.sanity -/
noncomputable def K11_0 : Code := cBody Try.f11
def armillarylaw23_sanity.k1  (x2 : Bool) : Option (Bool) := (some x2)
def armillarylaw23_sanity.k2 (k : Nat) (t1 : S29 × Int) (t2 : List Int × List Int × List (List Int)) (t3 : S29 × Int) (t4 : S29 × Int) (x1 : Bool) : Option (Bool) := (if x1 = true then (some false) else ((if t1.2 = 0 then ((armillaryref23_Same.f k t1.1 (⟨[1, 2], [5, 6], [4, 0]⟩ : S29)).bind fun t5 => (if t5 = true then (if 0 < (t2.1.length : Int) then (if (t2.1.getD (0 : Int).toNat 0) = 1 then (if 1 < (t2.2.1.length : Int) then (if (t2.2.1.getD (1 : Int).toNat 0) = 6 then (if 0 < (t2.2.2.length : Int) then (if 0 < ((t2.2.2.getD (0 : Int).toNat []).length : Int) then (if ((t2.2.2.getD (0 : Int).toNat []).getD (0 : Int).toNat 0) = 10 then (if 0 < (t2.2.2.length : Int) then (if 1 < ((t2.2.2.getD (0 : Int).toNat []).length : Int) then (if ((t2.2.2.getD (0 : Int).toNat []).getD (1 : Int).toNat 0) = 0 then (if 1 < (t2.2.2.length : Int) then (if 0 < ((t2.2.2.getD (1 : Int).toNat []).length : Int) then (if ((t2.2.2.getD (1 : Int).toNat []).getD (0 : Int).toNat 0) = 7 then (if 1 < (t2.2.2.length : Int) then (if 1 < ((t2.2.2.getD (1 : Int).toNat []).length : Int) then (if ((t2.2.2.getD (1 : Int).toNat []).getD (1 : Int).toNat 0) = 3 then (if t3.2 = 0 then (if (t3.1.f0.length : Int) = 0 then (if t4.2 = 1 then ((auction_Utility.f k [(⟨2, 6, 3⟩ : S48), (⟨1, 5, 10⟩ : S48), (⟨2, 5, 7⟩ : S48)] t1.1 1).bind fun t6 => (if t6 = 6 then ((auction_Utility.f k [(⟨2, 6, 3⟩ : S48), (⟨1, 5, 10⟩ : S48), (⟨2, 5, 7⟩ : S48)] t1.1 2).bind fun t7 => (if t7 = 3 then ((auction_Utility.f k [(⟨2, 6, 3⟩ : S48), (⟨1, 5, 10⟩ : S48), (⟨2, 5, 7⟩ : S48)] t1.1 9).bind fun t8 => (if t8 = 0 then ((auction_Welfare.f k [(⟨2, 6, 3⟩ : S48), (⟨1, 5, 10⟩ : S48), (⟨2, 5, 7⟩ : S48)] t1.1).bind fun t9 => (if t9 = 13 then ((auction_Valid.f k [(⟨2, 6, 3⟩ : S48), (⟨1, 5, 10⟩ : S48), (⟨2, 5, 7⟩ : S48)]).bind fun t10 => (if t10 = true then ((auction_Valid.f k [(⟨1, 1, 0⟩ : S48)]).bind fun t11 => (if t11 = true then (some false) else ((auction_Valid.f k [(⟨1001, 1, 1⟩ : S48)]).bind fun t12 => (some (!t12))))) else (some false))) else (some false))) else (some false))) else (some false))) else (some false))) else (some false)) else (some false)) else (some false)) else (some false)) else none) else none) else (some false)) else none) else none) else (some false)) else none) else none) else (some false)) else none) else none) else (some false)) else none) else (some false)) else none) else (some false))) else (some false)).bind (armillarylaw23_sanity.k1)))
def armillarylaw23_sanity.f (k : Nat)  : Option (Bool) := ((auction_Clear.f k [(⟨2, 6, 3⟩ : S48), (⟨1, 5, 10⟩ : S48), (⟨2, 5, 7⟩ : S48)]).bind fun t1 => ((auction_Tabulate.f k [(⟨2, 6, 3⟩ : S48), (⟨1, 5, 10⟩ : S48), (⟨2, 5, 7⟩ : S48)]).bind fun t2 => ((auction_Clear.f k []).bind fun t3 => ((auction_Clear.f k [(⟨1, 1, 1⟩ : S48), (⟨1, 1, 2⟩ : S48)]).bind fun t4 => ((if (t2.1.length : Int) ≠ 2 then (some true) else (if (t2.2.1.length : Int) ≠ 2 then (some true) else (if (t2.2.2.length : Int) ≠ 2 then (some true) else (if 0 < (t2.2.2.length : Int) then (if ((t2.2.2.getD (0 : Int).toNat []).length : Int) ≠ 2 then (some true) else (if 1 < (t2.2.2.length : Int) then (some (((t2.2.2.getD (1 : Int).toNat []).length : Int) != 2)) else none)) else none)))).bind (armillarylaw23_sanity.k2 k t1 t2 t3 t4))))))
def armillarylaw23_sanity.Post (I : Imm) (w : World) (r : Bool) (v : Value) (w' : World) : Prop :=
 ∃ (J : Imm), v = .bool r ∧ Got w w' I J []
theorem armillarylaw23_sanity.calls (k : Nat) (I0 : Imm)  (w : World) (hI : I0.at_ w)  (r : Bool) (h : armillarylaw23_sanity.f k  = some r) :
  Calls Try.prog 11 [].toArray w fun e w' => ∃ v, e = .returned v ∧ armillarylaw23_sanity.Post I0 w r v w' := by
 have H : ((auction_Clear.f k [(⟨2, 6, 3⟩ : S48), (⟨1, 5, 10⟩ : S48), (⟨2, 5, 7⟩ : S48)]).bind fun t1 => ((auction_Tabulate.f k [(⟨2, 6, 3⟩ : S48), (⟨1, 5, 10⟩ : S48), (⟨2, 5, 7⟩ : S48)]).bind fun t2 => ((auction_Clear.f k []).bind fun t3 => ((auction_Clear.f k [(⟨1, 1, 1⟩ : S48), (⟨1, 1, 2⟩ : S48)]).bind fun t4 => ((if (t2.1.length : Int) ≠ 2 then (some true) else (if (t2.2.1.length : Int) ≠ 2 then (some true) else (if (t2.2.2.length : Int) ≠ 2 then (some true) else (if 0 < (t2.2.2.length : Int) then (if ((t2.2.2.getD (0 : Int).toNat []).length : Int) ≠ 2 then (some true) else (if 1 < (t2.2.2.length : Int) then (some (((t2.2.2.getD (1 : Int).toNat []).length : Int) != 2)) else none)) else none)))).bind (armillarylaw23_sanity.k2 k t1 t2 t3 t4)))))) = some r := h
 clear h
 refine calls_body Try.func11 (by kernel_rfl) 172 (by kernel_rfl) (by kernel_rfl) ⟨w, fun _ => False, I0⟩ I0 [] [] (by kernel_rfl) (Sat.start w _ I0 hI) ?_
 generalize w.heap.size = nx0
 show OK _ K11_0 _ _ _ _ _ _ _ _
 refine OK.sr ?_
 refine RL.st 1 [] ?_
 refine OK.sr ?_
 refine RL.spt 5 [(1, .slice (some ⟨nx0, 0, none⟩) 3 3)] (nx0 + 1) [⟨nx0, [i6 2, i6 6, i6 3, i6 1, i6 5, i6 10, i6 2, i6 5, i6 7], 48⟩] ?_
 refine OK.sr ?_
 refine RL.s 1 [(16, .slice (some ⟨nx0, 0, none⟩) 3 3), (1, .slice (some ⟨nx0, 0, none⟩) 3 3)] ?_
 refine RL.freezeL (d := t48) (xs := [(⟨2, 6, 3⟩ : S48), (⟨1, 5, 10⟩ : S48), (⟨2, 5, 7⟩ : S48)]) (b := ⟨nx0, [i6 2, i6 6, i6 3, i6 1, i6 5, i6 10, i6 2, i6 5, i6 7], 48⟩) 0 (by kernel_rfl) ⟨_, _, rfl, (t48_mk _ _), ⟨_, _, rfl, (t48_mk _ _), ⟨_, _, rfl, (t48_mk _ _), rfl⟩⟩⟩ (Nat.le_of_ble_eq_true rfl) (fun I1 hi1 hr1 => ?_)
 obtain ⟨t1, hA1, H⟩ := bnd H
 refine RL.callP 15 [.slice (some ⟨nx0, 0, none⟩) 3 3] (some 17) (fun w => auction_Clear.Post I1 w t1) (by kernel_rfl) (by kernel_rfl) (fun w hs => auction_Clear.calls k I1 [(⟨2, 6, 3⟩ : S48), (⟨1, 5, 10⟩ : S48), (⟨2, 5, 7⟩ : S48)] (some ⟨nx0, 0, none⟩) 3 w hs.im (Nat.le_of_ble_eq_true rfl) hr1 t1 hA1) ?_
 rintro w v w' hs ⟨I2, A1, c1, cs1, A2, c2, cs2, A3, c3, cs3, rfl, hg, hp1, hp2, hp3⟩
 have hi2 := hg.le
 refine RL.resume (X' := [orow 3 1 A1 t1.1.f0.length c1 cs1, orow 3 1 A2 t1.1.f1.length c2 cs2, orow 2 1 A3 t1.1.f2.length c3 cs3]) rfl (hs.call hg) ?_
 clear hs hg
 generalize w'.heap.size = nx1
 clear w w'
 refine RL.freeze (e := 3) (sz := 1) (S := A1) (n := t1.1.f0.length) (cap := c1) 0 (by kernel_rfl) hp1 rfl (fun I3 hi3 hl1 hr2 => ?_)
 skip
 refine RL.freeze (e := 3) (sz := 1) (S := A2) (n := t1.1.f1.length) (cap := c2) 0 (by kernel_rfl) (Reps.ext hi3 hp2) rfl (fun I4 hi4 hl2 hr3 => ?_)
 skip
 refine RL.freeze (e := 2) (sz := 1) (S := A3) (n := t1.1.f2.length) (cap := c3) 0 (by kernel_rfl) (Reps.ext (Imm.le_trans hi3 hi4) hp3) rfl (fun I5 hi5 hl3 hr4 => ?_)
 skip
 refine RL.simP (K' := [(3, i6 t1.2), (2, pt nx1 0), (1, .slice (some ⟨nx0, 0, none⟩) 3 3)]) (nx' := nx1 + 1) (L' := [⟨nx1, [.slice A1 t1.1.f0.length c1, .slice A2 t1.1.f1.length c2, .slice A3 t1.1.f2.length c3], 29⟩]) [] (RFacts.nil _ _ _) 6 [.no, .no, .no, .no, .l 0, .no] (by kernel_rfl) (by kernel_rfl) ?_
 refine RL.nt ?_
 refine OK.sr ?_
 refine RL.s 1 [(21, .slice (some ⟨nx0, 0, none⟩) 3 3), (3, i6 t1.2), (2, pt nx1 0), (1, .slice (some ⟨nx0, 0, none⟩) 3 3)] ?_
 obtain ⟨t2, hA2, H⟩ := bnd H
 refine RL.callP 17 [.slice (some ⟨nx0, 0, none⟩) 3 3] (some 22) (fun w => auction_Tabulate.Post I5 w t2) (by kernel_rfl) (by kernel_rfl) (fun w hs => auction_Tabulate.calls k I5 [(⟨2, 6, 3⟩ : S48), (⟨1, 5, 10⟩ : S48), (⟨2, 5, 7⟩ : S48)] (some ⟨nx0, 0, none⟩) 3 w hs.im (Nat.le_of_ble_eq_true rfl) (Rd.ext (Imm.le_trans (Imm.le_trans (Imm.le_trans hi2 hi3) hi4) hi5) hr1) t2 hA2) ?_
 rintro w v w' hs ⟨I6, A4, c4, cs4, A5, c5, cs5, A6, c6, cs6, rfl, hg, hp4, hp5, hp6⟩
 have hi6 := hg.le
 refine RL.resume (X' := [orow 3 1 A4 t2.1.length c4 cs4, orow 3 1 A5 t2.2.1.length c5 cs5, orow 27 1 A6 t2.2.2.length c6 cs6]) rfl (hs.call hg) ?_
 clear hs hg
 generalize w'.heap.size = nx2
 clear w w'
 refine RL.st 7 [(6, .slice A6 t2.2.2.length c6), (5, .slice A5 t2.2.1.length c5), (4, .slice A4 t2.1.length c4), (3, i6 t1.2), (2, pt nx1 0), (1, .slice (some ⟨nx0, 0, none⟩) 3 3)] ?_
 refine OK.sr ?_
 obtain ⟨t3, hA3, H⟩ := bnd H
 refine RL.callP 15 [.slice none 0 0] (some 27) (fun w => auction_Clear.Post I6 w t3) (by kernel_rfl) (by kernel_rfl) (fun w hs => auction_Clear.calls k I6 [] none 0 w hs.im (Nat.le_refl _) (Rd.nil _ _ _) t3 hA3) ?_
 rintro w v w' hs ⟨I7, A7, c7, cs7, A8, c8, cs8, A9, c9, cs9, rfl, hg, hp7, hp8, hp9⟩
 have hi7 := hg.le
 refine RL.resume (X' := [orow 3 1 A4 t2.1.length c4 cs4, orow 3 1 A5 t2.2.1.length c5 cs5, orow 27 1 A6 t2.2.2.length c6 cs6, orow 3 1 A7 t3.1.f0.length c7 cs7, orow 3 1 A8 t3.1.f1.length c8 cs8, orow 2 1 A9 t3.1.f2.length c9 cs9]) rfl (hs.call hg) ?_
 clear hs hg
 generalize w'.heap.size = nx3
 clear w w'
 refine RL.freeze (e := 3) (sz := 1) (S := A7) (n := t3.1.f0.length) (cap := c7) 3 (by kernel_rfl) hp7 rfl (fun I8 hi8 hl4 hr5 => ?_)
 skip
 refine RL.freeze (e := 3) (sz := 1) (S := A8) (n := t3.1.f1.length) (cap := c8) 3 (by kernel_rfl) (Reps.ext hi8 hp8) rfl (fun I9 hi9 hl5 hr6 => ?_)
 skip
 refine RL.freeze (e := 2) (sz := 1) (S := A9) (n := t3.1.f2.length) (cap := c9) 3 (by kernel_rfl) (Reps.ext (Imm.le_trans hi8 hi9) hp9) rfl (fun I10 hi10 hl6 hr7 => ?_)
 skip
 refine RL.simP (K' := [(8, i6 t3.2), (7, pt nx3 0), (6, .slice A6 t2.2.2.length c6), (5, .slice A5 t2.2.1.length c5), (4, .slice A4 t2.1.length c4), (3, i6 t1.2), (2, pt nx1 0), (1, .slice (some ⟨nx0, 0, none⟩) 3 3)]) (nx' := nx3 + 1) (L' := [⟨nx1, [.slice A1 t1.1.f0.length c1, .slice A2 t1.1.f1.length c2, .slice A3 t1.1.f2.length c3], 29⟩, ⟨nx3, [.slice A7 t3.1.f0.length c7, .slice A8 t3.1.f1.length c8, .slice A9 t3.1.f2.length c9], 29⟩]) [] (RFacts.nil _ _ _) 6 [.no, .no, .no, .no, .l 1, .no] (by kernel_rfl) (by kernel_rfl) ?_
 refine RL.nt ?_
 refine OK.sr ?_
 refine RL.sp 3 [(33, .slice (some ⟨nx3 + 1, 0, none⟩) 2 2), (8, i6 t3.2), (7, pt nx3 0), (6, .slice A6 t2.2.2.length c6), (5, .slice A5 t2.2.1.length c5), (4, .slice A4 t2.1.length c4), (3, i6 t1.2), (2, pt nx1 0), (1, .slice (some ⟨nx0, 0, none⟩) 3 3)] (nx3 + 2) [⟨nx1, [.slice A1 t1.1.f0.length c1, .slice A2 t1.1.f1.length c2, .slice A3 t1.1.f2.length c3], 29⟩, ⟨nx3, [.slice A7 t3.1.f0.length c7, .slice A8 t3.1.f1.length c8, .slice A9 t3.1.f2.length c9], 29⟩, ⟨nx3 + 1, [i6 1, i6 1, i6 1, i6 1, i6 1, i6 2], 48⟩] ?_
 refine RL.freezeL (d := t48) (xs := [(⟨1, 1, 1⟩ : S48), (⟨1, 1, 2⟩ : S48)]) (b := ⟨nx3 + 1, [i6 1, i6 1, i6 1, i6 1, i6 1, i6 2], 48⟩) 2 (by kernel_rfl) ⟨_, _, rfl, (t48_mk _ _), ⟨_, _, rfl, (t48_mk _ _), rfl⟩⟩ (Nat.le_of_ble_eq_true rfl) (fun I11 hi11 hr8 => ?_)
 obtain ⟨t4, hA4, H⟩ := bnd H
 refine RL.callP 15 [.slice (some ⟨nx3 + 1, 0, none⟩) 2 2] (some 34) (fun w => auction_Clear.Post I11 w t4) (by kernel_rfl) (by kernel_rfl) (fun w hs => auction_Clear.calls k I11 [(⟨1, 1, 1⟩ : S48), (⟨1, 1, 2⟩ : S48)] (some ⟨nx3 + 1, 0, none⟩) 2 w hs.im (Nat.le_of_ble_eq_true rfl) hr8 t4 hA4) ?_
 rintro w v w' hs ⟨I12, A10, c10, cs10, A11, c11, cs11, A12, c12, cs12, rfl, hg, hp10, hp11, hp12⟩
 have hi12 := hg.le
 refine RL.resume (X' := [orow 3 1 A4 t2.1.length c4 cs4, orow 3 1 A5 t2.2.1.length c5 cs5, orow 27 1 A6 t2.2.2.length c6 cs6, orow 3 1 A10 t4.1.f0.length c10 cs10, orow 3 1 A11 t4.1.f1.length c11 cs11, orow 2 1 A12 t4.1.f2.length c12 cs12]) rfl (hs.call hg) ?_
 clear hs hg
 generalize w'.heap.size = nx4
 clear w w'
 refine RL.freeze (e := 3) (sz := 1) (S := A10) (n := t4.1.f0.length) (cap := c10) 3 (by kernel_rfl) hp10 rfl (fun I13 hi13 hl7 hr9 => ?_)
 skip
 refine RL.freeze (e := 3) (sz := 1) (S := A11) (n := t4.1.f1.length) (cap := c11) 3 (by kernel_rfl) (Reps.ext hi13 hp11) rfl (fun I14 hi14 hl8 hr10 => ?_)
 skip
 refine RL.freeze (e := 2) (sz := 1) (S := A12) (n := t4.1.f2.length) (cap := c12) 3 (by kernel_rfl) (Reps.ext (Imm.le_trans hi13 hi14) hp12) rfl (fun I15 hi15 hl9 hr11 => ?_)
 skip
 refine RL.simP (K' := [(10, i6 t4.2), (8, i6 t3.2), (7, pt nx3 0), (6, .slice A6 t2.2.2.length c6), (5, .slice A5 t2.2.1.length c5), (4, .slice A4 t2.1.length c4), (3, i6 t1.2), (2, pt nx1 0), (1, .slice (some ⟨nx0, 0, none⟩) 3 3)]) (nx' := nx4 + 1) (L' := [⟨nx1, [.slice A1 t1.1.f0.length c1, .slice A2 t1.1.f1.length c2, .slice A3 t1.1.f2.length c3], 29⟩, ⟨nx3, [.slice A7 t3.1.f0.length c7, .slice A8 t3.1.f1.length c8, .slice A9 t3.1.f2.length c9], 29⟩, ⟨nx4, [.slice A10 t4.1.f0.length c10, .slice A11 t4.1.f1.length c11, .slice A12 t4.1.f2.length c12], 29⟩]) [] (RFacts.nil _ _ _) 6 [.no, .no, .no, .no, .l 2, .no] (by kernel_rfl) (by kernel_rfl) ?_
 refine RL.nt ?_
 refine OK.sq ?_
 refine OK.sq ?_
 refine OK.join (fun K' I' _ L' X' => ∃ (x1 : Bool), K' = [(1, .slice (some ⟨nx0, 0, none⟩) 3 3), (2, pt nx1 0), (3, i6 t1.2), (4, .slice A4 t2.1.length c4), (5, .slice A5 t2.2.1.length c5), (6, .slice A6 t2.2.2.length c6), (7, pt nx3 0), (8, i6 t3.2), (10, i6 t4.2), (63, .bool x1)] ∧ L' = [⟨nx1, [.slice A1 t1.1.f0.length c1, .slice A2 t1.1.f1.length c2, .slice A3 t1.1.f2.length c3], 29⟩, ⟨nx3, [.slice A7 t3.1.f0.length c7, .slice A8 t3.1.f1.length c8, .slice A9 t3.1.f2.length c9], 29⟩, ⟨nx4, [.slice A10 t4.1.f0.length c10, .slice A11 t4.1.f1.length c11, .slice A12 t4.1.f2.length c12], 29⟩] ∧ X' = [orow 3 1 A4 t2.1.length c4 cs4, orow 3 1 A5 t2.2.1.length c5 cs5, orow 27 1 A6 t2.2.2.length c6 cs6] ∧ Imm.le I15 I' ∧ armillarylaw23_sanity.k2 k t1 t2 t3 t4 x1 = some r) ?_ ?_
 ·rintro _ I16 nx5 _ _ ⟨x1, rfl, rfl, rfl, hi16, H⟩
  rw [armillarylaw23_sanity.k2] at H
  refine QN.then_ ?_
  refine OK.cd x1 (fun hb => ?_) (fun hb => ?_)
  ·skip
   have hc := hb
   rw [if_pos hc] at H
   clear hb
   refine OK.sr ?_
   refine RL.st 1 [(0, .bool false)] ?_
   refine OK.re ?_
   refine QN.thenR ?_
   obtain rfl := Option.some.inj H
   refine QN.body rfl [] (RFacts.nil _ _ _) (.no) (.bool false) (by kernel_rfl) (by kernel_rfl) (by kernel_rfl) ?_ _ (.inr rfl)
   exact fun w' hs' => ⟨_, rfl, I16, rfl, hs'.got _ (.cons _ (.cons _ (.cons _ .slnil)))⟩
  ·skip
   have hc := (Bool.eq_false_iff.1 hb)
   rw [if_neg hc] at H
   clear hb
   refine OK.skt ?_
   refine OK.sq ?_
   refine OK.join (fun K' I' _ L' X' => ∃ (x2 : Bool), K' = [(0, .bool x2)] ∧ L' = [⟨nx1, [.slice A1 t1.1.f0.length c1, .slice A2 t1.1.f1.length c2, .slice A3 t1.1.f2.length c3], 29⟩, ⟨nx3, [.slice A7 t3.1.f0.length c7, .slice A8 t3.1.f1.length c8, .slice A9 t3.1.f2.length c9], 29⟩, ⟨nx4, [.slice A10 t4.1.f0.length c10, .slice A11 t4.1.f1.length c11, .slice A12 t4.1.f2.length c12], 29⟩] ∧ X' = [] ∧ Imm.le I16 I' ∧ armillarylaw23_sanity.k1 x2 = some r) ?_ ?_
   ·rintro _ I17 nx6 _ _ ⟨x2, rfl, rfl, rfl, hi17, H⟩
    rw [armillarylaw23_sanity.k1] at H
    refine QN.then_ ?_
    refine OK.re ?_
    obtain rfl := Option.some.inj H
    refine QN.body rfl [] (RFacts.nil _ _ _) (.no) (.bool x2) (by kernel_rfl) (by kernel_rfl) (by kernel_rfl) ?_ _ (.inr rfl)
    exact fun w' hs' => ⟨_, rfl, I17, rfl, hs'.got _ .slnil⟩
   ·intro Q_1 hJ2 hQ2
    obtain ⟨y2, H, HK2⟩ := bnd H
    refine OK.rg ?_
    refine RL.s 3 [(66, .bool (t1.2 == 0)), (1, .slice (some ⟨nx0, 0, none⟩) 3 3), (2, pt nx1 0), (4, .slice A4 t2.1.length c4), (5, .slice A5 t2.2.1.length c5), (6, .slice A6 t2.2.2.length c6), (7, pt nx3 0), (8, i6 t3.2), (10, i6 t4.2)] ?_
    refine RL.cases (t1.2 == 0) (fun hb => ?_) (fun hb => ?_)
    ·have hc := (beq_iff_eq.1 hb)
     rw [hb]
     rw [if_pos hc] at H; clear hb
     refine RL.simP (K' := [(71, .agg #[.slice (some ⟨nx5, 0, none⟩) 2 2, .slice (some ⟨nx5 + 1, 0, none⟩) 2 2, .slice (some ⟨nx5 + 2, 0, none⟩) 2 2]), (67, .agg #[.slice A1 t1.1.f0.length c1, .slice A2 t1.1.f1.length c2, .slice A3 t1.1.f2.length c3]), (66, .bool true), (1, .slice (some ⟨nx0, 0, none⟩) 3 3), (2, pt nx1 0), (4, .slice A4 t2.1.length c4), (5, .slice A5 t2.2.1.length c5), (6, .slice A6 t2.2.2.length c6), (7, pt nx3 0), (8, i6 t3.2), (10, i6 t4.2)]) (nx' := nx5 + 3) (L' := [⟨nx1, [.slice A1 t1.1.f0.length c1, .slice A2 t1.1.f1.length c2, .slice A3 t1.1.f2.length c3], 29⟩, ⟨nx3, [.slice A7 t3.1.f0.length c7, .slice A8 t3.1.f1.length c8, .slice A9 t3.1.f2.length c9], 29⟩, ⟨nx4, [.slice A10 t4.1.f0.length c10, .slice A11 t4.1.f1.length c11, .slice A12 t4.1.f2.length c12], 29⟩, ⟨nx5, [i6 1, i6 2], 3⟩, ⟨nx5 + 1, [i6 5, i6 6], 3⟩, ⟨nx5 + 2, [i6 4, i6 0], 2⟩]) [] (RFacts.nil _ _ _) 5 [.l 0, .no, .no, .no, .no] (by kernel_rfl) (by kernel_rfl) ?_
     refine RL.toRow (b := ⟨nx5, [i6 1, i6 2], 3⟩) 3 2 1 (by kernel_rfl) (by kernel_rfl) (by decide) ?_
     have hp13 : Reps (Ty.int .i64) I16 [1, 2] [i6 1, i6 2] := ⟨_, _, rfl, rfl, ⟨_, _, rfl, rfl, rfl⟩⟩
     refine RL.norm (K' := [(71, .agg #[.slice (some ⟨nx5, 0, none⟩) ([1, 2].length) 2, .slice (some ⟨nx5 + 1, 0, none⟩) 2 2, .slice (some ⟨nx5 + 2, 0, none⟩) 2 2]), (67, .agg #[.slice A1 t1.1.f0.length c1, .slice A2 t1.1.f1.length c2, .slice A3 t1.1.f2.length c3]), (66, .bool true), (1, .slice (some ⟨nx0, 0, none⟩) 3 3), (2, pt nx1 0), (4, .slice A4 t2.1.length c4), (5, .slice A5 t2.2.1.length c5), (6, .slice A6 t2.2.2.length c6), (7, pt nx3 0), (8, i6 t3.2), (10, i6 t4.2)]) (L' := [⟨nx1, [.slice A1 t1.1.f0.length c1, .slice A2 t1.1.f1.length c2, .slice A3 t1.1.f2.length c3], 29⟩, ⟨nx3, [.slice A7 t3.1.f0.length c7, .slice A8 t3.1.f1.length c8, .slice A9 t3.1.f2.length c9], 29⟩, ⟨nx4, [.slice A10 t4.1.f0.length c10, .slice A11 t4.1.f1.length c11, .slice A12 t4.1.f2.length c12], 29⟩, ⟨nx5 + 1, [i6 5, i6 6], 3⟩, ⟨nx5 + 2, [i6 4, i6 0], 2⟩]) (X' := [orow 3 1 A4 t2.1.length c4 cs4, orow 3 1 A5 t2.2.1.length c5 cs5, orow 27 1 A6 t2.2.2.length c6 cs6, orow 3 1 (some ⟨nx5, 0, none⟩) ([1, 2].length) 2 [i6 1, i6 2]]) (by kernel_rfl) rfl (by kernel_rfl) (by kernel_rfl) ?_
     refine RL.toRow (b := ⟨nx5 + 1, [i6 5, i6 6], 3⟩) 3 2 1 (by kernel_rfl) (by kernel_rfl) (by decide) ?_
     have hp14 : Reps (Ty.int .i64) I16 [5, 6] [i6 5, i6 6] := ⟨_, _, rfl, rfl, ⟨_, _, rfl, rfl, rfl⟩⟩
     refine RL.norm (K' := [(71, .agg #[.slice (some ⟨nx5, 0, none⟩) ([1, 2].length) 2, .slice (some ⟨nx5 + 1, 0, none⟩) ([5, 6].length) 2, .slice (some ⟨nx5 + 2, 0, none⟩) 2 2]), (67, .agg #[.slice A1 t1.1.f0.length c1, .slice A2 t1.1.f1.length c2, .slice A3 t1.1.f2.length c3]), (66, .bool true), (1, .slice (some ⟨nx0, 0, none⟩) 3 3), (2, pt nx1 0), (4, .slice A4 t2.1.length c4), (5, .slice A5 t2.2.1.length c5), (6, .slice A6 t2.2.2.length c6), (7, pt nx3 0), (8, i6 t3.2), (10, i6 t4.2)]) (L' := [⟨nx1, [.slice A1 t1.1.f0.length c1, .slice A2 t1.1.f1.length c2, .slice A3 t1.1.f2.length c3], 29⟩, ⟨nx3, [.slice A7 t3.1.f0.length c7, .slice A8 t3.1.f1.length c8, .slice A9 t3.1.f2.length c9], 29⟩, ⟨nx4, [.slice A10 t4.1.f0.length c10, .slice A11 t4.1.f1.length c11, .slice A12 t4.1.f2.length c12], 29⟩, ⟨nx5 + 2, [i6 4, i6 0], 2⟩]) (X' := [orow 3 1 A4 t2.1.length c4 cs4, orow 3 1 A5 t2.2.1.length c5 cs5, orow 27 1 A6 t2.2.2.length c6 cs6, orow 3 1 (some ⟨nx5, 0, none⟩) ([1, 2].length) 2 [i6 1, i6 2], orow 3 1 (some ⟨nx5 + 1, 0, none⟩) ([5, 6].length) 2 [i6 5, i6 6]]) (by kernel_rfl) rfl (by kernel_rfl) (by kernel_rfl) ?_
     refine RL.toRow (b := ⟨nx5 + 2, [i6 4, i6 0], 2⟩) 3 2 1 (by kernel_rfl) (by kernel_rfl) (by decide) ?_
     have hp15 : Reps (Ty.int .i64) I16 [4, 0] [i6 4, i6 0] := ⟨_, _, rfl, rfl, ⟨_, _, rfl, rfl, rfl⟩⟩
     refine RL.norm (K' := [(71, .agg #[.slice (some ⟨nx5, 0, none⟩) ([1, 2].length) 2, .slice (some ⟨nx5 + 1, 0, none⟩) ([5, 6].length) 2, .slice (some ⟨nx5 + 2, 0, none⟩) ([4, 0].length) 2]), (67, .agg #[.slice A1 t1.1.f0.length c1, .slice A2 t1.1.f1.length c2, .slice A3 t1.1.f2.length c3]), (66, .bool true), (1, .slice (some ⟨nx0, 0, none⟩) 3 3), (2, pt nx1 0), (4, .slice A4 t2.1.length c4), (5, .slice A5 t2.2.1.length c5), (6, .slice A6 t2.2.2.length c6), (7, pt nx3 0), (8, i6 t3.2), (10, i6 t4.2)]) (L' := [⟨nx1, [.slice A1 t1.1.f0.length c1, .slice A2 t1.1.f1.length c2, .slice A3 t1.1.f2.length c3], 29⟩, ⟨nx3, [.slice A7 t3.1.f0.length c7, .slice A8 t3.1.f1.length c8, .slice A9 t3.1.f2.length c9], 29⟩, ⟨nx4, [.slice A10 t4.1.f0.length c10, .slice A11 t4.1.f1.length c11, .slice A12 t4.1.f2.length c12], 29⟩]) (X' := [orow 3 1 A4 t2.1.length c4 cs4, orow 3 1 A5 t2.2.1.length c5 cs5, orow 27 1 A6 t2.2.2.length c6 cs6, orow 3 1 (some ⟨nx5, 0, none⟩) ([1, 2].length) 2 [i6 1, i6 2], orow 3 1 (some ⟨nx5 + 1, 0, none⟩) ([5, 6].length) 2 [i6 5, i6 6], orow 2 1 (some ⟨nx5 + 2, 0, none⟩) ([4, 0].length) 2 [i6 4, i6 0]]) (by kernel_rfl) rfl (by kernel_rfl) (by kernel_rfl) ?_
     obtain ⟨t5, hA5, H⟩ := bnd H
     refine RL.callP 19 [.agg #[.slice A1 t1.1.f0.length c1, .slice A2 t1.1.f1.length c2, .slice A3 t1.1.f2.length c3], .agg #[.slice (some ⟨nx5, 0, none⟩) ([1, 2].length) 2, .slice (some ⟨nx5 + 1, 0, none⟩) ([5, 6].length) 2, .slice (some ⟨nx5 + 2, 0, none⟩) ([4, 0].length) 2]] (some 72) (fun w v w' => ∃ I', Imm.le I16 I' ∧ armillaryref23_Same.Post I' w t5 v w') (by kernel_rfl) (by kernel_rfl) (fun w hs => ?_) ?_
     ·skip
      obtain ⟨JL1, hj1, hn1, hw1, hs⟩ := Sat.freeze (e := 3) (sz := 1) (S := (some ⟨nx5, 0, none⟩)) (n := [1, 2].length) (cap := 2) (m := 3) hs (by kernel_rfl) hp13 rfl
      obtain ⟨JL2, hj2, hn2, hw2, hs⟩ := Sat.freeze (e := 3) (sz := 1) (S := (some ⟨nx5 + 1, 0, none⟩)) (n := [5, 6].length) (cap := 2) (m := 3) hs (by kernel_rfl) (Reps.ext hj1 hp14) rfl
      obtain ⟨JL3, hj3, hn3, hw3, hs⟩ := Sat.freeze (e := 2) (sz := 1) (S := (some ⟨nx5 + 2, 0, none⟩)) (n := [4, 0].length) (cap := 2) (m := 3) hs (by kernel_rfl) (Reps.ext (Imm.le_trans hj1 hj2) hp15) rfl
      exact (armillaryref23_Same.calls k JL3 t1.1 A1 c1 A2 c2 A3 c3 (⟨[1, 2], [5, 6], [4, 0]⟩ : S29) (some ⟨nx5, 0, none⟩) 2 (some ⟨nx5 + 1, 0, none⟩) 2 (some ⟨nx5 + 2, 0, none⟩) 2 _ hs.im hl1 (Rd.ext (Imm.le_trans (Imm.le_trans hj1 hj2) hj3) (Rd.ext (Imm.le_trans (Imm.le_trans (Imm.le_trans (Imm.le_trans (Imm.le_trans (Imm.le_trans (Imm.le_trans (Imm.le_trans (Imm.le_trans (Imm.le_trans (Imm.le_trans (Imm.le_trans hi4 hi5) hi6) hi7) hi8) hi9) hi10) hi11) hi12) hi13) hi14) hi15) hi16) hr2)) hl2 (Rd.ext (Imm.le_trans (Imm.le_trans hj1 hj2) hj3) (Rd.ext (Imm.le_trans (Imm.le_trans (Imm.le_trans (Imm.le_trans (Imm.le_trans (Imm.le_trans (Imm.le_trans (Imm.le_trans (Imm.le_trans (Imm.le_trans (Imm.le_trans hi5 hi6) hi7) hi8) hi9) hi10) hi11) hi12) hi13) hi14) hi15) hi16) hr3)) hl3 (Rd.ext (Imm.le_trans (Imm.le_trans hj1 hj2) hj3) (Rd.ext (Imm.le_trans (Imm.le_trans (Imm.le_trans (Imm.le_trans (Imm.le_trans (Imm.le_trans (Imm.le_trans (Imm.le_trans (Imm.le_trans (Imm.le_trans hi6 hi7) hi8) hi9) hi10) hi11) hi12) hi13) hi14) hi15) hi16) hr4)) hn1 (Rd.ext hj3 (Rd.ext hj2 hw1)) hn2 (Rd.ext hj3 hw2) hn3 hw3 t5 hA5).mono (fun e w' ⟨v, hv, hp⟩ => ⟨v, hv, JL3, (Imm.le_trans (Imm.le_trans hj1 hj2) hj3), hp⟩)
     rintro w v w' hs ⟨I', hle, J, rfl, hg⟩
     refine RL.resume (X' := [orow 3 1 A4 t2.1.length c4 cs4, orow 3 1 A5 t2.2.1.length c5 cs5, orow 27 1 A6 t2.2.2.length c6 cs6, orow 3 1 (some ⟨nx5, 0, none⟩) ([1, 2].length) 2 [i6 1, i6 2], orow 3 1 (some ⟨nx5 + 1, 0, none⟩) ([5, 6].length) 2 [i6 5, i6 6], orow 2 1 (some ⟨nx5 + 2, 0, none⟩) ([4, 0].length) 2 [i6 4, i6 0]]) rfl (hs.call (hg.back hle)) ?_
     clear hs hg hle I' J
     generalize w'.heap.size = nx7
     clear w w'
     refine RL.s 2 [(74, .bool t5), (1, .slice (some ⟨nx0, 0, none⟩) 3 3), (2, pt nx1 0), (4, .slice A4 t2.1.length c4), (5, .slice A5 t2.2.1.length c5), (6, .slice A6 t2.2.2.length c6), (7, pt nx3 0), (8, i6 t3.2), (10, i6 t4.2)] ?_
     refine RL.cases t5 (fun hb => ?_) (fun hb => ?_)
     ·have hc := hb
      rw [hb]
      rw [if_pos hc] at H; clear hb
      refine RL.s 1 [(75, .slice A4 t2.1.length c4), (74, .bool true), (1, .slice (some ⟨nx0, 0, none⟩) 3 3), (2, pt nx1 0), (5, .slice A5 t2.2.1.length c5), (6, .slice A6 t2.2.2.length c6), (7, pt nx3 0), (8, i6 t3.2), (10, i6 t4.2)] ?_
      have hib0 : (0 : Int) ≤ 0 := by decide
      obtain ⟨hib1, H⟩ := ifs H
      have hx01_ := hib0; have hx11_ := hib1
      refine RL.ownAddr (e := 3) (sz := 1) (S := A4) (n := t2.1.length) (cap := c4) (cs := cs4) 0 (by kernel_rfl) (by omega) (fun g1_ hA1_ => ?_)
      have hc1_ := Ty.int_own (Reps.ext (Imm.le_trans (Imm.le_trans (Imm.le_trans (Imm.le_trans (Imm.le_trans (Imm.le_trans (Imm.le_trans (Imm.le_trans (Imm.le_trans hi7 hi8) hi9) hi10) hi11) hi12) hi13) hi14) hi15) hi16) hp4) 0 hib0 hib1
      refine RL.idx 1 .i64 0 hA1_ t2.1.length c4 (some 76) (by kernel_rfl) (by kernel_rfl) (T := 26) (e := 3) (by kernel_rfl) (by kernel_rfl) hib0 hib1 (K' := [(76, pt g1_ (0 + (0 : Int).toNat * 1)), (75, .slice A4 t2.1.length c4), (74, .bool true), (1, .slice (some ⟨nx0, 0, none⟩) 3 3), (2, pt nx1 0), (5, .slice A5 t2.2.1.length c5), (6, .slice A6 t2.2.2.length c6), (7, pt nx3 0), (8, i6 t3.2), (10, i6 t4.2)]) (by kernel_rfl) ?_
      refine RL.simK (K' := [(80, .bool ((t2.1.getD (0 : Int).toNat 0) == 1)), (1, .slice (some ⟨nx0, 0, none⟩) 3 3), (2, pt nx1 0), (5, .slice A5 t2.2.1.length c5), (6, .slice A6 t2.2.2.length c6), (7, pt nx3 0), (8, i6 t3.2), (10, i6 t4.2)]) [(⟨g1_, 0 + (0 : Int).toNat * 1, none⟩, i6 (t2.1.getD (0 : Int).toNat 0))] (RFacts.ownQ (e := 3) (sz := 1) (S := A4) (n := t2.1.length) (cap := c4) (cs := cs4) 0 (by kernel_rfl) hA1_ (0 + (0 : Int).toNat * 1) ((0 : Int).toNat * 1 + 0) (by omega) (hc1_ 0 _ rfl) (RFacts.nil _ _ _)) 4 [.r 0, .no, .no, .no] (by kernel_rfl) (by kernel_rfl) ?_
      refine RL.cases ((t2.1.getD (0 : Int).toNat 0) == 1) (fun hb => ?_) (fun hb => ?_)
      ·have hc := (beq_iff_eq.1 hb)
       rw [hb]
       rw [if_pos hc] at H; clear hb
       refine RL.s 1 [(81, .slice A5 t2.2.1.length c5), (80, .bool true), (1, .slice (some ⟨nx0, 0, none⟩) 3 3), (2, pt nx1 0), (6, .slice A6 t2.2.2.length c6), (7, pt nx3 0), (8, i6 t3.2), (10, i6 t4.2)] ?_
       have hib0 : (0 : Int) ≤ 1 := by decide
       obtain ⟨hib1, H⟩ := ifs H
       have hx02_ := hib0; have hx12_ := hib1
       refine RL.ownAddr (e := 3) (sz := 1) (S := A5) (n := t2.2.1.length) (cap := c5) (cs := cs5) 1 (by kernel_rfl) (by omega) (fun g2_ hA2_ => ?_)
       have hc2_ := Ty.int_own (Reps.ext (Imm.le_trans (Imm.le_trans (Imm.le_trans (Imm.le_trans (Imm.le_trans (Imm.le_trans (Imm.le_trans (Imm.le_trans (Imm.le_trans hi7 hi8) hi9) hi10) hi11) hi12) hi13) hi14) hi15) hi16) hp5) 1 hib0 hib1
       refine RL.idx 1 .i64 1 hA2_ t2.2.1.length c5 (some 82) (by kernel_rfl) (by kernel_rfl) (T := 26) (e := 3) (by kernel_rfl) (by kernel_rfl) hib0 hib1 (K' := [(82, pt g2_ (0 + (1 : Int).toNat * 1)), (81, .slice A5 t2.2.1.length c5), (80, .bool true), (1, .slice (some ⟨nx0, 0, none⟩) 3 3), (2, pt nx1 0), (6, .slice A6 t2.2.2.length c6), (7, pt nx3 0), (8, i6 t3.2), (10, i6 t4.2)]) (by kernel_rfl) ?_
       refine RL.simK (K' := [(86, .bool ((t2.2.1.getD (1 : Int).toNat 0) == 6)), (1, .slice (some ⟨nx0, 0, none⟩) 3 3), (2, pt nx1 0), (6, .slice A6 t2.2.2.length c6), (7, pt nx3 0), (8, i6 t3.2), (10, i6 t4.2)]) [(⟨g2_, 0 + (1 : Int).toNat * 1, none⟩, i6 (t2.2.1.getD (1 : Int).toNat 0))] (RFacts.ownQ (e := 3) (sz := 1) (S := A5) (n := t2.2.1.length) (cap := c5) (cs := cs5) 1 (by kernel_rfl) hA2_ (0 + (1 : Int).toNat * 1) ((1 : Int).toNat * 1 + 0) (by omega) (hc2_ 0 _ rfl) (RFacts.nil _ _ _)) 4 [.r 0, .no, .no, .no] (by kernel_rfl) (by kernel_rfl) ?_
       refine RL.cases ((t2.2.1.getD (1 : Int).toNat 0) == 6) (fun hb => ?_) (fun hb => ?_)
       ·have hc := (beq_iff_eq.1 hb)
        rw [hb]
        rw [if_pos hc] at H; clear hb
        refine RL.s 1 [(87, .slice A6 t2.2.2.length c6), (86, .bool true), (1, .slice (some ⟨nx0, 0, none⟩) 3 3), (2, pt nx1 0), (6, .slice A6 t2.2.2.length c6), (7, pt nx3 0), (8, i6 t3.2), (10, i6 t4.2)] ?_
        have hib0 : (0 : Int) ≤ 0 := by decide
        obtain ⟨hib1, H⟩ := ifs H
        have hx03_ := hib0; have hx13_ := hib1
        refine RL.ownAddr (e := 27) (sz := 1) (S := A6) (n := t2.2.2.length) (cap := c6) (cs := cs6) 2 (by kernel_rfl) (by omega) (fun g3_ hA3_ => ?_)
        obtain ⟨A3_, c3_, hl3_, hr3_, hc3_⟩ := Ty.slice_own (Reps.ext (Imm.le_trans (Imm.le_trans (Imm.le_trans (Imm.le_trans (Imm.le_trans (Imm.le_trans (Imm.le_trans (Imm.le_trans (Imm.le_trans hi7 hi8) hi9) hi10) hi11) hi12) hi13) hi14) hi15) hi16) hp6) 0 hib0 hib1
        refine RL.idx 1 .i64 0 hA3_ t2.2.2.length c6 (some 88) (by kernel_rfl) (by kernel_rfl) (T := 33) (e := 27) (by kernel_rfl) (by kernel_rfl) hib0 hib1 (K' := [(88, pt g3_ (0 + (0 : Int).toNat * 1)), (87, .slice A6 t2.2.2.length c6), (86, .bool true), (1, .slice (some ⟨nx0, 0, none⟩) 3 3), (2, pt nx1 0), (6, .slice A6 t2.2.2.length c6), (7, pt nx3 0), (8, i6 t3.2), (10, i6 t4.2)]) (by kernel_rfl) ?_
        refine RL.simK (K' := [(89, .slice A3_ ((t2.2.2.getD (0 : Int).toNat []).length) c3_), (86, .bool true), (1, .slice (some ⟨nx0, 0, none⟩) 3 3), (2, pt nx1 0), (6, .slice A6 t2.2.2.length c6), (7, pt nx3 0), (8, i6 t3.2), (10, i6 t4.2)]) [(⟨g3_, 0 + (0 : Int).toNat * 1, none⟩, .slice A3_ ((t2.2.2.getD (0 : Int).toNat []).length) c3_)] (RFacts.ownQ (e := 27) (sz := 1) (S := A6) (n := t2.2.2.length) (cap := c6) (cs := cs6) 2 (by kernel_rfl) hA3_ (0 + (0 : Int).toNat * 1) ((0 : Int).toNat * 1 + 0) (by omega) (hc3_ 0 _ rfl) (RFacts.nil _ _ _)) 1 [.r 0] (by kernel_rfl) (by kernel_rfl) ?_
        have hib0 : (0 : Int) ≤ 0 := by decide
        obtain ⟨hib1, H⟩ := ifs H
        obtain ⟨g4_, o4_, hA4_, hc4_⟩ := Ty.int_at hr3_ 0 hib0 hib1
        refine RL.idx 1 .i64 0 hA4_ ((t2.2.2.getD (0 : Int).toNat []).length) c3_ (some 90) (by kernel_rfl) (by kernel_rfl) (T := 27) (e := 2) (by kernel_rfl) (by kernel_rfl) hib0 hib1 (K' := [(90, pt g4_ (o4_ + (0 : Int).toNat * 1)), (89, .slice A3_ ((t2.2.2.getD (0 : Int).toNat []).length) c3_), (86, .bool true), (1, .slice (some ⟨nx0, 0, none⟩) 3 3), (2, pt nx1 0), (6, .slice A6 t2.2.2.length c6), (7, pt nx3 0), (8, i6 t3.2), (10, i6 t4.2)]) (by kernel_rfl) ?_
        refine RL.simK (K' := [(94, .bool (((t2.2.2.getD (0 : Int).toNat []).getD (0 : Int).toNat 0) == 10)), (1, .slice (some ⟨nx0, 0, none⟩) 3 3), (2, pt nx1 0), (6, .slice A6 t2.2.2.length c6), (7, pt nx3 0), (8, i6 t3.2), (10, i6 t4.2)]) [(⟨g4_, o4_ + (0 : Int).toNat * 1, none⟩, i6 ((t2.2.2.getD (0 : Int).toNat []).getD (0 : Int).toNat 0))] (RFacts.imm (hc4_ 0 _ rfl) (RFacts.nil _ _ _)) 4 [.r 0, .no, .no, .no] (by kernel_rfl) (by kernel_rfl) ?_
        refine RL.cases (((t2.2.2.getD (0 : Int).toNat []).getD (0 : Int).toNat 0) == 10) (fun hb => ?_) (fun hb => ?_)
        ·have hc := (beq_iff_eq.1 hb)
         rw [hb]
         rw [if_pos hc] at H; clear hb
         refine RL.s 1 [(95, .slice A6 t2.2.2.length c6), (94, .bool true), (1, .slice (some ⟨nx0, 0, none⟩) 3 3), (2, pt nx1 0), (6, .slice A6 t2.2.2.length c6), (7, pt nx3 0), (8, i6 t3.2), (10, i6 t4.2)] ?_
         have hib0 : (0 : Int) ≤ 0 := by decide
         obtain ⟨hib1, H⟩ := ifs H
         have hx05_ := hib0; have hx15_ := hib1
         refine RL.ownAddr (e := 27) (sz := 1) (S := A6) (n := t2.2.2.length) (cap := c6) (cs := cs6) 2 (by kernel_rfl) (by omega) (fun g5_ hA5_ => ?_)
         obtain ⟨A5_, c5_, hl5_, hr5_, hc5_⟩ := Ty.slice_own (Reps.ext (Imm.le_trans (Imm.le_trans (Imm.le_trans (Imm.le_trans (Imm.le_trans (Imm.le_trans (Imm.le_trans (Imm.le_trans (Imm.le_trans hi7 hi8) hi9) hi10) hi11) hi12) hi13) hi14) hi15) hi16) hp6) 0 hib0 hib1
         refine RL.idx 1 .i64 0 hA5_ t2.2.2.length c6 (some 96) (by kernel_rfl) (by kernel_rfl) (T := 33) (e := 27) (by kernel_rfl) (by kernel_rfl) hib0 hib1 (K' := [(96, pt g5_ (0 + (0 : Int).toNat * 1)), (95, .slice A6 t2.2.2.length c6), (94, .bool true), (1, .slice (some ⟨nx0, 0, none⟩) 3 3), (2, pt nx1 0), (6, .slice A6 t2.2.2.length c6), (7, pt nx3 0), (8, i6 t3.2), (10, i6 t4.2)]) (by kernel_rfl) ?_
         refine RL.simK (K' := [(97, .slice A5_ ((t2.2.2.getD (0 : Int).toNat []).length) c5_), (94, .bool true), (1, .slice (some ⟨nx0, 0, none⟩) 3 3), (2, pt nx1 0), (6, .slice A6 t2.2.2.length c6), (7, pt nx3 0), (8, i6 t3.2), (10, i6 t4.2)]) [(⟨g5_, 0 + (0 : Int).toNat * 1, none⟩, .slice A5_ ((t2.2.2.getD (0 : Int).toNat []).length) c5_)] (RFacts.ownQ (e := 27) (sz := 1) (S := A6) (n := t2.2.2.length) (cap := c6) (cs := cs6) 2 (by kernel_rfl) hA5_ (0 + (0 : Int).toNat * 1) ((0 : Int).toNat * 1 + 0) (by omega) (hc5_ 0 _ rfl) (RFacts.nil _ _ _)) 1 [.r 0] (by kernel_rfl) (by kernel_rfl) ?_
         have hib0 : (0 : Int) ≤ 1 := by decide
         obtain ⟨hib1, H⟩ := ifs H
         obtain ⟨g6_, o6_, hA6_, hc6_⟩ := Ty.int_at hr5_ 1 hib0 hib1
         refine RL.idx 1 .i64 1 hA6_ ((t2.2.2.getD (0 : Int).toNat []).length) c5_ (some 98) (by kernel_rfl) (by kernel_rfl) (T := 27) (e := 2) (by kernel_rfl) (by kernel_rfl) hib0 hib1 (K' := [(98, pt g6_ (o6_ + (1 : Int).toNat * 1)), (97, .slice A5_ ((t2.2.2.getD (0 : Int).toNat []).length) c5_), (94, .bool true), (1, .slice (some ⟨nx0, 0, none⟩) 3 3), (2, pt nx1 0), (6, .slice A6 t2.2.2.length c6), (7, pt nx3 0), (8, i6 t3.2), (10, i6 t4.2)]) (by kernel_rfl) ?_
         refine RL.simK (K' := [(102, .bool (((t2.2.2.getD (0 : Int).toNat []).getD (1 : Int).toNat 0) == 0)), (1, .slice (some ⟨nx0, 0, none⟩) 3 3), (2, pt nx1 0), (6, .slice A6 t2.2.2.length c6), (7, pt nx3 0), (8, i6 t3.2), (10, i6 t4.2)]) [(⟨g6_, o6_ + (1 : Int).toNat * 1, none⟩, i6 ((t2.2.2.getD (0 : Int).toNat []).getD (1 : Int).toNat 0))] (RFacts.imm (hc6_ 0 _ rfl) (RFacts.nil _ _ _)) 4 [.r 0, .no, .no, .no] (by kernel_rfl) (by kernel_rfl) ?_
         refine RL.cases (((t2.2.2.getD (0 : Int).toNat []).getD (1 : Int).toNat 0) == 0) (fun hb => ?_) (fun hb => ?_)
         ·have hc := (beq_iff_eq.1 hb)
          rw [hb]
          rw [if_pos hc] at H; clear hb
          refine RL.s 1 [(103, .slice A6 t2.2.2.length c6), (102, .bool true), (1, .slice (some ⟨nx0, 0, none⟩) 3 3), (2, pt nx1 0), (6, .slice A6 t2.2.2.length c6), (7, pt nx3 0), (8, i6 t3.2), (10, i6 t4.2)] ?_
          have hib0 : (0 : Int) ≤ 1 := by decide
          obtain ⟨hib1, H⟩ := ifs H
          have hx07_ := hib0; have hx17_ := hib1
          refine RL.ownAddr (e := 27) (sz := 1) (S := A6) (n := t2.2.2.length) (cap := c6) (cs := cs6) 2 (by kernel_rfl) (by omega) (fun g7_ hA7_ => ?_)
          obtain ⟨A7_, c7_, hl7_, hr7_, hc7_⟩ := Ty.slice_own (Reps.ext (Imm.le_trans (Imm.le_trans (Imm.le_trans (Imm.le_trans (Imm.le_trans (Imm.le_trans (Imm.le_trans (Imm.le_trans (Imm.le_trans hi7 hi8) hi9) hi10) hi11) hi12) hi13) hi14) hi15) hi16) hp6) 1 hib0 hib1
          refine RL.idx 1 .i64 1 hA7_ t2.2.2.length c6 (some 104) (by kernel_rfl) (by kernel_rfl) (T := 33) (e := 27) (by kernel_rfl) (by kernel_rfl) hib0 hib1 (K' := [(104, pt g7_ (0 + (1 : Int).toNat * 1)), (103, .slice A6 t2.2.2.length c6), (102, .bool true), (1, .slice (some ⟨nx0, 0, none⟩) 3 3), (2, pt nx1 0), (6, .slice A6 t2.2.2.length c6), (7, pt nx3 0), (8, i6 t3.2), (10, i6 t4.2)]) (by kernel_rfl) ?_
          refine RL.simK (K' := [(105, .slice A7_ ((t2.2.2.getD (1 : Int).toNat []).length) c7_), (102, .bool true), (1, .slice (some ⟨nx0, 0, none⟩) 3 3), (2, pt nx1 0), (6, .slice A6 t2.2.2.length c6), (7, pt nx3 0), (8, i6 t3.2), (10, i6 t4.2)]) [(⟨g7_, 0 + (1 : Int).toNat * 1, none⟩, .slice A7_ ((t2.2.2.getD (1 : Int).toNat []).length) c7_)] (RFacts.ownQ (e := 27) (sz := 1) (S := A6) (n := t2.2.2.length) (cap := c6) (cs := cs6) 2 (by kernel_rfl) hA7_ (0 + (1 : Int).toNat * 1) ((1 : Int).toNat * 1 + 0) (by omega) (hc7_ 0 _ rfl) (RFacts.nil _ _ _)) 1 [.r 0] (by kernel_rfl) (by kernel_rfl) ?_
          have hib0 : (0 : Int) ≤ 0 := by decide
          obtain ⟨hib1, H⟩ := ifs H
          obtain ⟨g8_, o8_, hA8_, hc8_⟩ := Ty.int_at hr7_ 0 hib0 hib1
          refine RL.idx 1 .i64 0 hA8_ ((t2.2.2.getD (1 : Int).toNat []).length) c7_ (some 106) (by kernel_rfl) (by kernel_rfl) (T := 27) (e := 2) (by kernel_rfl) (by kernel_rfl) hib0 hib1 (K' := [(106, pt g8_ (o8_ + (0 : Int).toNat * 1)), (105, .slice A7_ ((t2.2.2.getD (1 : Int).toNat []).length) c7_), (102, .bool true), (1, .slice (some ⟨nx0, 0, none⟩) 3 3), (2, pt nx1 0), (6, .slice A6 t2.2.2.length c6), (7, pt nx3 0), (8, i6 t3.2), (10, i6 t4.2)]) (by kernel_rfl) ?_
          refine RL.simK (K' := [(110, .bool (((t2.2.2.getD (1 : Int).toNat []).getD (0 : Int).toNat 0) == 7)), (1, .slice (some ⟨nx0, 0, none⟩) 3 3), (2, pt nx1 0), (6, .slice A6 t2.2.2.length c6), (7, pt nx3 0), (8, i6 t3.2), (10, i6 t4.2)]) [(⟨g8_, o8_ + (0 : Int).toNat * 1, none⟩, i6 ((t2.2.2.getD (1 : Int).toNat []).getD (0 : Int).toNat 0))] (RFacts.imm (hc8_ 0 _ rfl) (RFacts.nil _ _ _)) 4 [.r 0, .no, .no, .no] (by kernel_rfl) (by kernel_rfl) ?_
          refine RL.cases (((t2.2.2.getD (1 : Int).toNat []).getD (0 : Int).toNat 0) == 7) (fun hb => ?_) (fun hb => ?_)
          ·have hc := (beq_iff_eq.1 hb)
           rw [hb]
           rw [if_pos hc] at H; clear hb
           refine RL.s 1 [(111, .slice A6 t2.2.2.length c6), (110, .bool true), (1, .slice (some ⟨nx0, 0, none⟩) 3 3), (2, pt nx1 0), (7, pt nx3 0), (8, i6 t3.2), (10, i6 t4.2)] ?_
           have hib0 : (0 : Int) ≤ 1 := by decide
           obtain ⟨hib1, H⟩ := ifs H
           have hx09_ := hib0; have hx19_ := hib1
           refine RL.ownAddr (e := 27) (sz := 1) (S := A6) (n := t2.2.2.length) (cap := c6) (cs := cs6) 2 (by kernel_rfl) (by omega) (fun g9_ hA9_ => ?_)
           obtain ⟨A9_, c9_, hl9_, hr9_, hc9_⟩ := Ty.slice_own (Reps.ext (Imm.le_trans (Imm.le_trans (Imm.le_trans (Imm.le_trans (Imm.le_trans (Imm.le_trans (Imm.le_trans (Imm.le_trans (Imm.le_trans hi7 hi8) hi9) hi10) hi11) hi12) hi13) hi14) hi15) hi16) hp6) 1 hib0 hib1
           refine RL.idx 1 .i64 1 hA9_ t2.2.2.length c6 (some 112) (by kernel_rfl) (by kernel_rfl) (T := 33) (e := 27) (by kernel_rfl) (by kernel_rfl) hib0 hib1 (K' := [(112, pt g9_ (0 + (1 : Int).toNat * 1)), (111, .slice A6 t2.2.2.length c6), (110, .bool true), (1, .slice (some ⟨nx0, 0, none⟩) 3 3), (2, pt nx1 0), (7, pt nx3 0), (8, i6 t3.2), (10, i6 t4.2)]) (by kernel_rfl) ?_
           refine RL.simK (K' := [(113, .slice A9_ ((t2.2.2.getD (1 : Int).toNat []).length) c9_), (110, .bool true), (1, .slice (some ⟨nx0, 0, none⟩) 3 3), (2, pt nx1 0), (7, pt nx3 0), (8, i6 t3.2), (10, i6 t4.2)]) [(⟨g9_, 0 + (1 : Int).toNat * 1, none⟩, .slice A9_ ((t2.2.2.getD (1 : Int).toNat []).length) c9_)] (RFacts.ownQ (e := 27) (sz := 1) (S := A6) (n := t2.2.2.length) (cap := c6) (cs := cs6) 2 (by kernel_rfl) hA9_ (0 + (1 : Int).toNat * 1) ((1 : Int).toNat * 1 + 0) (by omega) (hc9_ 0 _ rfl) (RFacts.nil _ _ _)) 1 [.r 0] (by kernel_rfl) (by kernel_rfl) ?_
           have hib0 : (0 : Int) ≤ 1 := by decide
           obtain ⟨hib1, H⟩ := ifs H
           obtain ⟨g10_, o10_, hA10_, hc10_⟩ := Ty.int_at hr9_ 1 hib0 hib1
           refine RL.idx 1 .i64 1 hA10_ ((t2.2.2.getD (1 : Int).toNat []).length) c9_ (some 114) (by kernel_rfl) (by kernel_rfl) (T := 27) (e := 2) (by kernel_rfl) (by kernel_rfl) hib0 hib1 (K' := [(114, pt g10_ (o10_ + (1 : Int).toNat * 1)), (113, .slice A9_ ((t2.2.2.getD (1 : Int).toNat []).length) c9_), (110, .bool true), (1, .slice (some ⟨nx0, 0, none⟩) 3 3), (2, pt nx1 0), (7, pt nx3 0), (8, i6 t3.2), (10, i6 t4.2)]) (by kernel_rfl) ?_
           refine RL.simK (K' := [(118, .bool (((t2.2.2.getD (1 : Int).toNat []).getD (1 : Int).toNat 0) == 3)), (1, .slice (some ⟨nx0, 0, none⟩) 3 3), (2, pt nx1 0), (7, pt nx3 0), (8, i6 t3.2), (10, i6 t4.2)]) [(⟨g10_, o10_ + (1 : Int).toNat * 1, none⟩, i6 ((t2.2.2.getD (1 : Int).toNat []).getD (1 : Int).toNat 0))] (RFacts.imm (hc10_ 0 _ rfl) (RFacts.nil _ _ _)) 4 [.r 0, .no, .no, .no] (by kernel_rfl) (by kernel_rfl) ?_
           refine RL.cases (((t2.2.2.getD (1 : Int).toNat []).getD (1 : Int).toNat 0) == 3) (fun hb => ?_) (fun hb => ?_)
           ·have hc := (beq_iff_eq.1 hb)
            rw [hb]
            rw [if_pos hc] at H; clear hb
            refine RL.s 4 [(122, .bool (t3.2 == 0)), (1, .slice (some ⟨nx0, 0, none⟩) 3 3), (2, pt nx1 0), (7, pt nx3 0), (10, i6 t4.2)] ?_
            refine RL.cases (t3.2 == 0) (fun hb => ?_) (fun hb => ?_)
            ·have hc := (beq_iff_eq.1 hb)
             rw [hb]
             rw [if_pos hc] at H; clear hb
             refine RL.simK (K' := [(128, .bool ((t3.1.f0.length : Int) == 0)), (1, .slice (some ⟨nx0, 0, none⟩) 3 3), (2, pt nx1 0), (10, i6 t4.2)]) [] (RFacts.nil _ _ _) 6 [.no, .l 1, .no, .no, .no, .no] (by kernel_rfl) (by kernel_rfl) ?_
             refine RL.cases ((t3.1.f0.length : Int) == 0) (fun hb => ?_) (fun hb => ?_)
             ·have hc := (beq_iff_eq.1 hb)
              rw [hb]
              rw [if_pos hc] at H; clear hb
              refine RL.s 4 [(132, .bool (t4.2 == 1)), (1, .slice (some ⟨nx0, 0, none⟩) 3 3), (2, pt nx1 0)] ?_
              refine RL.cases (t4.2 == 1) (fun hb => ?_) (fun hb => ?_)
              ·have hc := (beq_iff_eq.1 hb)
               rw [hb]
               rw [if_pos hc] at H; clear hb
               refine RL.simK (K' := [(134, .agg #[.slice A1 t1.1.f0.length c1, .slice A2 t1.1.f1.length c2, .slice A3 t1.1.f2.length c3]), (133, .slice (some ⟨nx0, 0, none⟩) 3 3), (132, .bool true), (1, .slice (some ⟨nx0, 0, none⟩) 3 3), (2, pt nx1 0)]) [] (RFacts.nil _ _ _) 2 [.no, .l 0] (by kernel_rfl) (by kernel_rfl) ?_
               obtain ⟨t6, hA6, H⟩ := bnd H
               refine RL.callP 21 [.slice (some ⟨nx0, 0, none⟩) 3 3, .agg #[.slice A1 t1.1.f0.length c1, .slice A2 t1.1.f1.length c2, .slice A3 t1.1.f2.length c3], i6 1] (some 135) (fun w => auction_Utility.Post I16 w t6) (by kernel_rfl) (by kernel_rfl) (fun w hs => auction_Utility.calls k I16 [(⟨2, 6, 3⟩ : S48), (⟨1, 5, 10⟩ : S48), (⟨2, 5, 7⟩ : S48)] (some ⟨nx0, 0, none⟩) 3 t1.1 A1 c1 A2 c2 A3 c3 1 w hs.im (Nat.le_of_ble_eq_true rfl) (Rd.ext (Imm.le_trans (Imm.le_trans (Imm.le_trans (Imm.le_trans (Imm.le_trans (Imm.le_trans (Imm.le_trans (Imm.le_trans (Imm.le_trans (Imm.le_trans (Imm.le_trans (Imm.le_trans (Imm.le_trans (Imm.le_trans hi2 hi3) hi4) hi5) hi6) hi7) hi8) hi9) hi10) hi11) hi12) hi13) hi14) hi15) hi16) hr1) hl1 (Rd.ext (Imm.le_trans (Imm.le_trans (Imm.le_trans (Imm.le_trans (Imm.le_trans (Imm.le_trans (Imm.le_trans (Imm.le_trans (Imm.le_trans (Imm.le_trans (Imm.le_trans (Imm.le_trans hi4 hi5) hi6) hi7) hi8) hi9) hi10) hi11) hi12) hi13) hi14) hi15) hi16) hr2) hl2 (Rd.ext (Imm.le_trans (Imm.le_trans (Imm.le_trans (Imm.le_trans (Imm.le_trans (Imm.le_trans (Imm.le_trans (Imm.le_trans (Imm.le_trans (Imm.le_trans (Imm.le_trans hi5 hi6) hi7) hi8) hi9) hi10) hi11) hi12) hi13) hi14) hi15) hi16) hr3) hl3 (Rd.ext (Imm.le_trans (Imm.le_trans (Imm.le_trans (Imm.le_trans (Imm.le_trans (Imm.le_trans (Imm.le_trans (Imm.le_trans (Imm.le_trans (Imm.le_trans hi6 hi7) hi8) hi9) hi10) hi11) hi12) hi13) hi14) hi15) hi16) hr4) t6 hA6) ?_
               rintro w v w' hs ⟨I18, rfl, hg⟩
               have hi18 := hg.le
               refine RL.resume (X' := [orow 3 1 A4 t2.1.length c4 cs4, orow 3 1 A5 t2.2.1.length c5 cs5, orow 27 1 A6 t2.2.2.length c6 cs6, orow 3 1 (some ⟨nx5, 0, none⟩) ([1, 2].length) 2 [i6 1, i6 2], orow 3 1 (some ⟨nx5 + 1, 0, none⟩) ([5, 6].length) 2 [i6 5, i6 6], orow 2 1 (some ⟨nx5 + 2, 0, none⟩) ([4, 0].length) 2 [i6 4, i6 0]]) rfl (hs.call hg) ?_
               clear hs hg
               generalize w'.heap.size = nx8
               clear w w'
               refine RL.s 3 [(138, .bool (t6 == 6)), (1, .slice (some ⟨nx0, 0, none⟩) 3 3), (2, pt nx1 0)] ?_
               refine RL.cases (t6 == 6) (fun hb => ?_) (fun hb => ?_)
               ·have hc := (beq_iff_eq.1 hb)
                rw [hb]
                rw [if_pos hc] at H; clear hb
                refine RL.simK (K' := [(140, .agg #[.slice A1 t1.1.f0.length c1, .slice A2 t1.1.f1.length c2, .slice A3 t1.1.f2.length c3]), (139, .slice (some ⟨nx0, 0, none⟩) 3 3), (138, .bool true), (1, .slice (some ⟨nx0, 0, none⟩) 3 3), (2, pt nx1 0)]) [] (RFacts.nil _ _ _) 2 [.no, .l 0] (by kernel_rfl) (by kernel_rfl) ?_
                obtain ⟨t7, hA7, H⟩ := bnd H
                refine RL.callP 21 [.slice (some ⟨nx0, 0, none⟩) 3 3, .agg #[.slice A1 t1.1.f0.length c1, .slice A2 t1.1.f1.length c2, .slice A3 t1.1.f2.length c3], i6 2] (some 141) (fun w => auction_Utility.Post I18 w t7) (by kernel_rfl) (by kernel_rfl) (fun w hs => auction_Utility.calls k I18 [(⟨2, 6, 3⟩ : S48), (⟨1, 5, 10⟩ : S48), (⟨2, 5, 7⟩ : S48)] (some ⟨nx0, 0, none⟩) 3 t1.1 A1 c1 A2 c2 A3 c3 2 w hs.im (Nat.le_of_ble_eq_true rfl) (Rd.ext (Imm.le_trans (Imm.le_trans (Imm.le_trans (Imm.le_trans (Imm.le_trans (Imm.le_trans (Imm.le_trans (Imm.le_trans (Imm.le_trans (Imm.le_trans (Imm.le_trans (Imm.le_trans (Imm.le_trans (Imm.le_trans (Imm.le_trans hi2 hi3) hi4) hi5) hi6) hi7) hi8) hi9) hi10) hi11) hi12) hi13) hi14) hi15) hi16) hi18) hr1) hl1 (Rd.ext (Imm.le_trans (Imm.le_trans (Imm.le_trans (Imm.le_trans (Imm.le_trans (Imm.le_trans (Imm.le_trans (Imm.le_trans (Imm.le_trans (Imm.le_trans (Imm.le_trans (Imm.le_trans (Imm.le_trans hi4 hi5) hi6) hi7) hi8) hi9) hi10) hi11) hi12) hi13) hi14) hi15) hi16) hi18) hr2) hl2 (Rd.ext (Imm.le_trans (Imm.le_trans (Imm.le_trans (Imm.le_trans (Imm.le_trans (Imm.le_trans (Imm.le_trans (Imm.le_trans (Imm.le_trans (Imm.le_trans (Imm.le_trans (Imm.le_trans hi5 hi6) hi7) hi8) hi9) hi10) hi11) hi12) hi13) hi14) hi15) hi16) hi18) hr3) hl3 (Rd.ext (Imm.le_trans (Imm.le_trans (Imm.le_trans (Imm.le_trans (Imm.le_trans (Imm.le_trans (Imm.le_trans (Imm.le_trans (Imm.le_trans (Imm.le_trans (Imm.le_trans hi6 hi7) hi8) hi9) hi10) hi11) hi12) hi13) hi14) hi15) hi16) hi18) hr4) t7 hA7) ?_
                rintro w v w' hs ⟨I19, rfl, hg⟩
                have hi19 := hg.le
                refine RL.resume (X' := [orow 3 1 A4 t2.1.length c4 cs4, orow 3 1 A5 t2.2.1.length c5 cs5, orow 27 1 A6 t2.2.2.length c6 cs6, orow 3 1 (some ⟨nx5, 0, none⟩) ([1, 2].length) 2 [i6 1, i6 2], orow 3 1 (some ⟨nx5 + 1, 0, none⟩) ([5, 6].length) 2 [i6 5, i6 6], orow 2 1 (some ⟨nx5 + 2, 0, none⟩) ([4, 0].length) 2 [i6 4, i6 0]]) rfl (hs.call hg) ?_
                clear hs hg
                generalize w'.heap.size = nx9
                clear w w'
                refine RL.s 3 [(144, .bool (t7 == 3)), (1, .slice (some ⟨nx0, 0, none⟩) 3 3), (2, pt nx1 0)] ?_
                refine RL.cases (t7 == 3) (fun hb => ?_) (fun hb => ?_)
                ·have hc := (beq_iff_eq.1 hb)
                 rw [hb]
                 rw [if_pos hc] at H; clear hb
                 refine RL.simK (K' := [(146, .agg #[.slice A1 t1.1.f0.length c1, .slice A2 t1.1.f1.length c2, .slice A3 t1.1.f2.length c3]), (145, .slice (some ⟨nx0, 0, none⟩) 3 3), (144, .bool true), (1, .slice (some ⟨nx0, 0, none⟩) 3 3), (2, pt nx1 0)]) [] (RFacts.nil _ _ _) 2 [.no, .l 0] (by kernel_rfl) (by kernel_rfl) ?_
                 obtain ⟨t8, hA8, H⟩ := bnd H
                 refine RL.callP 21 [.slice (some ⟨nx0, 0, none⟩) 3 3, .agg #[.slice A1 t1.1.f0.length c1, .slice A2 t1.1.f1.length c2, .slice A3 t1.1.f2.length c3], i6 9] (some 147) (fun w => auction_Utility.Post I19 w t8) (by kernel_rfl) (by kernel_rfl) (fun w hs => auction_Utility.calls k I19 [(⟨2, 6, 3⟩ : S48), (⟨1, 5, 10⟩ : S48), (⟨2, 5, 7⟩ : S48)] (some ⟨nx0, 0, none⟩) 3 t1.1 A1 c1 A2 c2 A3 c3 9 w hs.im (Nat.le_of_ble_eq_true rfl) (Rd.ext (Imm.le_trans (Imm.le_trans (Imm.le_trans (Imm.le_trans (Imm.le_trans (Imm.le_trans (Imm.le_trans (Imm.le_trans (Imm.le_trans (Imm.le_trans (Imm.le_trans (Imm.le_trans (Imm.le_trans (Imm.le_trans (Imm.le_trans (Imm.le_trans hi2 hi3) hi4) hi5) hi6) hi7) hi8) hi9) hi10) hi11) hi12) hi13) hi14) hi15) hi16) hi18) hi19) hr1) hl1 (Rd.ext (Imm.le_trans (Imm.le_trans (Imm.le_trans (Imm.le_trans (Imm.le_trans (Imm.le_trans (Imm.le_trans (Imm.le_trans (Imm.le_trans (Imm.le_trans (Imm.le_trans (Imm.le_trans (Imm.le_trans (Imm.le_trans hi4 hi5) hi6) hi7) hi8) hi9) hi10) hi11) hi12) hi13) hi14) hi15) hi16) hi18) hi19) hr2) hl2 (Rd.ext (Imm.le_trans (Imm.le_trans (Imm.le_trans (Imm.le_trans (Imm.le_trans (Imm.le_trans (Imm.le_trans (Imm.le_trans (Imm.le_trans (Imm.le_trans (Imm.le_trans (Imm.le_trans (Imm.le_trans hi5 hi6) hi7) hi8) hi9) hi10) hi11) hi12) hi13) hi14) hi15) hi16) hi18) hi19) hr3) hl3 (Rd.ext (Imm.le_trans (Imm.le_trans (Imm.le_trans (Imm.le_trans (Imm.le_trans (Imm.le_trans (Imm.le_trans (Imm.le_trans (Imm.le_trans (Imm.le_trans (Imm.le_trans (Imm.le_trans hi6 hi7) hi8) hi9) hi10) hi11) hi12) hi13) hi14) hi15) hi16) hi18) hi19) hr4) t8 hA8) ?_
                 rintro w v w' hs ⟨I20, rfl, hg⟩
                 have hi20 := hg.le
                 refine RL.resume (X' := [orow 3 1 A4 t2.1.length c4 cs4, orow 3 1 A5 t2.2.1.length c5 cs5, orow 27 1 A6 t2.2.2.length c6 cs6, orow 3 1 (some ⟨nx5, 0, none⟩) ([1, 2].length) 2 [i6 1, i6 2], orow 3 1 (some ⟨nx5 + 1, 0, none⟩) ([5, 6].length) 2 [i6 5, i6 6], orow 2 1 (some ⟨nx5 + 2, 0, none⟩) ([4, 0].length) 2 [i6 4, i6 0]]) rfl (hs.call hg) ?_
                 clear hs hg
                 generalize w'.heap.size = nx10
                 clear w w'
                 refine RL.s 3 [(150, .bool (t8 == 0)), (1, .slice (some ⟨nx0, 0, none⟩) 3 3), (2, pt nx1 0)] ?_
                 refine RL.cases (t8 == 0) (fun hb => ?_) (fun hb => ?_)
                 ·have hc := (beq_iff_eq.1 hb)
                  rw [hb]
                  rw [if_pos hc] at H; clear hb
                  refine RL.simK (K' := [(152, .agg #[.slice A1 t1.1.f0.length c1, .slice A2 t1.1.f1.length c2, .slice A3 t1.1.f2.length c3]), (151, .slice (some ⟨nx0, 0, none⟩) 3 3), (150, .bool true), (1, .slice (some ⟨nx0, 0, none⟩) 3 3)]) [] (RFacts.nil _ _ _) 2 [.no, .l 0] (by kernel_rfl) (by kernel_rfl) ?_
                  obtain ⟨t9, hA9, H⟩ := bnd H
                  refine RL.callP 23 [.slice (some ⟨nx0, 0, none⟩) 3 3, .agg #[.slice A1 t1.1.f0.length c1, .slice A2 t1.1.f1.length c2, .slice A3 t1.1.f2.length c3]] (some 153) (fun w => auction_Welfare.Post I20 w t9) (by kernel_rfl) (by kernel_rfl) (fun w hs => auction_Welfare.calls k I20 [(⟨2, 6, 3⟩ : S48), (⟨1, 5, 10⟩ : S48), (⟨2, 5, 7⟩ : S48)] (some ⟨nx0, 0, none⟩) 3 t1.1 A1 c1 A2 c2 A3 c3 w hs.im (Nat.le_of_ble_eq_true rfl) (Rd.ext (Imm.le_trans (Imm.le_trans (Imm.le_trans (Imm.le_trans (Imm.le_trans (Imm.le_trans (Imm.le_trans (Imm.le_trans (Imm.le_trans (Imm.le_trans (Imm.le_trans (Imm.le_trans (Imm.le_trans (Imm.le_trans (Imm.le_trans (Imm.le_trans (Imm.le_trans hi2 hi3) hi4) hi5) hi6) hi7) hi8) hi9) hi10) hi11) hi12) hi13) hi14) hi15) hi16) hi18) hi19) hi20) hr1) hl1 (Rd.ext (Imm.le_trans (Imm.le_trans (Imm.le_trans (Imm.le_trans (Imm.le_trans (Imm.le_trans (Imm.le_trans (Imm.le_trans (Imm.le_trans (Imm.le_trans (Imm.le_trans (Imm.le_trans (Imm.le_trans (Imm.le_trans (Imm.le_trans hi4 hi5) hi6) hi7) hi8) hi9) hi10) hi11) hi12) hi13) hi14) hi15) hi16) hi18) hi19) hi20) hr2) hl2 (Rd.ext (Imm.le_trans (Imm.le_trans (Imm.le_trans (Imm.le_trans (Imm.le_trans (Imm.le_trans (Imm.le_trans (Imm.le_trans (Imm.le_trans (Imm.le_trans (Imm.le_trans (Imm.le_trans (Imm.le_trans (Imm.le_trans hi5 hi6) hi7) hi8) hi9) hi10) hi11) hi12) hi13) hi14) hi15) hi16) hi18) hi19) hi20) hr3) hl3 (Rd.ext (Imm.le_trans (Imm.le_trans (Imm.le_trans (Imm.le_trans (Imm.le_trans (Imm.le_trans (Imm.le_trans (Imm.le_trans (Imm.le_trans (Imm.le_trans (Imm.le_trans (Imm.le_trans (Imm.le_trans hi6 hi7) hi8) hi9) hi10) hi11) hi12) hi13) hi14) hi15) hi16) hi18) hi19) hi20) hr4) t9 hA9) ?_
                  rintro w v w' hs ⟨I21, rfl, hg⟩
                  have hi21 := hg.le
                  refine RL.resume (X' := [orow 3 1 A4 t2.1.length c4 cs4, orow 3 1 A5 t2.2.1.length c5 cs5, orow 27 1 A6 t2.2.2.length c6 cs6, orow 3 1 (some ⟨nx5, 0, none⟩) ([1, 2].length) 2 [i6 1, i6 2], orow 3 1 (some ⟨nx5 + 1, 0, none⟩) ([5, 6].length) 2 [i6 5, i6 6], orow 2 1 (some ⟨nx5 + 2, 0, none⟩) ([4, 0].length) 2 [i6 4, i6 0]]) rfl (hs.call hg) ?_
                  clear hs hg
                  generalize w'.heap.size = nx11
                  clear w w'
                  refine RL.s 3 [(156, .bool (t9 == 13)), (1, .slice (some ⟨nx0, 0, none⟩) 3 3)] ?_
                  refine RL.cases (t9 == 13) (fun hb => ?_) (fun hb => ?_)
                  ·have hc := (beq_iff_eq.1 hb)
                   rw [hb]
                   rw [if_pos hc] at H; clear hb
                   refine RL.s 1 [(157, .slice (some ⟨nx0, 0, none⟩) 3 3), (156, .bool true)] ?_
                   obtain ⟨t10, hA10, H⟩ := bnd H
                   refine RL.callP 12 [.slice (some ⟨nx0, 0, none⟩) 3 3] (some 158) (fun w => auction_Valid.Post I21 w t10) (by kernel_rfl) (by kernel_rfl) (fun w hs => auction_Valid.calls k I21 [(⟨2, 6, 3⟩ : S48), (⟨1, 5, 10⟩ : S48), (⟨2, 5, 7⟩ : S48)] (some ⟨nx0, 0, none⟩) 3 w hs.im (Nat.le_of_ble_eq_true rfl) (Rd.ext (Imm.le_trans (Imm.le_trans (Imm.le_trans (Imm.le_trans (Imm.le_trans (Imm.le_trans (Imm.le_trans (Imm.le_trans (Imm.le_trans (Imm.le_trans (Imm.le_trans (Imm.le_trans (Imm.le_trans (Imm.le_trans (Imm.le_trans (Imm.le_trans (Imm.le_trans (Imm.le_trans hi2 hi3) hi4) hi5) hi6) hi7) hi8) hi9) hi10) hi11) hi12) hi13) hi14) hi15) hi16) hi18) hi19) hi20) hi21) hr1) t10 hA10) ?_
                   rintro w v w' hs ⟨I22, rfl, hg⟩
                   have hi22 := hg.le
                   refine RL.resume (X' := [orow 3 1 A4 t2.1.length c4 cs4, orow 3 1 A5 t2.2.1.length c5 cs5, orow 27 1 A6 t2.2.2.length c6 cs6, orow 3 1 (some ⟨nx5, 0, none⟩) ([1, 2].length) 2 [i6 1, i6 2], orow 3 1 (some ⟨nx5 + 1, 0, none⟩) ([5, 6].length) 2 [i6 5, i6 6], orow 2 1 (some ⟨nx5 + 2, 0, none⟩) ([4, 0].length) 2 [i6 4, i6 0]]) rfl (hs.call hg) ?_
                   clear hs hg
                   generalize w'.heap.size = nx12
                   clear w w'
                   refine RL.s 2 [(160, .bool t10)] ?_
                   refine RL.cases t10 (fun hb => ?_) (fun hb => ?_)
                   ·have hc := hb
                    rw [hb]
                    rw [if_pos hc] at H; clear hb
                    refine RL.sp 2 [(162, .slice (some ⟨nx12, 0, none⟩) 1 1), (160, .bool true)] (nx12 + 1) [⟨nx1, [.slice A1 t1.1.f0.length c1, .slice A2 t1.1.f1.length c2, .slice A3 t1.1.f2.length c3], 29⟩, ⟨nx3, [.slice A7 t3.1.f0.length c7, .slice A8 t3.1.f1.length c8, .slice A9 t3.1.f2.length c9], 29⟩, ⟨nx4, [.slice A10 t4.1.f0.length c10, .slice A11 t4.1.f1.length c11, .slice A12 t4.1.f2.length c12], 29⟩, ⟨nx12, [i6 1, i6 1, i6 0], 48⟩] ?_
                    refine RL.toRow (b := ⟨nx12, [i6 1, i6 1, i6 0], 48⟩) 3 1 3 (by kernel_rfl) (by kernel_rfl) (by decide) ?_
                    have hp16 : Reps t48 I22 [(⟨1, 1, 0⟩ : S48)] [i6 1, i6 1, i6 0] := ⟨_, _, rfl, (t48_mk _ _), rfl⟩
                    refine RL.norm (K' := [(162, .slice (some ⟨nx12, 0, none⟩) ([(⟨1, 1, 0⟩ : S48)].length) 1), (160, .bool true)]) (L' := [⟨nx1, [.slice A1 t1.1.f0.length c1, .slice A2 t1.1.f1.length c2, .slice A3 t1.1.f2.length c3], 29⟩, ⟨nx3, [.slice A7 t3.1.f0.length c7, .slice A8 t3.1.f1.length c8, .slice A9 t3.1.f2.length c9], 29⟩, ⟨nx4, [.slice A10 t4.1.f0.length c10, .slice A11 t4.1.f1.length c11, .slice A12 t4.1.f2.length c12], 29⟩]) (X' := [orow 3 1 A4 t2.1.length c4 cs4, orow 3 1 A5 t2.2.1.length c5 cs5, orow 27 1 A6 t2.2.2.length c6 cs6, orow 3 1 (some ⟨nx5, 0, none⟩) ([1, 2].length) 2 [i6 1, i6 2], orow 3 1 (some ⟨nx5 + 1, 0, none⟩) ([5, 6].length) 2 [i6 5, i6 6], orow 2 1 (some ⟨nx5 + 2, 0, none⟩) ([4, 0].length) 2 [i6 4, i6 0], orow 48 3 (some ⟨nx12, 0, none⟩) ([(⟨1, 1, 0⟩ : S48)].length) 1 [i6 1, i6 1, i6 0]]) (by kernel_rfl) rfl (by kernel_rfl) (by kernel_rfl) ?_
                    obtain ⟨t11, hA11, H⟩ := bnd H
                    refine RL.callP 12 [.slice (some ⟨nx12, 0, none⟩) ([(⟨1, 1, 0⟩ : S48)].length) 1] (some 163) (fun w v w' => ∃ I', Imm.le I22 I' ∧ auction_Valid.Post I' w t11 v w') (by kernel_rfl) (by kernel_rfl) (fun w hs => ?_) ?_
                    ·skip
                     obtain ⟨JL4, hj4, hn4, hw4, hs⟩ := Sat.freeze (e := 48) (sz := 3) (S := (some ⟨nx12, 0, none⟩)) (n := [(⟨1, 1, 0⟩ : S48)].length) (cap := 1) (m := 6) hs (by kernel_rfl) hp16 rfl
                     exact (auction_Valid.calls k JL4 [(⟨1, 1, 0⟩ : S48)] (some ⟨nx12, 0, none⟩) 1 _ hs.im hn4 hw4 t11 hA11).mono (fun e w' ⟨v, hv, hp⟩ => ⟨v, hv, JL4, hj4, hp⟩)
                    rintro w v w' hs ⟨I', hle, J, rfl, hg⟩
                    refine RL.resume (X' := [orow 3 1 A4 t2.1.length c4 cs4, orow 3 1 A5 t2.2.1.length c5 cs5, orow 27 1 A6 t2.2.2.length c6 cs6, orow 3 1 (some ⟨nx5, 0, none⟩) ([1, 2].length) 2 [i6 1, i6 2], orow 3 1 (some ⟨nx5 + 1, 0, none⟩) ([5, 6].length) 2 [i6 5, i6 6], orow 2 1 (some ⟨nx5 + 2, 0, none⟩) ([4, 0].length) 2 [i6 4, i6 0], orow 48 3 (some ⟨nx12, 0, none⟩) ([(⟨1, 1, 0⟩ : S48)].length) 1 [i6 1, i6 1, i6 0]]) rfl (hs.call (hg.back hle)) ?_
                    clear hs hg hle I' J
                    generalize w'.heap.size = nx13
                    clear w w'
                    refine RL.s 3 [(166, .bool (!t11))] ?_
                    refine RL.cases t11 (fun hb => ?_) (fun hb => ?_)
                    ·have hc := hb
                     rw [hb]
                     rw [if_pos hc] at H; clear hb
                     refine RL.s 6 [(0, .bool false)] ?_
                     refine RL.nil (by kernel_rfl) ?_
                     obtain rfl := Option.some.inj H
                     refine QN.sel (K' := [(0, .bool false)]) (L' := [⟨nx1, [.slice A1 t1.1.f0.length c1, .slice A2 t1.1.f1.length c2, .slice A3 t1.1.f2.length c3], 29⟩, ⟨nx3, [.slice A7 t3.1.f0.length c7, .slice A8 t3.1.f1.length c8, .slice A9 t3.1.f2.length c9], 29⟩, ⟨nx4, [.slice A10 t4.1.f0.length c10, .slice A11 t4.1.f1.length c11, .slice A12 t4.1.f2.length c12], 29⟩]) [] (by kernel_rfl) (by kernel_rfl) (.cons_cons _ (.cons_cons _ (.cons_cons _ .slnil))) ?_
                     refine QN.norm (X' := []) rfl rfl rfl (by kernel_rfl) ?_
                     exact hJ2 _ _ _ _ _ ⟨false, rfl, rfl, rfl, (Imm.le_trans (Imm.le_trans (Imm.le_trans (Imm.le_trans hi18 hi19) hi20) hi21) hi22), HK2⟩
                    ·have hc := (Bool.eq_false_iff.1 hb)
                     rw [hb]
                     rw [if_neg hc] at H; clear hb
                     refine RL.sp 2 [(168, .slice (some ⟨nx13, 0, none⟩) 1 1), (166, .bool true)] (nx13 + 1) [⟨nx1, [.slice A1 t1.1.f0.length c1, .slice A2 t1.1.f1.length c2, .slice A3 t1.1.f2.length c3], 29⟩, ⟨nx3, [.slice A7 t3.1.f0.length c7, .slice A8 t3.1.f1.length c8, .slice A9 t3.1.f2.length c9], 29⟩, ⟨nx4, [.slice A10 t4.1.f0.length c10, .slice A11 t4.1.f1.length c11, .slice A12 t4.1.f2.length c12], 29⟩, ⟨nx13, [i6 1001, i6 1, i6 1], 48⟩] ?_
                     refine RL.toRow (b := ⟨nx13, [i6 1001, i6 1, i6 1], 48⟩) 3 1 3 (by kernel_rfl) (by kernel_rfl) (by decide) ?_
                     have hp17 : Reps t48 I22 [(⟨1001, 1, 1⟩ : S48)] [i6 1001, i6 1, i6 1] := ⟨_, _, rfl, (t48_mk _ _), rfl⟩
                     refine RL.norm (K' := [(168, .slice (some ⟨nx13, 0, none⟩) ([(⟨1001, 1, 1⟩ : S48)].length) 1), (166, .bool true)]) (L' := [⟨nx1, [.slice A1 t1.1.f0.length c1, .slice A2 t1.1.f1.length c2, .slice A3 t1.1.f2.length c3], 29⟩, ⟨nx3, [.slice A7 t3.1.f0.length c7, .slice A8 t3.1.f1.length c8, .slice A9 t3.1.f2.length c9], 29⟩, ⟨nx4, [.slice A10 t4.1.f0.length c10, .slice A11 t4.1.f1.length c11, .slice A12 t4.1.f2.length c12], 29⟩]) (X' := [orow 3 1 A4 t2.1.length c4 cs4, orow 3 1 A5 t2.2.1.length c5 cs5, orow 27 1 A6 t2.2.2.length c6 cs6, orow 3 1 (some ⟨nx5, 0, none⟩) ([1, 2].length) 2 [i6 1, i6 2], orow 3 1 (some ⟨nx5 + 1, 0, none⟩) ([5, 6].length) 2 [i6 5, i6 6], orow 2 1 (some ⟨nx5 + 2, 0, none⟩) ([4, 0].length) 2 [i6 4, i6 0], orow 48 3 (some ⟨nx12, 0, none⟩) ([(⟨1, 1, 0⟩ : S48)].length) 1 [i6 1, i6 1, i6 0], orow 48 3 (some ⟨nx13, 0, none⟩) ([(⟨1001, 1, 1⟩ : S48)].length) 1 [i6 1001, i6 1, i6 1]]) (by kernel_rfl) rfl (by kernel_rfl) (by kernel_rfl) ?_
                     obtain ⟨t12, hA12, H⟩ := bnd H
                     refine RL.callP 12 [.slice (some ⟨nx13, 0, none⟩) ([(⟨1001, 1, 1⟩ : S48)].length) 1] (some 169) (fun w v w' => ∃ I', Imm.le I22 I' ∧ auction_Valid.Post I' w t12 v w') (by kernel_rfl) (by kernel_rfl) (fun w hs => ?_) ?_
                     ·skip
                      obtain ⟨JL5, hj5, hn5, hw5, hs⟩ := Sat.freeze (e := 48) (sz := 3) (S := (some ⟨nx13, 0, none⟩)) (n := [(⟨1001, 1, 1⟩ : S48)].length) (cap := 1) (m := 7) hs (by kernel_rfl) hp17 rfl
                      exact (auction_Valid.calls k JL5 [(⟨1001, 1, 1⟩ : S48)] (some ⟨nx13, 0, none⟩) 1 _ hs.im hn5 hw5 t12 hA12).mono (fun e w' ⟨v, hv, hp⟩ => ⟨v, hv, JL5, hj5, hp⟩)
                     rintro w v w' hs ⟨I', hle, J, rfl, hg⟩
                     refine RL.resume (X' := [orow 3 1 A4 t2.1.length c4 cs4, orow 3 1 A5 t2.2.1.length c5 cs5, orow 27 1 A6 t2.2.2.length c6 cs6, orow 3 1 (some ⟨nx5, 0, none⟩) ([1, 2].length) 2 [i6 1, i6 2], orow 3 1 (some ⟨nx5 + 1, 0, none⟩) ([5, 6].length) 2 [i6 5, i6 6], orow 2 1 (some ⟨nx5 + 2, 0, none⟩) ([4, 0].length) 2 [i6 4, i6 0], orow 48 3 (some ⟨nx12, 0, none⟩) ([(⟨1, 1, 0⟩ : S48)].length) 1 [i6 1, i6 1, i6 0], orow 48 3 (some ⟨nx13, 0, none⟩) ([(⟨1001, 1, 1⟩ : S48)].length) 1 [i6 1001, i6 1, i6 1]]) rfl (hs.call (hg.back hle)) ?_
                     clear hs hg hle I' J
                     generalize w'.heap.size = nx14
                     clear w w'
                     refine RL.s 3 [(0, .bool (!t12))] ?_
                     refine RL.nil (by kernel_rfl) ?_
                     obtain rfl := Option.some.inj H
                     refine QN.sel (K' := [(0, .bool (!t12))]) (L' := [⟨nx1, [.slice A1 t1.1.f0.length c1, .slice A2 t1.1.f1.length c2, .slice A3 t1.1.f2.length c3], 29⟩, ⟨nx3, [.slice A7 t3.1.f0.length c7, .slice A8 t3.1.f1.length c8, .slice A9 t3.1.f2.length c9], 29⟩, ⟨nx4, [.slice A10 t4.1.f0.length c10, .slice A11 t4.1.f1.length c11, .slice A12 t4.1.f2.length c12], 29⟩]) [] (by kernel_rfl) (by kernel_rfl) (.cons_cons _ (.cons_cons _ (.cons_cons _ .slnil))) ?_
                     refine QN.norm (X' := []) rfl rfl rfl (by kernel_rfl) ?_
                     exact hJ2 _ _ _ _ _ ⟨(!t12), rfl, rfl, rfl, (Imm.le_trans (Imm.le_trans (Imm.le_trans (Imm.le_trans hi18 hi19) hi20) hi21) hi22), HK2⟩
                   ·have hc := (Bool.eq_false_iff.1 hb)
                    rw [hb]
                    rw [if_neg hc] at H; clear hb
                    refine RL.s 12 [(0, .bool false)] ?_
                    refine RL.nil (by kernel_rfl) ?_
                    obtain rfl := Option.some.inj H
                    refine QN.sel (K' := [(0, .bool false)]) (L' := [⟨nx1, [.slice A1 t1.1.f0.length c1, .slice A2 t1.1.f1.length c2, .slice A3 t1.1.f2.length c3], 29⟩, ⟨nx3, [.slice A7 t3.1.f0.length c7, .slice A8 t3.1.f1.length c8, .slice A9 t3.1.f2.length c9], 29⟩, ⟨nx4, [.slice A10 t4.1.f0.length c10, .slice A11 t4.1.f1.length c11, .slice A12 t4.1.f2.length c12], 29⟩]) [] (by kernel_rfl) (by kernel_rfl) (.cons_cons _ (.cons_cons _ (.cons_cons _ .slnil))) ?_
                    refine QN.norm (X' := []) rfl rfl rfl (by kernel_rfl) ?_
                    exact hJ2 _ _ _ _ _ ⟨false, rfl, rfl, rfl, (Imm.le_trans (Imm.le_trans (Imm.le_trans (Imm.le_trans hi18 hi19) hi20) hi21) hi22), HK2⟩
                  ·have hc := (beq_eq_false_iff_ne.1 hb)
                   rw [hb]
                   rw [if_neg hc] at H; clear hb
                   refine RL.s 16 [(0, .bool false)] ?_
                   refine RL.nil (by kernel_rfl) ?_
                   obtain rfl := Option.some.inj H
                   refine QN.sel (K' := [(0, .bool false)]) (L' := [⟨nx1, [.slice A1 t1.1.f0.length c1, .slice A2 t1.1.f1.length c2, .slice A3 t1.1.f2.length c3], 29⟩, ⟨nx3, [.slice A7 t3.1.f0.length c7, .slice A8 t3.1.f1.length c8, .slice A9 t3.1.f2.length c9], 29⟩, ⟨nx4, [.slice A10 t4.1.f0.length c10, .slice A11 t4.1.f1.length c11, .slice A12 t4.1.f2.length c12], 29⟩]) [] (by kernel_rfl) (by kernel_rfl) (.cons_cons _ (.cons_cons _ (.cons_cons _ .slnil))) ?_
                   refine QN.norm (X' := []) rfl rfl rfl (by kernel_rfl) ?_
                   exact hJ2 _ _ _ _ _ ⟨false, rfl, rfl, rfl, (Imm.le_trans (Imm.le_trans (Imm.le_trans hi18 hi19) hi20) hi21), HK2⟩
                 ·have hc := (beq_eq_false_iff_ne.1 hb)
                  rw [hb]
                  rw [if_neg hc] at H; clear hb
                  refine RL.s 22 [(0, .bool false)] ?_
                  refine RL.nil (by kernel_rfl) ?_
                  obtain rfl := Option.some.inj H
                  refine QN.sel (K' := [(0, .bool false)]) (L' := [⟨nx1, [.slice A1 t1.1.f0.length c1, .slice A2 t1.1.f1.length c2, .slice A3 t1.1.f2.length c3], 29⟩, ⟨nx3, [.slice A7 t3.1.f0.length c7, .slice A8 t3.1.f1.length c8, .slice A9 t3.1.f2.length c9], 29⟩, ⟨nx4, [.slice A10 t4.1.f0.length c10, .slice A11 t4.1.f1.length c11, .slice A12 t4.1.f2.length c12], 29⟩]) [] (by kernel_rfl) (by kernel_rfl) (.cons_cons _ (.cons_cons _ (.cons_cons _ .slnil))) ?_
                  refine QN.norm (X' := []) rfl rfl rfl (by kernel_rfl) ?_
                  exact hJ2 _ _ _ _ _ ⟨false, rfl, rfl, rfl, (Imm.le_trans (Imm.le_trans hi18 hi19) hi20), HK2⟩
                ·have hc := (beq_eq_false_iff_ne.1 hb)
                 rw [hb]
                 rw [if_neg hc] at H; clear hb
                 refine RL.s 28 [(0, .bool false)] ?_
                 refine RL.nil (by kernel_rfl) ?_
                 obtain rfl := Option.some.inj H
                 refine QN.sel (K' := [(0, .bool false)]) (L' := [⟨nx1, [.slice A1 t1.1.f0.length c1, .slice A2 t1.1.f1.length c2, .slice A3 t1.1.f2.length c3], 29⟩, ⟨nx3, [.slice A7 t3.1.f0.length c7, .slice A8 t3.1.f1.length c8, .slice A9 t3.1.f2.length c9], 29⟩, ⟨nx4, [.slice A10 t4.1.f0.length c10, .slice A11 t4.1.f1.length c11, .slice A12 t4.1.f2.length c12], 29⟩]) [] (by kernel_rfl) (by kernel_rfl) (.cons_cons _ (.cons_cons _ (.cons_cons _ .slnil))) ?_
                 refine QN.norm (X' := []) rfl rfl rfl (by kernel_rfl) ?_
                 exact hJ2 _ _ _ _ _ ⟨false, rfl, rfl, rfl, (Imm.le_trans hi18 hi19), HK2⟩
               ·have hc := (beq_eq_false_iff_ne.1 hb)
                rw [hb]
                rw [if_neg hc] at H; clear hb
                refine RL.simK (K' := [(0, .bool false)]) [] (RFacts.nil _ _ _) 34 (.no :: .no :: .no :: .no :: .no :: .no :: .no :: .no :: .no :: .no :: .no :: .no :: .no :: .no :: .no :: .no :: .no :: .no :: .no :: .no :: .no :: .no :: .no :: .no :: .no :: .no :: .no :: .no :: .no :: .no :: .no :: .no :: .no :: .no :: []) (by kernel_rfl) (by kernel_rfl) ?_
                refine RL.nil (by kernel_rfl) ?_
                obtain rfl := Option.some.inj H
                refine QN.sel (K' := [(0, .bool false)]) (L' := [⟨nx1, [.slice A1 t1.1.f0.length c1, .slice A2 t1.1.f1.length c2, .slice A3 t1.1.f2.length c3], 29⟩, ⟨nx3, [.slice A7 t3.1.f0.length c7, .slice A8 t3.1.f1.length c8, .slice A9 t3.1.f2.length c9], 29⟩, ⟨nx4, [.slice A10 t4.1.f0.length c10, .slice A11 t4.1.f1.length c11, .slice A12 t4.1.f2.length c12], 29⟩]) [] (by kernel_rfl) (by kernel_rfl) (.cons_cons _ (.cons_cons _ (.cons_cons _ .slnil))) ?_
                refine QN.norm (X' := []) rfl rfl rfl (by kernel_rfl) ?_
                exact hJ2 _ _ _ _ _ ⟨false, rfl, rfl, rfl, hi18, HK2⟩
              ·have hc := (beq_eq_false_iff_ne.1 hb)
               rw [hb]
               rw [if_neg hc] at H; clear hb
               refine RL.simK (K' := [(0, .bool false)]) [] (RFacts.nil _ _ _) 40 (.no :: .no :: .no :: .no :: .no :: .no :: .no :: .no :: .no :: .no :: .no :: .no :: .no :: .no :: .no :: .no :: .no :: .no :: .no :: .no :: .no :: .no :: .no :: .no :: .no :: .no :: .no :: .no :: .no :: .no :: .no :: .no :: .no :: .no :: .no :: .no :: .no :: .no :: .no :: .no :: []) (by kernel_rfl) (by kernel_rfl) ?_
               refine RL.nil (by kernel_rfl) ?_
               obtain rfl := Option.some.inj H
               refine QN.sel (K' := [(0, .bool false)]) (L' := [⟨nx1, [.slice A1 t1.1.f0.length c1, .slice A2 t1.1.f1.length c2, .slice A3 t1.1.f2.length c3], 29⟩, ⟨nx3, [.slice A7 t3.1.f0.length c7, .slice A8 t3.1.f1.length c8, .slice A9 t3.1.f2.length c9], 29⟩, ⟨nx4, [.slice A10 t4.1.f0.length c10, .slice A11 t4.1.f1.length c11, .slice A12 t4.1.f2.length c12], 29⟩]) [] (by kernel_rfl) (by kernel_rfl) (.cons_cons _ (.cons_cons _ (.cons_cons _ .slnil))) ?_
               refine QN.norm (X' := []) rfl rfl rfl (by kernel_rfl) ?_
               exact hJ2 _ _ _ _ _ ⟨false, rfl, rfl, rfl, (Imm.le_refl _), HK2⟩
             ·have hc := (beq_eq_false_iff_ne.1 hb)
              rw [hb]
              rw [if_neg hc] at H; clear hb
              refine RL.simK (K' := [(0, .bool false)]) [] (RFacts.nil _ _ _) 44 (.no :: .no :: .no :: .no :: .no :: .no :: .no :: .no :: .no :: .no :: .no :: .no :: .no :: .no :: .no :: .no :: .no :: .no :: .no :: .no :: .no :: .no :: .no :: .no :: .no :: .no :: .no :: .no :: .no :: .no :: .no :: .no :: .no :: .no :: .no :: .no :: .no :: .no :: .no :: .no :: .no :: .no :: .no :: .no :: []) (by kernel_rfl) (by kernel_rfl) ?_
              refine RL.nil (by kernel_rfl) ?_
              obtain rfl := Option.some.inj H
              refine QN.sel (K' := [(0, .bool false)]) (L' := [⟨nx1, [.slice A1 t1.1.f0.length c1, .slice A2 t1.1.f1.length c2, .slice A3 t1.1.f2.length c3], 29⟩, ⟨nx3, [.slice A7 t3.1.f0.length c7, .slice A8 t3.1.f1.length c8, .slice A9 t3.1.f2.length c9], 29⟩, ⟨nx4, [.slice A10 t4.1.f0.length c10, .slice A11 t4.1.f1.length c11, .slice A12 t4.1.f2.length c12], 29⟩]) [] (by kernel_rfl) (by kernel_rfl) (.cons_cons _ (.cons_cons _ (.cons_cons _ .slnil))) ?_
              refine QN.norm (X' := []) rfl rfl rfl (by kernel_rfl) ?_
              exact hJ2 _ _ _ _ _ ⟨false, rfl, rfl, rfl, (Imm.le_refl _), HK2⟩
            ·have hc := (beq_eq_false_iff_ne.1 hb)
             rw [hb]
             rw [if_neg hc] at H; clear hb
             refine RL.simK (K' := [(0, .bool false)]) [] (RFacts.nil _ _ _) 50 (.no :: .no :: .no :: .no :: .no :: .no :: .no :: .no :: .no :: .no :: .no :: .no :: .no :: .no :: .no :: .no :: .no :: .no :: .no :: .no :: .no :: .no :: .no :: .no :: .no :: .no :: .no :: .no :: .no :: .no :: .no :: .no :: .no :: .no :: .no :: .no :: .no :: .no :: .no :: .no :: .no :: .no :: .no :: .no :: .no :: .no :: .no :: .no :: .no :: .no :: []) (by kernel_rfl) (by kernel_rfl) ?_
             refine RL.nil (by kernel_rfl) ?_
             obtain rfl := Option.some.inj H
             refine QN.sel (K' := [(0, .bool false)]) (L' := [⟨nx1, [.slice A1 t1.1.f0.length c1, .slice A2 t1.1.f1.length c2, .slice A3 t1.1.f2.length c3], 29⟩, ⟨nx3, [.slice A7 t3.1.f0.length c7, .slice A8 t3.1.f1.length c8, .slice A9 t3.1.f2.length c9], 29⟩, ⟨nx4, [.slice A10 t4.1.f0.length c10, .slice A11 t4.1.f1.length c11, .slice A12 t4.1.f2.length c12], 29⟩]) [] (by kernel_rfl) (by kernel_rfl) (.cons_cons _ (.cons_cons _ (.cons_cons _ .slnil))) ?_
             refine QN.norm (X' := []) rfl rfl rfl (by kernel_rfl) ?_
             exact hJ2 _ _ _ _ _ ⟨false, rfl, rfl, rfl, (Imm.le_refl _), HK2⟩
           ·have hc := (beq_eq_false_iff_ne.1 hb)
            rw [hb]
            rw [if_neg hc] at H; clear hb
            refine RL.simK (K' := [(0, .bool false)]) [] (RFacts.nil _ _ _) 54 (.no :: .no :: .no :: .no :: .no :: .no :: .no :: .no :: .no :: .no :: .no :: .no :: .no :: .no :: .no :: .no :: .no :: .no :: .no :: .no :: .no :: .no :: .no :: .no :: .no :: .no :: .no :: .no :: .no :: .no :: .no :: .no :: .no :: .no :: .no :: .no :: .no :: .no :: .no :: .no :: .no :: .no :: .no :: .no :: .no :: .no :: .no :: .no :: .no :: .no :: .no :: .no :: .no :: .no :: []) (by kernel_rfl) (by kernel_rfl) ?_
            refine RL.nil (by kernel_rfl) ?_
            obtain rfl := Option.some.inj H
            refine QN.sel (K' := [(0, .bool false)]) (L' := [⟨nx1, [.slice A1 t1.1.f0.length c1, .slice A2 t1.1.f1.length c2, .slice A3 t1.1.f2.length c3], 29⟩, ⟨nx3, [.slice A7 t3.1.f0.length c7, .slice A8 t3.1.f1.length c8, .slice A9 t3.1.f2.length c9], 29⟩, ⟨nx4, [.slice A10 t4.1.f0.length c10, .slice A11 t4.1.f1.length c11, .slice A12 t4.1.f2.length c12], 29⟩]) [] (by kernel_rfl) (by kernel_rfl) (.cons_cons _ (.cons_cons _ (.cons_cons _ .slnil))) ?_
            refine QN.norm (X' := []) rfl rfl rfl (by kernel_rfl) ?_
            exact hJ2 _ _ _ _ _ ⟨false, rfl, rfl, rfl, (Imm.le_refl _), HK2⟩
          ·have hc := (beq_eq_false_iff_ne.1 hb)
           rw [hb]
           rw [if_neg hc] at H; clear hb
           refine RL.simK (K' := [(0, .bool false)]) [] (RFacts.nil _ _ _) 62 (.no :: .no :: .no :: .no :: .no :: .no :: .no :: .no :: .no :: .no :: .no :: .no :: .no :: .no :: .no :: .no :: .no :: .no :: .no :: .no :: .no :: .no :: .no :: .no :: .no :: .no :: .no :: .no :: .no :: .no :: .no :: .no :: .no :: .no :: .no :: .no :: .no :: .no :: .no :: .no :: .no :: .no :: .no :: .no :: .no :: .no :: .no :: .no :: .no :: .no :: .no :: .no :: .no :: .no :: .no :: .no :: .no :: .no :: .no :: .no :: .no :: .no :: []) (by kernel_rfl) (by kernel_rfl) ?_
           refine RL.nil (by kernel_rfl) ?_
           obtain rfl := Option.some.inj H
           refine QN.sel (K' := [(0, .bool false)]) (L' := [⟨nx1, [.slice A1 t1.1.f0.length c1, .slice A2 t1.1.f1.length c2, .slice A3 t1.1.f2.length c3], 29⟩, ⟨nx3, [.slice A7 t3.1.f0.length c7, .slice A8 t3.1.f1.length c8, .slice A9 t3.1.f2.length c9], 29⟩, ⟨nx4, [.slice A10 t4.1.f0.length c10, .slice A11 t4.1.f1.length c11, .slice A12 t4.1.f2.length c12], 29⟩]) [] (by kernel_rfl) (by kernel_rfl) (.cons_cons _ (.cons_cons _ (.cons_cons _ .slnil))) ?_
           refine QN.norm (X' := []) rfl rfl rfl (by kernel_rfl) ?_
           exact hJ2 _ _ _ _ _ ⟨false, rfl, rfl, rfl, (Imm.le_refl _), HK2⟩
         ·have hc := (beq_eq_false_iff_ne.1 hb)
          rw [hb]
          rw [if_neg hc] at H; clear hb
          refine RL.simK (K' := [(0, .bool false)]) [] (RFacts.nil _ _ _) 70 (.no :: .no :: .no :: .no :: .no :: .no :: .no :: .no :: .no :: .no :: .no :: .no :: .no :: .no :: .no :: .no :: .no :: .no :: .no :: .no :: .no :: .no :: .no :: .no :: .no :: .no :: .no :: .no :: .no :: .no :: .no :: .no :: .no :: .no :: .no :: .no :: .no :: .no :: .no :: .no :: .no :: .no :: .no :: .no :: .no :: .no :: .no :: .no :: .no :: .no :: .no :: .no :: .no :: .no :: .no :: .no :: .no :: .no :: .no :: .no :: .no :: .no :: .no :: .no :: .no :: .no :: .no :: .no :: .no :: .no :: []) (by kernel_rfl) (by kernel_rfl) ?_
          refine RL.nil (by kernel_rfl) ?_
          obtain rfl := Option.some.inj H
          refine QN.sel (K' := [(0, .bool false)]) (L' := [⟨nx1, [.slice A1 t1.1.f0.length c1, .slice A2 t1.1.f1.length c2, .slice A3 t1.1.f2.length c3], 29⟩, ⟨nx3, [.slice A7 t3.1.f0.length c7, .slice A8 t3.1.f1.length c8, .slice A9 t3.1.f2.length c9], 29⟩, ⟨nx4, [.slice A10 t4.1.f0.length c10, .slice A11 t4.1.f1.length c11, .slice A12 t4.1.f2.length c12], 29⟩]) [] (by kernel_rfl) (by kernel_rfl) (.cons_cons _ (.cons_cons _ (.cons_cons _ .slnil))) ?_
          refine QN.norm (X' := []) rfl rfl rfl (by kernel_rfl) ?_
          exact hJ2 _ _ _ _ _ ⟨false, rfl, rfl, rfl, (Imm.le_refl _), HK2⟩
        ·have hc := (beq_eq_false_iff_ne.1 hb)
         rw [hb]
         rw [if_neg hc] at H; clear hb
         refine RL.simK (K' := [(0, .bool false)]) [] (RFacts.nil _ _ _) 78 (.no :: .no :: .no :: .no :: .no :: .no :: .no :: .no :: .no :: .no :: .no :: .no :: .no :: .no :: .no :: .no :: .no :: .no :: .no :: .no :: .no :: .no :: .no :: .no :: .no :: .no :: .no :: .no :: .no :: .no :: .no :: .no :: .no :: .no :: .no :: .no :: .no :: .no :: .no :: .no :: .no :: .no :: .no :: .no :: .no :: .no :: .no :: .no :: .no :: .no :: .no :: .no :: .no :: .no :: .no :: .no :: .no :: .no :: .no :: .no :: .no :: .no :: .no :: .no :: .no :: .no :: .no :: .no :: .no :: .no :: .no :: .no :: .no :: .no :: .no :: .no :: .no :: .no :: []) (by kernel_rfl) (by kernel_rfl) ?_
         refine RL.nil (by kernel_rfl) ?_
         obtain rfl := Option.some.inj H
         refine QN.sel (K' := [(0, .bool false)]) (L' := [⟨nx1, [.slice A1 t1.1.f0.length c1, .slice A2 t1.1.f1.length c2, .slice A3 t1.1.f2.length c3], 29⟩, ⟨nx3, [.slice A7 t3.1.f0.length c7, .slice A8 t3.1.f1.length c8, .slice A9 t3.1.f2.length c9], 29⟩, ⟨nx4, [.slice A10 t4.1.f0.length c10, .slice A11 t4.1.f1.length c11, .slice A12 t4.1.f2.length c12], 29⟩]) [] (by kernel_rfl) (by kernel_rfl) (.cons_cons _ (.cons_cons _ (.cons_cons _ .slnil))) ?_
         refine QN.norm (X' := []) rfl rfl rfl (by kernel_rfl) ?_
         exact hJ2 _ _ _ _ _ ⟨false, rfl, rfl, rfl, (Imm.le_refl _), HK2⟩
       ·have hc := (beq_eq_false_iff_ne.1 hb)
        rw [hb]
        rw [if_neg hc] at H; clear hb
        refine RL.simK (K' := [(0, .bool false)]) [] (RFacts.nil _ _ _) 86 (.no :: .no :: .no :: .no :: .no :: .no :: .no :: .no :: .no :: .no :: .no :: .no :: .no :: .no :: .no :: .no :: .no :: .no :: .no :: .no :: .no :: .no :: .no :: .no :: .no :: .no :: .no :: .no :: .no :: .no :: .no :: .no :: .no :: .no :: .no :: .no :: .no :: .no :: .no :: .no :: .no :: .no :: .no :: .no :: .no :: .no :: .no :: .no :: .no :: .no :: .no :: .no :: .no :: .no :: .no :: .no :: .no :: .no :: .no :: .no :: .no :: .no :: .no :: .no :: .no :: .no :: .no :: .no :: .no :: .no :: .no :: .no :: .no :: .no :: .no :: .no :: .no :: .no :: .no :: .no :: .no :: .no :: .no :: .no :: .no :: .no :: []) (by kernel_rfl) (by kernel_rfl) ?_
        refine RL.nil (by kernel_rfl) ?_
        obtain rfl := Option.some.inj H
        refine QN.sel (K' := [(0, .bool false)]) (L' := [⟨nx1, [.slice A1 t1.1.f0.length c1, .slice A2 t1.1.f1.length c2, .slice A3 t1.1.f2.length c3], 29⟩, ⟨nx3, [.slice A7 t3.1.f0.length c7, .slice A8 t3.1.f1.length c8, .slice A9 t3.1.f2.length c9], 29⟩, ⟨nx4, [.slice A10 t4.1.f0.length c10, .slice A11 t4.1.f1.length c11, .slice A12 t4.1.f2.length c12], 29⟩]) [] (by kernel_rfl) (by kernel_rfl) (.cons_cons _ (.cons_cons _ (.cons_cons _ .slnil))) ?_
        refine QN.norm (X' := []) rfl rfl rfl (by kernel_rfl) ?_
        exact hJ2 _ _ _ _ _ ⟨false, rfl, rfl, rfl, (Imm.le_refl _), HK2⟩
      ·have hc := (beq_eq_false_iff_ne.1 hb)
       rw [hb]
       rw [if_neg hc] at H; clear hb
       refine RL.simK (K' := [(0, .bool false)]) [] (RFacts.nil _ _ _) 92 (.no :: .no :: .no :: .no :: .no :: .no :: .no :: .no :: .no :: .no :: .no :: .no :: .no :: .no :: .no :: .no :: .no :: .no :: .no :: .no :: .no :: .no :: .no :: .no :: .no :: .no :: .no :: .no :: .no :: .no :: .no :: .no :: .no :: .no :: .no :: .no :: .no :: .no :: .no :: .no :: .no :: .no :: .no :: .no :: .no :: .no :: .no :: .no :: .no :: .no :: .no :: .no :: .no :: .no :: .no :: .no :: .no :: .no :: .no :: .no :: .no :: .no :: .no :: .no :: .no :: .no :: .no :: .no :: .no :: .no :: .no :: .no :: .no :: .no :: .no :: .no :: .no :: .no :: .no :: .no :: .no :: .no :: .no :: .no :: .no :: .no :: .no :: .no :: .no :: .no :: .no :: .no :: []) (by kernel_rfl) (by kernel_rfl) ?_
       refine RL.nil (by kernel_rfl) ?_
       obtain rfl := Option.some.inj H
       refine QN.sel (K' := [(0, .bool false)]) (L' := [⟨nx1, [.slice A1 t1.1.f0.length c1, .slice A2 t1.1.f1.length c2, .slice A3 t1.1.f2.length c3], 29⟩, ⟨nx3, [.slice A7 t3.1.f0.length c7, .slice A8 t3.1.f1.length c8, .slice A9 t3.1.f2.length c9], 29⟩, ⟨nx4, [.slice A10 t4.1.f0.length c10, .slice A11 t4.1.f1.length c11, .slice A12 t4.1.f2.length c12], 29⟩]) [] (by kernel_rfl) (by kernel_rfl) (.cons_cons _ (.cons_cons _ (.cons_cons _ .slnil))) ?_
       refine QN.norm (X' := []) rfl rfl rfl (by kernel_rfl) ?_
       exact hJ2 _ _ _ _ _ ⟨false, rfl, rfl, rfl, (Imm.le_refl _), HK2⟩
     ·have hc := (Bool.eq_false_iff.1 hb)
      rw [hb]
      rw [if_neg hc] at H; clear hb
      refine RL.simK (K' := [(0, .bool false)]) [] (RFacts.nil _ _ _) 98 (.no :: .no :: .no :: .no :: .no :: .no :: .no :: .no :: .no :: .no :: .no :: .no :: .no :: .no :: .no :: .no :: .no :: .no :: .no :: .no :: .no :: .no :: .no :: .no :: .no :: .no :: .no :: .no :: .no :: .no :: .no :: .no :: .no :: .no :: .no :: .no :: .no :: .no :: .no :: .no :: .no :: .no :: .no :: .no :: .no :: .no :: .no :: .no :: .no :: .no :: .no :: .no :: .no :: .no :: .no :: .no :: .no :: .no :: .no :: .no :: .no :: .no :: .no :: .no :: .no :: .no :: .no :: .no :: .no :: .no :: .no :: .no :: .no :: .no :: .no :: .no :: .no :: .no :: .no :: .no :: .no :: .no :: .no :: .no :: .no :: .no :: .no :: .no :: .no :: .no :: .no :: .no :: .no :: .no :: .no :: .no :: .no :: .no :: []) (by kernel_rfl) (by kernel_rfl) ?_
      refine RL.nil (by kernel_rfl) ?_
      obtain rfl := Option.some.inj H
      refine QN.sel (K' := [(0, .bool false)]) (L' := [⟨nx1, [.slice A1 t1.1.f0.length c1, .slice A2 t1.1.f1.length c2, .slice A3 t1.1.f2.length c3], 29⟩, ⟨nx3, [.slice A7 t3.1.f0.length c7, .slice A8 t3.1.f1.length c8, .slice A9 t3.1.f2.length c9], 29⟩, ⟨nx4, [.slice A10 t4.1.f0.length c10, .slice A11 t4.1.f1.length c11, .slice A12 t4.1.f2.length c12], 29⟩]) [] (by kernel_rfl) (by kernel_rfl) (.cons_cons _ (.cons_cons _ (.cons_cons _ .slnil))) ?_
      refine QN.norm (X' := []) rfl rfl rfl (by kernel_rfl) ?_
      exact hJ2 _ _ _ _ _ ⟨false, rfl, rfl, rfl, (Imm.le_refl _), HK2⟩
    ·have hc := (beq_eq_false_iff_ne.1 hb)
     rw [hb]
     rw [if_neg hc] at H; clear hb
     refine RL.simK (K' := [(0, .bool false)]) [] (RFacts.nil _ _ _) 106 (.no :: .no :: .no :: .no :: .no :: .no :: .no :: .no :: .no :: .no :: .no :: .no :: .no :: .no :: .no :: .no :: .no :: .no :: .no :: .no :: .no :: .no :: .no :: .no :: .no :: .no :: .no :: .no :: .no :: .no :: .no :: .no :: .no :: .no :: .no :: .no :: .no :: .no :: .no :: .no :: .no :: .no :: .no :: .no :: .no :: .no :: .no :: .no :: .no :: .no :: .no :: .no :: .no :: .no :: .no :: .no :: .no :: .no :: .no :: .no :: .no :: .no :: .no :: .no :: .no :: .no :: .no :: .no :: .no :: .no :: .no :: .no :: .no :: .no :: .no :: .no :: .no :: .no :: .no :: .no :: .no :: .no :: .no :: .no :: .no :: .no :: .no :: .no :: .no :: .no :: .no :: .no :: .no :: .no :: .no :: .no :: .no :: .no :: .no :: .no :: .no :: .no :: .no :: .no :: .no :: .no :: []) (by kernel_rfl) (by kernel_rfl) ?_
     refine RL.nil (by kernel_rfl) ?_
     obtain rfl := Option.some.inj H
     refine QN.sel (K' := [(0, .bool false)]) (L' := [⟨nx1, [.slice A1 t1.1.f0.length c1, .slice A2 t1.1.f1.length c2, .slice A3 t1.1.f2.length c3], 29⟩, ⟨nx3, [.slice A7 t3.1.f0.length c7, .slice A8 t3.1.f1.length c8, .slice A9 t3.1.f2.length c9], 29⟩, ⟨nx4, [.slice A10 t4.1.f0.length c10, .slice A11 t4.1.f1.length c11, .slice A12 t4.1.f2.length c12], 29⟩]) [] (by kernel_rfl) (by kernel_rfl) (.cons_cons _ (.cons_cons _ (.cons_cons _ .slnil))) ?_
     refine QN.norm (X' := []) rfl rfl rfl (by kernel_rfl) ?_
     exact hJ2 _ _ _ _ _ ⟨false, rfl, rfl, rfl, (Imm.le_refl _), HK2⟩
 ·intro Q_2 hJ1 hQ1
  obtain ⟨y1, H, HK1⟩ := bnd H
  refine OK.rg ?_
  refine RL.s 4 [(40, .bool ((t2.1.length : Int) != 2)), (10, i6 t4.2), (8, i6 t3.2), (7, pt nx3 0), (6, .slice A6 t2.2.2.length c6), (5, .slice A5 t2.2.1.length c5), (4, .slice A4 t2.1.length c4), (3, i6 t1.2), (2, pt nx1 0), (1, .slice (some ⟨nx0, 0, none⟩) 3 3)] ?_
  refine RL.cases ((t2.1.length : Int) != 2) (fun hb => ?_) (fun hb => ?_)
  ·have hc := (bne_iff_ne.1 hb)
   rw [hb]
   rw [if_pos hc] at H; clear hb
   refine RL.s 23 [(63, .bool true), (10, i6 t4.2), (8, i6 t3.2), (7, pt nx3 0), (6, .slice A6 t2.2.2.length c6), (5, .slice A5 t2.2.1.length c5), (4, .slice A4 t2.1.length c4), (3, i6 t1.2), (2, pt nx1 0), (1, .slice (some ⟨nx0, 0, none⟩) 3 3)] ?_
   refine RL.nil (by kernel_rfl) ?_
   obtain rfl := Option.some.inj H
   exact QN.sb (hJ1 _ _ _ _ _ ⟨true, rfl, rfl, rfl, (Imm.le_refl _), HK1⟩) (.cons_cons _ (.cons_cons _ (.cons_cons _ .slnil))) (.refl _)
  ·have hc := (not_not_intro (bne_eq_false_iff_eq.1 hb))
   rw [hb]
   rw [if_neg hc] at H; clear hb
   refine RL.s 5 [(45, .bool ((t2.2.1.length : Int) != 2)), (10, i6 t4.2), (8, i6 t3.2), (7, pt nx3 0), (6, .slice A6 t2.2.2.length c6), (5, .slice A5 t2.2.1.length c5), (4, .slice A4 t2.1.length c4), (3, i6 t1.2), (2, pt nx1 0), (1, .slice (some ⟨nx0, 0, none⟩) 3 3)] ?_
   refine RL.cases ((t2.2.1.length : Int) != 2) (fun hb => ?_) (fun hb => ?_)
   ·have hc := (bne_iff_ne.1 hb)
    rw [hb]
    rw [if_pos hc] at H; clear hb
    refine RL.s 18 [(63, .bool true), (10, i6 t4.2), (8, i6 t3.2), (7, pt nx3 0), (6, .slice A6 t2.2.2.length c6), (5, .slice A5 t2.2.1.length c5), (4, .slice A4 t2.1.length c4), (3, i6 t1.2), (2, pt nx1 0), (1, .slice (some ⟨nx0, 0, none⟩) 3 3)] ?_
    refine RL.nil (by kernel_rfl) ?_
    obtain rfl := Option.some.inj H
    exact QN.sb (hJ1 _ _ _ _ _ ⟨true, rfl, rfl, rfl, (Imm.le_refl _), HK1⟩) (.cons_cons _ (.cons_cons _ (.cons_cons _ .slnil))) (.refl _)
   ·have hc := (not_not_intro (bne_eq_false_iff_eq.1 hb))
    rw [hb]
    rw [if_neg hc] at H; clear hb
    refine RL.s 5 [(50, .bool ((t2.2.2.length : Int) != 2)), (10, i6 t4.2), (8, i6 t3.2), (7, pt nx3 0), (6, .slice A6 t2.2.2.length c6), (5, .slice A5 t2.2.1.length c5), (4, .slice A4 t2.1.length c4), (3, i6 t1.2), (2, pt nx1 0), (1, .slice (some ⟨nx0, 0, none⟩) 3 3)] ?_
    refine RL.cases ((t2.2.2.length : Int) != 2) (fun hb => ?_) (fun hb => ?_)
    ·have hc := (bne_iff_ne.1 hb)
     rw [hb]
     rw [if_pos hc] at H; clear hb
     refine RL.s 13 [(63, .bool true), (10, i6 t4.2), (8, i6 t3.2), (7, pt nx3 0), (6, .slice A6 t2.2.2.length c6), (5, .slice A5 t2.2.1.length c5), (4, .slice A4 t2.1.length c4), (3, i6 t1.2), (2, pt nx1 0), (1, .slice (some ⟨nx0, 0, none⟩) 3 3)] ?_
     refine RL.nil (by kernel_rfl) ?_
     obtain rfl := Option.some.inj H
     exact QN.sb (hJ1 _ _ _ _ _ ⟨true, rfl, rfl, rfl, (Imm.le_refl _), HK1⟩) (.cons_cons _ (.cons_cons _ (.cons_cons _ .slnil))) (.refl _)
    ·have hc := (not_not_intro (bne_eq_false_iff_eq.1 hb))
     rw [hb]
     rw [if_neg hc] at H; clear hb
     refine RL.s 1 [(51, .slice A6 t2.2.2.length c6), (50, .bool false), (10, i6 t4.2), (8, i6 t3.2), (7, pt nx3 0), (6, .slice A6 t2.2.2.length c6), (5, .slice A5 t2.2.1.length c5), (4, .slice A4 t2.1.length c4), (3, i6 t1.2), (2, pt nx1 0), (1, .slice (some ⟨nx0, 0, none⟩) 3 3)] ?_
     have hib0 : (0 : Int) ≤ 0 := by decide
     obtain ⟨hib1, H⟩ := ifs H
     have hx011_ := hib0; have hx111_ := hib1
     refine RL.ownAddr (e := 27) (sz := 1) (S := A6) (n := t2.2.2.length) (cap := c6) (cs := cs6) 2 (by kernel_rfl) (by omega) (fun g11_ hA11_ => ?_)
     obtain ⟨A11_, c11_, hl11_, hr11_, hc11_⟩ := Ty.slice_own (Reps.ext (Imm.le_trans (Imm.le_trans (Imm.le_trans (Imm.le_trans (Imm.le_trans (Imm.le_trans (Imm.le_trans (Imm.le_trans hi7 hi8) hi9) hi10) hi11) hi12) hi13) hi14) hi15) hp6) 0 hib0 hib1
     refine RL.idx 1 .i64 0 hA11_ t2.2.2.length c6 (some 52) (by kernel_rfl) (by kernel_rfl) (T := 33) (e := 27) (by kernel_rfl) (by kernel_rfl) hib0 hib1 (K' := [(52, pt g11_ (0 + (0 : Int).toNat * 1)), (51, .slice A6 t2.2.2.length c6), (50, .bool false), (10, i6 t4.2), (8, i6 t3.2), (7, pt nx3 0), (6, .slice A6 t2.2.2.length c6), (5, .slice A5 t2.2.1.length c5), (4, .slice A4 t2.1.length c4), (3, i6 t1.2), (2, pt nx1 0), (1, .slice (some ⟨nx0, 0, none⟩) 3 3)]) (by kernel_rfl) ?_
     refine RL.simK (K' := [(57, .bool (((t2.2.2.getD (0 : Int).toNat []).length : Int) != 2)), (10, i6 t4.2), (8, i6 t3.2), (7, pt nx3 0), (6, .slice A6 t2.2.2.length c6), (5, .slice A5 t2.2.1.length c5), (4, .slice A4 t2.1.length c4), (3, i6 t1.2), (2, pt nx1 0), (1, .slice (some ⟨nx0, 0, none⟩) 3 3)]) [(⟨g11_, 0 + (0 : Int).toNat * 1, none⟩, .slice A11_ ((t2.2.2.getD (0 : Int).toNat []).length) c11_)] (RFacts.ownQ (e := 27) (sz := 1) (S := A6) (n := t2.2.2.length) (cap := c6) (cs := cs6) 2 (by kernel_rfl) hA11_ (0 + (0 : Int).toNat * 1) ((0 : Int).toNat * 1 + 0) (by omega) (hc11_ 0 _ rfl) (RFacts.nil _ _ _)) 5 [.r 0, .no, .no, .no, .no] (by kernel_rfl) (by kernel_rfl) ?_
     refine RL.cases (((t2.2.2.getD (0 : Int).toNat []).length : Int) != 2) (fun hb => ?_) (fun hb => ?_)
     ·have hc := (bne_iff_ne.1 hb)
      rw [hb]
      rw [if_pos hc] at H; clear hb
      refine RL.s 6 [(63, .bool true), (10, i6 t4.2), (8, i6 t3.2), (7, pt nx3 0), (6, .slice A6 t2.2.2.length c6), (5, .slice A5 t2.2.1.length c5), (4, .slice A4 t2.1.length c4), (3, i6 t1.2), (2, pt nx1 0), (1, .slice (some ⟨nx0, 0, none⟩) 3 3)] ?_
      refine RL.nil (by kernel_rfl) ?_
      obtain rfl := Option.some.inj H
      exact QN.sb (hJ1 _ _ _ _ _ ⟨true, rfl, rfl, rfl, (Imm.le_refl _), HK1⟩) (.cons_cons _ (.cons_cons _ (.cons_cons _ .slnil))) (.refl _)
     ·have hc := (not_not_intro (bne_eq_false_iff_eq.1 hb))
      rw [hb]
      rw [if_neg hc] at H; clear hb
      refine RL.s 1 [(58, .slice A6 t2.2.2.length c6), (57, .bool false), (10, i6 t4.2), (8, i6 t3.2), (7, pt nx3 0), (6, .slice A6 t2.2.2.length c6), (5, .slice A5 t2.2.1.length c5), (4, .slice A4 t2.1.length c4), (3, i6 t1.2), (2, pt nx1 0), (1, .slice (some ⟨nx0, 0, none⟩) 3 3)] ?_
      have hib0 : (0 : Int) ≤ 1 := by decide
      obtain ⟨hib1, H⟩ := ifs H
      have hx012_ := hib0; have hx112_ := hib1
      refine RL.ownAddr (e := 27) (sz := 1) (S := A6) (n := t2.2.2.length) (cap := c6) (cs := cs6) 2 (by kernel_rfl) (by omega) (fun g12_ hA12_ => ?_)
      obtain ⟨A12_, c12_, hl12_, hr12_, hc12_⟩ := Ty.slice_own (Reps.ext (Imm.le_trans (Imm.le_trans (Imm.le_trans (Imm.le_trans (Imm.le_trans (Imm.le_trans (Imm.le_trans (Imm.le_trans hi7 hi8) hi9) hi10) hi11) hi12) hi13) hi14) hi15) hp6) 1 hib0 hib1
      refine RL.idx 1 .i64 1 hA12_ t2.2.2.length c6 (some 59) (by kernel_rfl) (by kernel_rfl) (T := 33) (e := 27) (by kernel_rfl) (by kernel_rfl) hib0 hib1 (K' := [(59, pt g12_ (0 + (1 : Int).toNat * 1)), (58, .slice A6 t2.2.2.length c6), (57, .bool false), (10, i6 t4.2), (8, i6 t3.2), (7, pt nx3 0), (6, .slice A6 t2.2.2.length c6), (5, .slice A5 t2.2.1.length c5), (4, .slice A4 t2.1.length c4), (3, i6 t1.2), (2, pt nx1 0), (1, .slice (some ⟨nx0, 0, none⟩) 3 3)]) (by kernel_rfl) ?_
      refine RL.simK (K' := [(63, .bool (((t2.2.2.getD (1 : Int).toNat []).length : Int) != 2)), (10, i6 t4.2), (8, i6 t3.2), (7, pt nx3 0), (6, .slice A6 t2.2.2.length c6), (5, .slice A5 t2.2.1.length c5), (4, .slice A4 t2.1.length c4), (3, i6 t1.2), (2, pt nx1 0), (1, .slice (some ⟨nx0, 0, none⟩) 3 3)]) [(⟨g12_, 0 + (1 : Int).toNat * 1, none⟩, .slice A12_ ((t2.2.2.getD (1 : Int).toNat []).length) c12_)] (RFacts.ownQ (e := 27) (sz := 1) (S := A6) (n := t2.2.2.length) (cap := c6) (cs := cs6) 2 (by kernel_rfl) hA12_ (0 + (1 : Int).toNat * 1) ((1 : Int).toNat * 1 + 0) (by omega) (hc12_ 0 _ rfl) (RFacts.nil _ _ _)) 4 [.r 0, .no, .no, .no] (by kernel_rfl) (by kernel_rfl) ?_
      refine RL.nil (by kernel_rfl) ?_
      obtain rfl := Option.some.inj H
      exact QN.sb (hJ1 _ _ _ _ _ ⟨(((t2.2.2.getD (1 : Int).toNat []).length : Int) != 2), rfl, rfl, rfl, (Imm.le_refl _), HK1⟩) (.cons_cons _ (.cons_cons _ (.cons_cons _ .slnil))) (.refl _)

end Go.Proofs.Ytihmbmeelheinaa
namespace Go.Proofs.Ytihmbmeelheinaa
open Go Go.Proofs.Ytihmbmeelheinaa.RW
set_option linter.unusedVariables false
set_option maxRecDepth 100000
set_option maxHeartbeats 8000000

/-! ### armillaryref23_Value: function 26, armillary/armillaryref23.Value -/
noncomputable def K26_0 : Code := cBody Try.f26
def armillaryref23_Value.k1  : (Unit) ⊕ (Int) → Option (Int)
 | .inl () => (some 0)
 | .inr r_ => some r_
def armillaryref23_Value.l1 (a0 : List S48) (a1 : Int) (a2 : Int) : Nat → Int → Option ((Unit) ⊕ (Int))
 | 0, _ => none
 | k + 1, x1 => (if x1 < (a0.length : Int) then ((if 0 ≤ x1 then (if x1 < (a0.length : Int) then (if ((a0.getD (x1).toNat z48).f0) = a1 then (if 0 ≤ x1 then (if x1 < (a0.length : Int) then (some (((a0.getD (x1).toNat z48).f1) == a2)) else none) else none) else (some false)) else none) else none).bind (fun x2 => (if x2 = true then (if 0 ≤ x1 then (if x1 < (a0.length : Int) then (some (Sum.inr ((a0.getD (x1).toNat z48).f2))) else none) else none) else (armillaryref23_Value.l1 a0 a1 a2 k (W .i64 (x1 + 1)))))) else (some (Sum.inl ())))
def armillaryref23_Value.f (k : Nat) (a0 : List S48) (a1 : Int) (a2 : Int) : Option (Int) := ((armillaryref23_Value.l1 a0 a1 a2 k 0).bind (armillaryref23_Value.k1))
def armillaryref23_Value.Post (I : Imm) (w : World) (r : Int) (v : Value) (w' : World) : Prop :=
 ∃ (J : Imm), v = .int .i64 r ∧ Got w w' I J []
theorem armillaryref23_Value.calls (k : Nat) (I0 : Imm) (a0 : List S48) (Ap0 : Option Addr) (cp0 : Nat) (a1 : Int) (a2 : Int) (w : World) (hI : I0.at_ w) (hlp0 : a0.length ≤ cp0) (hrp0 : Rd t48 I0 Ap0 a0) (r : Int) (h : armillaryref23_Value.f k a0 a1 a2 = some r) :
  Calls Try.prog 26 [.slice Ap0 a0.length cp0, i6 a1, i6 a2].toArray w fun e w' => ∃ v, e = .returned v ∧ armillaryref23_Value.Post I0 w r v w' := by
 have H : ((armillaryref23_Value.l1 a0 a1 a2 k 0).bind (armillaryref23_Value.k1)) = some r := h
 clear h
 refine calls_body Try.func26 (by kernel_rfl) 35 (by kernel_rfl) (by kernel_rfl) ⟨w, fun _ => False, I0⟩ I0 [] [(0, .slice Ap0 a0.length cp0), (1, i6 a1), (2, i6 a2)] (by kernel_rfl) (Sat.start w _ I0 hI) ?_
 generalize w.heap.size = nx0
 show OK _ K26_0 _ _ _ _ _ _ _ _
 refine OK.sr ?_
 refine RL.st 1 [(0, .slice Ap0 a0.length cp0), (1, i6 a1), (2, i6 a2)] ?_
 refine OK.sq ?_
 refine OK.sr ?_
 refine RL.st 1 [(7, i6 0), (0, .slice Ap0 a0.length cp0), (1, i6 a1), (2, i6 a2)] ?_
 refine OK.join (fun K' I' _ L' X' => K' = [] ∧ L' = [] ∧ X' = [] ∧ Imm.le I0 I' ∧ armillaryref23_Value.k1 (Sum.inl ()) = some r) ?_ ?_
 ·rintro _ I1 nx1 _ _ ⟨rfl, rfl, rfl, hi1, H⟩
  rw [armillaryref23_Value.k1] at H
  refine QN.then_ ?_
  refine OK.sr ?_
  refine RL.st 1 [(6, i6 0)] ?_
  refine OK.re ?_
  obtain rfl := Option.some.inj H
  refine QN.body rfl [] (RFacts.nil _ _ _) (.no) (i6 0) (by kernel_rfl) (by kernel_rfl) (by kernel_rfl) ?_ _ (.inr rfl)
  exact fun w' hs' => ⟨_, rfl, I1, rfl, hs'.got _ .slnil⟩
 ·intro Q_1 hJ1 hQ1
  obtain ⟨y1, H, HK1⟩ := bnd H
  refine OK.bk 0 ?_
  refine OK.sub (K' := [(0, .slice Ap0 a0.length cp0), (1, i6 a1), (2, i6 a2), (7, i6 0)]) (L' := []) (by kernel_rfl) .slnil (.refl _) ?_
  refine OK.lp (fun n_ K' I' _ L' X' => ∃ (x1 : Int), K' = [(0, .slice Ap0 a0.length cp0), (1, i6 a1), (2, i6 a2), (7, i6 x1)] ∧ L' = [] ∧ X' = [] ∧ Imm.le I0 I' ∧ armillaryref23_Value.l1 a0 a1 a2 n_ x1 = some y1) k ⟨0, rfl, rfl, rfl, (Imm.le_refl _), H⟩ ?_ ?_
  ·rintro _ _ _ _ _ ⟨x1, rfl, rfl, rfl, _, H⟩
   cases H
  ·rintro kq1 _ I2 nx2 _ _ ⟨x1, rfl, rfl, rfl, hi2, H⟩ Q_l1 hJ2 hQ2
   rw [armillaryref23_Value.l1] at H
   refine OK.sq ?_
   refine OK.sr ?_
   refine RL.st 4 [(11, .bool (decide (x1 < (a0.length : Int)))), (0, .slice Ap0 a0.length cp0), (1, i6 a1), (2, i6 a2), (7, i6 x1)] ?_
   refine OK.cd (decide (x1 < (a0.length : Int))) (fun hb => ?_) (fun hb => ?_)
   ·skip
    have hc := (of_decide_eq_true hb)
    rw [if_pos hc] at H
    clear hb
    refine OK.skt ?_
    refine OK.sq ?_
    refine OK.bk 1 ?_
    refine OK.sq ?_
    refine OK.join (fun K' I' _ L' X' => ∃ (x2 : Bool), K' = [(0, .slice Ap0 a0.length cp0), (1, i6 a1), (2, i6 a2), (7, i6 x1), (29, .bool x2)] ∧ L' = [] ∧ X' = [] ∧ Imm.le I2 I' ∧ (if x2 = true then (if 0 ≤ x1 then (if x1 < (a0.length : Int) then (some (Sum.inr ((a0.getD (x1).toNat z48).f2))) else none) else none) else (armillaryref23_Value.l1 a0 a1 a2 kq1 (W .i64 (x1 + 1)))) = some y1) ?_ ?_
    ·rintro _ I3 nx3 _ _ ⟨x2, rfl, rfl, rfl, hi3, H⟩
     replace H : (if x2 = true then (if 0 ≤ x1 then (if x1 < (a0.length : Int) then (some (Sum.inr ((a0.getD (x1).toNat z48).f2))) else none) else none) else (armillaryref23_Value.l1 a0 a1 a2 kq1 (W .i64 (x1 + 1)))) = some y1 := H
     refine QN.then_ ?_
     refine OK.cd x2 (fun hb => ?_) (fun hb => ?_)
     ·skip
      have hc := hb
      rw [if_pos hc] at H
      clear hb
      refine OK.sr ?_
      refine RL.s 2 [(31, i6 x1), (30, .slice Ap0 a0.length cp0)] ?_
      obtain ⟨hib0, H⟩ := ifs H
      obtain ⟨hib1, H⟩ := ifs H
      obtain ⟨g1_, o1_, hA1_, hc1_⟩ := t48_at (Rd.ext (Imm.le_trans hi2 hi3) hrp0) x1 hib0 hib1
      refine RL.idx 3 .i64 x1 hA1_ a0.length cp0 (some 32) (by kernel_rfl) (by kernel_rfl) (T := 22) (e := 48) (by kernel_rfl) (by kernel_rfl) hib0 hib1 (K' := [(32, pt g1_ (o1_ + (x1).toNat * 3)), (31, i6 x1), (30, .slice Ap0 a0.length cp0)]) (by kernel_rfl) ?_
      refine RL.simK (K' := [(6, i6 ((a0.getD (x1).toNat z48).f2))]) [(⟨g1_, o1_ + (x1).toNat * 3 + 2, none⟩, i6 ((a0.getD (x1).toNat z48).f2))] (RFacts.imm (hc1_ 2 _ rfl) (RFacts.nil _ _ _)) 3 [.no, .r 0, .no] (by kernel_rfl) (by kernel_rfl) ?_
      refine RL.nt ?_
      refine OK.re ?_
      refine QN.blkR ?_
      refine QN.thenR ?_
      refine QN.outR hQ2 ?_
      refine QN.blkR ?_
      refine QN.outR hQ1 ?_
      refine QN.thenR ?_
      obtain rfl := Option.some.inj H
      replace H : some ((a0.getD (x1).toNat z48).f2) = some r := HK1
      obtain rfl := Option.some.inj H
      refine QN.body rfl [] (RFacts.nil _ _ _) (.no) (i6 ((a0.getD (x1).toNat z48).f2)) (by kernel_rfl) (by kernel_rfl) (by kernel_rfl) ?_ _ (.inr rfl)
      exact fun w' hs' => ⟨_, rfl, I3, rfl, hs'.got _ .slnil⟩
     ·skip
      have hc := (Bool.eq_false_iff.1 hb)
      rw [if_neg hc] at H
      clear hb
      refine OK.sk ?_
      refine QN.blkN ?_
      refine QN.then_ ?_
      refine OK.rg ?_
      refine RL.s 3 [(7, i6 (W .i64 (x1 + 1))), (0, .slice Ap0 a0.length cp0), (1, i6 a1), (2, i6 a2)] ?_
      refine RL.nil (by kernel_rfl) ?_
      exact QN.sb (hJ2 _ _ _ _ _ ⟨W .i64 (x1 + 1), rfl, rfl, rfl, (Imm.le_trans hi2 hi3), H⟩) .slnil (.refl _)
    ·intro Q_2 hJ3 hQ3
     obtain ⟨y2, H, HK2⟩ := bnd H
     refine OK.rg ?_
     refine RL.s 2 [(15, i6 x1), (14, .slice Ap0 a0.length cp0), (0, .slice Ap0 a0.length cp0), (1, i6 a1), (2, i6 a2), (7, i6 x1)] ?_
     obtain ⟨hib0, H⟩ := ifs H
     obtain ⟨hib1, H⟩ := ifs H
     obtain ⟨g2_, o2_, hA2_, hc2_⟩ := t48_at (Rd.ext hi2 hrp0) x1 hib0 hib1
     refine RL.idx 3 .i64 x1 hA2_ a0.length cp0 (some 16) (by kernel_rfl) (by kernel_rfl) (T := 22) (e := 48) (by kernel_rfl) (by kernel_rfl) hib0 hib1 (K' := [(16, pt g2_ (o2_ + (x1).toNat * 3)), (15, i6 x1), (14, .slice Ap0 a0.length cp0), (0, .slice Ap0 a0.length cp0), (1, i6 a1), (2, i6 a2), (7, i6 x1)]) (by kernel_rfl) ?_
     refine RL.simK (K' := [(21, .bool (((a0.getD (x1).toNat z48).f0) == a1)), (0, .slice Ap0 a0.length cp0), (1, i6 a1), (2, i6 a2), (7, i6 x1)]) [(⟨g2_, o2_ + (x1).toNat * 3, none⟩, i6 ((a0.getD (x1).toNat z48).f0))] (RFacts.imm (hc2_ 0 _ rfl) (RFacts.nil _ _ _)) 5 [.no, .r 0, .no, .no, .no] (by kernel_rfl) (by kernel_rfl) ?_
     refine RL.cases (((a0.getD (x1).toNat z48).f0) == a1) (fun hb => ?_) (fun hb => ?_)
     ·have hc := (beq_iff_eq.1 hb)
      rw [hb]
      rw [if_pos hc] at H; clear hb
      refine RL.s 2 [(23, i6 x1), (22, .slice Ap0 a0.length cp0), (21, .bool true), (0, .slice Ap0 a0.length cp0), (1, i6 a1), (2, i6 a2), (7, i6 x1)] ?_
      obtain ⟨hib0, H⟩ := ifs H
      obtain ⟨hib1, H⟩ := ifs H
      obtain ⟨g3_, o3_, hA3_, hc3_⟩ := t48_at (Rd.ext hi2 hrp0) x1 hib0 hib1
      refine RL.idx 3 .i64 x1 hA3_ a0.length cp0 (some 24) (by kernel_rfl) (by kernel_rfl) (T := 22) (e := 48) (by kernel_rfl) (by kernel_rfl) hib0 hib1 (K' := [(24, pt g3_ (o3_ + (x1).toNat * 3)), (23, i6 x1), (22, .slice Ap0 a0.length cp0), (21, .bool true), (0, .slice Ap0 a0.length cp0), (1, i6 a1), (2, i6 a2), (7, i6 x1)]) (by kernel_rfl) ?_
      refine RL.simK (K' := [(29, .bool (((a0.getD (x1).toNat z48).f1) == a2)), (0, .slice Ap0 a0.length cp0), (1, i6 a1), (2, i6 a2), (7, i6 x1)]) [(⟨g3_, o3_ + (x1).toNat * 3 + 1, none⟩, i6 ((a0.getD (x1).toNat z48).f1))] (RFacts.imm (hc3_ 1 _ rfl) (RFacts.nil _ _ _)) 5 [.no, .r 0, .no, .no, .no] (by kernel_rfl) (by kernel_rfl) ?_
      refine RL.nil (by kernel_rfl) ?_
      obtain rfl := Option.some.inj H
      exact QN.sb (hJ3 _ _ _ _ _ ⟨(((a0.getD (x1).toNat z48).f1) == a2), rfl, rfl, rfl, (Imm.le_refl _), HK2⟩) .slnil (.refl _)
     ·have hc := (beq_eq_false_iff_ne.1 hb)
      rw [hb]
      rw [if_neg hc] at H; clear hb
      refine RL.s 8 [(29, .bool false), (0, .slice Ap0 a0.length cp0), (1, i6 a1), (2, i6 a2), (7, i6 x1)] ?_
      refine RL.nil (by kernel_rfl) ?_
      obtain rfl := Option.some.inj H
      exact QN.sb (hJ3 _ _ _ _ _ ⟨false, rfl, rfl, rfl, (Imm.le_refl _), HK2⟩) .slnil (.refl _)
   ·skip
    have hc := (of_decide_eq_false hb)
    rw [if_neg hc] at H
    clear hb
    refine OK.ex 0 ?_
    refine QN.thenE ?_
    refine QN.outE hQ2 ?_
    refine QN.blkE ?_
    obtain rfl := Option.some.inj H
    exact QN.sb (hJ1 _ _ _ _ _ ⟨rfl, rfl, rfl, hi2, HK1⟩) .slnil (.refl _)

end Go.Proofs.Ytihmbmeelheinaa
namespace Go.Proofs.Ytihmbmeelheinaa
open Go Go.Proofs.Ytihmbmeelheinaa.RW
set_option linter.unusedVariables false
set_option maxRecDepth 100000
set_option maxHeartbeats 8000000

/-! ### armillaryref23_Made: function 14, armillary/armillaryref23.Made -/
noncomputable def K14_0 : Code := cBody Try.f14
noncomputable def O14_22 : List Oper := cOps (cL (cL (cL (cR (cL (cL (cR (cL (cR (cR K14_0))))))))))
def armillaryref23_Made.k1  (x1 : List S48) : Option (List S48) := (some x1)
def armillaryref23_Made.l1 (a0 : List S48) : Nat → (List S48) → Int → Option (List S48)
 | 0, _, _ => none
 | k + 1, x2, x3 => ((if x3 < (a0.length : Int) then (some (decide ((x2.length : Int) < 36))) else (some false)).bind (fun x4 => (if x4 = true then (if 0 ≤ x3 then (if x3 < (a0.length : Int) then (if 0 ≤ x3 then (if x3 < (a0.length : Int) then (if 0 ≤ x3 then (if x3 < (a0.length : Int) then ((armillaryref23_Value.f k x2 (W .i64 (((bAnd .i64 ((a0.getD (x3).toNat z48).f0) 255).tmod 6) * 7)) (W .i64 (((bAnd .i64 ((a0.getD (x3).toNat z48).f1) 255).tmod 6) * 3))).bind fun t1 => ((if t1 = 0 then (if (x2.length + [(⟨W .i64 (((bAnd .i64 ((a0.getD (x3).toNat z48).f0) 255).tmod 6) * 7), W .i64 (((bAnd .i64 ((a0.getD (x3).toNat z48).f1) 255).tmod 6) * 3), W .i64 (1 + ((W .i64 ((((a0.getD (x3).toNat z48).f2).tmod 1048576) + 1048576)).tmod 1048576))⟩ : S48)].length) * 24 ≤ 140737488355328 then (some (x2 ++ [(⟨W .i64 (((bAnd .i64 ((a0.getD (x3).toNat z48).f0) 255).tmod 6) * 7), W .i64 (((bAnd .i64 ((a0.getD (x3).toNat z48).f1) 255).tmod 6) * 3), W .i64 (1 + ((W .i64 ((((a0.getD (x3).toNat z48).f2).tmod 1048576) + 1048576)).tmod 1048576))⟩ : S48)])) else none) else (some x2)).bind (fun x5 => (armillaryref23_Made.l1 a0 k x5 (W .i64 (x3 + 1)))))) else none) else none) else none) else none) else none) else none) else (some x2))))
def armillaryref23_Made.f (k : Nat) (a0 : List S48) : Option (List S48) := ((armillaryref23_Made.l1 a0 k ([] : List S48) 0).bind (armillaryref23_Made.k1))
def armillaryref23_Made.Post (I : Imm) (w : World) (r : List S48) (v : Value) (w' : World) : Prop :=
 ∃ (J : Imm) (A0 : Option Addr) (c0 : Nat) (cs0 : List Value), v = .slice A0 r.length c0 ∧ Got w w' I J [orow 48 3 A0 r.length c0 cs0] ∧ Reps t48 J r cs0
noncomputable def a14_22n : List Nat := [0, 0, 3, 7, 15, 31, 63, 127, 0, 0, 768, 1792, 3840, 7936, 16128, 32512, 0, 0, 196608, 458752, 983040, 2031616, 4128768, 8323072, 16711680, 33554431, 0, 134217727]
theorem a14_22 : ancs O14_22 [] = a14_22n := by kernel_rfl
theorem a14_22o : drawOk O14_22 a14_22n 27 = true := by kernel_rfl
noncomputable def u14d1l  : List Ld :=
 [⟨26, fun x => pt ((x 0).2.1) 0, fun x => [RW.kblk (x 0).2.1 48 [i6 0, i6 0, i6 0]], fun x J => True, fun x J J' h f => trivial⟩]
noncomputable def u14d1g (x3 : Int) (g1_ : Nat) (o1_ : Nat) (g2_ : Nat) (o2_ : Nat) (g3_ : Nat) (o3_ : Nat) : List (Nat × ((Nat → Wt) → Value)) := [(2, fun u => pt g1_ (o1_ + (x3).toNat * 3)), (10, fun u => pt g2_ (o2_ + (x3).toNat * 3)), (18, fun u => pt g3_ (o3_ + (x3).toNat * 3))]
noncomputable def u14d1q (a0 : List S48) (Ap0 : Option Addr) (cp0 : Nat) (x2 : List S48) (A2 : Option Addr) (c2 : Nat) (x3 : Int) (x4 : Bool) (g1_ : Nat) (o1_ : Nat) (g2_ : Nat) (o2_ : Nat) (g3_ : Nat) (o3_ : Nat) (u : Nat → Wt) : Option (List Value × List (Nat × Value) × List (Nat × Nat)) := qSim Try.prog [(⟨g1_, o1_ + (x3).toNat * 3, none⟩, i6 ((a0.getD (x3).toNat z48).f0)), (⟨g2_, o2_ + (x3).toNat * 3 + 1, none⟩, i6 ((a0.getD (x3).toNat z48).f1)), (⟨g3_, o3_ + (x3).toNat * 3 + 2, none⟩, i6 ((a0.getD (x3).toNat z48).f2))] [] O14_22 ⟨56, []⟩ (Ld.vl u14d1l) (u14d1g x3 g1_ o1_ g2_ o2_ g3_ o3_) u [.no, .no, .no, .no, .r 0, .no, .no, .no, .no, .no, .no, .no, .r 1, .no, .no, .no, .no, .no, .no, .no, .r 2, .no, .no, .no, .no, .no, .no] 0 (O14_22.take 27) [(0, .slice Ap0 a0.length cp0), (3, .slice A2 x2.length c2), (4, i6 x3), (15, .bool x4)]
noncomputable def u14d1s (a0 : List S48) (Ap0 : Option Addr) (cp0 : Nat) (x3 : Int) (g1_ : Nat) (o1_ : Nat) (g2_ : Nat) (o2_ : Nat) (g3_ : Nat) (o3_ : Nat) (u : Nat → Wt) : List Value := [.slice Ap0 a0.length cp0, i6 x3, pt g1_ (o1_ + (x3).toNat * 3), pt g1_ (o1_ + (x3).toNat * 3), i6 ((a0.getD (x3).toNat z48).f0), i6 (bAnd .i64 ((a0.getD (x3).toNat z48).f0) 255), i6 ((bAnd .i64 ((a0.getD (x3).toNat z48).f0) 255).tmod 6), i6 (W .i64 (((bAnd .i64 ((a0.getD (x3).toNat z48).f0) 255).tmod 6) * 7)), .slice Ap0 a0.length cp0, i6 x3, pt g2_ (o2_ + (x3).toNat * 3), pt g2_ (o2_ + (x3).toNat * 3 + 1), i6 ((a0.getD (x3).toNat z48).f1), i6 (bAnd .i64 ((a0.getD (x3).toNat z48).f1) 255), i6 ((bAnd .i64 ((a0.getD (x3).toNat z48).f1) 255).tmod 6), i6 (W .i64 (((bAnd .i64 ((a0.getD (x3).toNat z48).f1) 255).tmod 6) * 3)), .slice Ap0 a0.length cp0, i6 x3, pt g3_ (o3_ + (x3).toNat * 3), pt g3_ (o3_ + (x3).toNat * 3 + 2), i6 ((a0.getD (x3).toNat z48).f2), i6 (((a0.getD (x3).toNat z48).f2).tmod 1048576), i6 (W .i64 ((((a0.getD (x3).toNat z48).f2).tmod 1048576) + 1048576)), i6 ((W .i64 ((((a0.getD (x3).toNat z48).f2).tmod 1048576) + 1048576)).tmod 1048576), i6 (W .i64 (1 + ((W .i64 ((((a0.getD (x3).toNat z48).f2).tmod 1048576) + 1048576)).tmod 1048576))), .agg #[i6 (W .i64 (((bAnd .i64 ((a0.getD (x3).toNat z48).f0) 255).tmod 6) * 7)), i6 (W .i64 (((bAnd .i64 ((a0.getD (x3).toNat z48).f1) 255).tmod 6) * 3)), i6 (W .i64 (1 + ((W .i64 ((((a0.getD (x3).toNat z48).f2).tmod 1048576) + 1048576)).tmod 1048576)))], pt ((u 26 0).2.1) 0]
noncomputable def u14d1f (a0 : List S48) (Ap0 : Option Addr) (cp0 : Nat) (x2 : List S48) (A2 : Option Addr) (c2 : Nat) (x3 : Int) (x4 : Bool) (g1_ : Nat) (o1_ : Nat) (g2_ : Nat) (o2_ : Nat) (g3_ : Nat) (o3_ : Nat) (i : Nat) (u : Nat → Wt) : List (Nat × Value) := foldPut ⟨56, []⟩ [(0, .slice Ap0 a0.length cp0), (3, .slice A2 x2.length c2), (4, i6 x3), (15, .bool x4)] (O14_22.take i) (((u14d1s a0 Ap0 cp0 x3 g1_ o1_ g2_ o2_ g3_ o3_) u).take i)
theorem u14d1v (a0 : List S48) (Ap0 : Option Addr) (cp0 : Nat) (x2 : List S48) (A2 : Option Addr) (c2 : Nat) (x3 : Int) (x4 : Bool) (g1_ : Nat) (o1_ : Nat) (g2_ : Nat) (o2_ : Nat) (g3_ : Nat) (o3_ : Nat) (u : Nat → Wt) : (u14d1q a0 Ap0 cp0 x2 A2 c2 x3 x4 g1_ o1_ g2_ o2_ g3_ o3_ u).map (fun x => (x.1, x.2.1)) = some ((u14d1s a0 Ap0 cp0 x3 g1_ o1_ g2_ o2_ g3_ o3_) u, (u14d1f a0 Ap0 cp0 x2 A2 c2 x3 x4 g1_ o1_ g2_ o2_ g3_ o3_ 27) u) := by kernel_rfl
theorem u14d1e (a0 : List S48) (Ap0 : Option Addr) (cp0 : Nat) (x2 : List S48) (A2 : Option Addr) (c2 : Nat) (x3 : Int) (x4 : Bool) (g1_ : Nat) (o1_ : Nat) (g2_ : Nat) (o2_ : Nat) (g3_ : Nat) (o3_ : Nat) (u : Nat → Wt) : (u14d1q a0 Ap0 cp0 x2 A2 c2 x3 x4 g1_ o1_ g2_ o2_ g3_ o3_ u).map (fun x => x.2.2.map (·.1)) = (u14d1q a0 Ap0 cp0 x2 A2 c2 x3 x4 g1_ o1_ g2_ o2_ g3_ o3_ u).map (fun x => x.2.2.map (·.2)) := by kernel_rfl
theorem armillaryref23_Made.calls (k : Nat) (I0 : Imm) (a0 : List S48) (Ap0 : Option Addr) (cp0 : Nat) (w : World) (hI : I0.at_ w) (hlp0 : a0.length ≤ cp0) (hrp0 : Rd t48 I0 Ap0 a0) (r : List S48) (h : armillaryref23_Made.f k a0 = some r) :
  Calls Try.prog 14 [.slice Ap0 a0.length cp0].toArray w fun e w' => ∃ v, e = .returned v ∧ armillaryref23_Made.Post I0 w r v w' := by
 have H : ((armillaryref23_Made.l1 a0 k ([] : List S48) 0).bind (armillaryref23_Made.k1)) = some r := h
 clear h
 refine calls_body Try.func14 (by kernel_rfl) 56 (by kernel_rfl) (by kernel_rfl) ⟨w, fun _ => False, I0⟩ I0 [] [(0, .slice Ap0 a0.length cp0)] (by kernel_rfl) (Sat.start w _ I0 hI) ?_
 generalize w.heap.size = nx0
 show OK _ K14_0 _ _ _ _ _ _ _ _
 refine OK.sr ?_
 refine RL.st 1 [(0, .slice Ap0 a0.length cp0)] ?_
 refine OK.sr ?_
 refine RL.spt 2 [(3, .slice (some ⟨nx0, 0, none⟩) 0 0), (0, .slice Ap0 a0.length cp0)] (nx0 + 1) [⟨nx0, [], 48⟩] ?_
 refine OK.sq ?_
 refine OK.sr ?_
 refine RL.st 1 [(4, i6 0), (3, .slice (some ⟨nx0, 0, none⟩) 0 0), (0, .slice Ap0 a0.length cp0)] ?_
 refine OK.join (fun K' I' _ L' X' => ∃ (x1 : List S48) (A1 : Option Addr) (c1 : Nat) (cs1 : List Value), K' = [(3, .slice A1 x1.length c1)] ∧ L' = [] ∧ X' = [orow 48 3 A1 x1.length c1 cs1] ∧ Imm.le I0 I' ∧ Reps t48 I' x1 cs1 ∧ armillaryref23_Made.k1 x1 = some r) ?_ ?_
 ·rintro _ I1 nx1 _ _ ⟨x1, A1, c1, cs1, rfl, rfl, rfl, hi1, hp1, H⟩
  rw [armillaryref23_Made.k1] at H
  refine QN.then_ ?_
  refine OK.sr ?_
  refine RL.st 2 [(2, .slice A1 x1.length c1)] ?_
  refine OK.re ?_
  obtain rfl := Option.some.inj H
  refine QN.body rfl [] (RFacts.nil _ _ _) (.no) (.slice A1 x1.length c1) (by kernel_rfl) (by kernel_rfl) (by kernel_rfl) ?_ _ (.inr rfl)
  exact fun w' hs' => ⟨_, rfl, I1, A1, c1, cs1, rfl, hs'.got _ (.cons_cons _ .slnil), hp1⟩
 ·intro Q_1 hJ1 hQ1
  obtain ⟨y1, H, HK1⟩ := bnd H
  refine OK.bk 0 ?_
  refine OK.toRow (b := ⟨nx0, [], 48⟩) 0 0 3 (by kernel_rfl) (by kernel_rfl) (by decide) ?_
  have hp5 : Reps t48 I0 ([] : List S48) [] := rfl
  refine OK.norm (L' := []) (X' := [orow 48 3 (some ⟨nx0, 0, none⟩) (([] : List S48).length) 0 []]) rfl rfl (by kernel_rfl) (by kernel_rfl) ?_
  refine OK.sub (K' := [(0, .slice Ap0 a0.length cp0), (3, .slice (some ⟨nx0, 0, none⟩) 0 0), (4, i6 0)]) (L' := []) (by kernel_rfl) .slnil (.refl _) ?_
  refine OK.lp (fun n_ K' I' _ L' X' => ∃ (x2 : List S48) (x3 : Int) (A2 : Option Addr) (c2 : Nat) (cs2 : List Value), K' = [(0, .slice Ap0 a0.length cp0), (3, .slice A2 x2.length c2), (4, i6 x3)] ∧ L' = [] ∧ X' = [orow 48 3 A2 x2.length c2 cs2] ∧ Imm.le I0 I' ∧ Reps t48 I' x2 cs2 ∧ armillaryref23_Made.l1 a0 n_ x2 x3 = some y1) k ⟨([] : List S48), 0, (some ⟨nx0, 0, none⟩), 0, [], rfl, rfl, rfl, (Imm.le_refl _), hp5, H⟩ ?_ ?_
  ·rintro _ _ _ _ _ ⟨x2, x3, A2, c2, cs2, rfl, rfl, rfl, _, hp2, H⟩
   cases H
  ·rintro kq1 _ I2 nx2 _ _ ⟨x2, x3, A2, c2, cs2, rfl, rfl, rfl, hi2, hp2, H⟩ Q_l1 hJ2 hQ2
   rw [armillaryref23_Made.l1] at H
   refine OK.sq ?_
   refine OK.sq ?_
   refine OK.join (fun K' I' _ L' X' => ∃ (x4 : Bool), K' = [(0, .slice Ap0 a0.length cp0), (3, .slice A2 x2.length c2), (4, i6 x3), (15, .bool x4)] ∧ L' = [] ∧ X' = [orow 48 3 A2 x2.length c2 cs2] ∧ Imm.le I2 I' ∧ (if x4 = true then (if 0 ≤ x3 then (if x3 < (a0.length : Int) then (if 0 ≤ x3 then (if x3 < (a0.length : Int) then (if 0 ≤ x3 then (if x3 < (a0.length : Int) then ((armillaryref23_Value.f kq1 x2 (W .i64 (((bAnd .i64 ((a0.getD (x3).toNat z48).f0) 255).tmod 6) * 7)) (W .i64 (((bAnd .i64 ((a0.getD (x3).toNat z48).f1) 255).tmod 6) * 3))).bind fun t1 => ((if t1 = 0 then (if (x2.length + [(⟨W .i64 (((bAnd .i64 ((a0.getD (x3).toNat z48).f0) 255).tmod 6) * 7), W .i64 (((bAnd .i64 ((a0.getD (x3).toNat z48).f1) 255).tmod 6) * 3), W .i64 (1 + ((W .i64 ((((a0.getD (x3).toNat z48).f2).tmod 1048576) + 1048576)).tmod 1048576))⟩ : S48)].length) * 24 ≤ 140737488355328 then (some (x2 ++ [(⟨W .i64 (((bAnd .i64 ((a0.getD (x3).toNat z48).f0) 255).tmod 6) * 7), W .i64 (((bAnd .i64 ((a0.getD (x3).toNat z48).f1) 255).tmod 6) * 3), W .i64 (1 + ((W .i64 ((((a0.getD (x3).toNat z48).f2).tmod 1048576) + 1048576)).tmod 1048576))⟩ : S48)])) else none) else (some x2)).bind (fun x5 => (armillaryref23_Made.l1 a0 kq1 x5 (W .i64 (x3 + 1)))))) else none) else none) else none) else none) else none) else none) else (some x2)) = some y1) ?_ ?_
   ·rintro _ I3 nx3 _ _ ⟨x4, rfl, rfl, rfl, hi3, H⟩
    replace H : (if x4 = true then (if 0 ≤ x3 then (if x3 < (a0.length : Int) then (if 0 ≤ x3 then (if x3 < (a0.length : Int) then (if 0 ≤ x3 then (if x3 < (a0.length : Int) then ((armillaryref23_Value.f kq1 x2 (W .i64 (((bAnd .i64 ((a0.getD (x3).toNat z48).f0) 255).tmod 6) * 7)) (W .i64 (((bAnd .i64 ((a0.getD (x3).toNat z48).f1) 255).tmod 6) * 3))).bind fun t1 => ((if t1 = 0 then (if (x2.length + [(⟨W .i64 (((bAnd .i64 ((a0.getD (x3).toNat z48).f0) 255).tmod 6) * 7), W .i64 (((bAnd .i64 ((a0.getD (x3).toNat z48).f1) 255).tmod 6) * 3), W .i64 (1 + ((W .i64 ((((a0.getD (x3).toNat z48).f2).tmod 1048576) + 1048576)).tmod 1048576))⟩ : S48)].length) * 24 ≤ 140737488355328 then (some (x2 ++ [(⟨W .i64 (((bAnd .i64 ((a0.getD (x3).toNat z48).f0) 255).tmod 6) * 7), W .i64 (((bAnd .i64 ((a0.getD (x3).toNat z48).f1) 255).tmod 6) * 3), W .i64 (1 + ((W .i64 ((((a0.getD (x3).toNat z48).f2).tmod 1048576) + 1048576)).tmod 1048576))⟩ : S48)])) else none) else (some x2)).bind (fun x5 => (armillaryref23_Made.l1 a0 kq1 x5 (W .i64 (x3 + 1)))))) else none) else none) else none) else none) else none) else none) else (some x2)) = some y1 := H
    refine QN.then_ ?_
    refine OK.cd x4 (fun hb => ?_) (fun hb => ?_)
    ·skip
     have hc := hb
     rw [if_pos hc] at H
     clear hb
     refine OK.skt ?_
     refine OK.sq ?_
     refine OK.bk 1 ?_
     refine OK.sq ?_
     obtain ⟨hi0_1, H⟩ := ifs H
     obtain ⟨hi1_1, H⟩ := ifs H
     obtain ⟨g1_, o1_, hA1_, hc1_⟩ := t48_at (Rd.ext (Imm.le_trans hi2 hi3) hrp0) x3 hi0_1 hi1_1
     obtain ⟨hi0_2, H⟩ := ifs H
     obtain ⟨hi1_2, H⟩ := ifs H
     obtain ⟨g2_, o2_, hA2_, hc2_⟩ := t48_at (Rd.ext (Imm.le_trans hi2 hi3) hrp0) x3 hi0_2 hi1_2
     obtain ⟨hi0_3, H⟩ := ifs H
     obtain ⟨hi1_3, H⟩ := ifs H
     obtain ⟨g3_, o3_, hA3_, hc3_⟩ := t48_at (Rd.ext (Imm.le_trans hi2 hi3) hrp0) x3 hi0_3 hi1_3
     refine OK.drawnC 5 27 O14_22 a14_22n (by kernel_rfl) (by kernel_rfl) u14d1l (u14d1g x3 g1_ o1_ g2_ o2_ g3_ o3_) [(⟨g1_, o1_ + (x3).toNat * 3, none⟩, i6 ((a0.getD (x3).toNat z48).f0)), (⟨g2_, o2_ + (x3).toNat * 3 + 1, none⟩, i6 ((a0.getD (x3).toNat z48).f1)), (⟨g3_, o3_ + (x3).toNat * 3 + 2, none⟩, i6 ((a0.getD (x3).toNat z48).f2))] (RI.cons (hc1_ 0 _ rfl) (RI.cons (hc2_ 1 _ rfl) (RI.cons (hc3_ 2 _ rfl) (RI.nil _)))) [.no, .no, .no, .no, .r 0, .no, .no, .no, .no, .no, .no, .no, .r 1, .no, .no, .no, .no, .no, .no, .no, .r 2, .no, .no, .no, .no, .no, .no] a14_22 a14_22o (by kernel_rfl) (by kernel_rfl) (u14d1s a0 Ap0 cp0 x3 g1_ o1_ g2_ o2_ g3_ o3_) (u14d1f a0 Ap0 cp0 x2 A2 c2 x3 x4 g1_ o1_ g2_ o2_ g3_ o3_ 27) (u14d1v a0 Ap0 cp0 x2 A2 c2 x3 x4 g1_ o1_ g2_ o2_ g3_ o3_) (u14d1e a0 Ap0 cp0 x2 A2 c2 x3 x4 g1_ o1_ g2_ o2_ g3_ o3_) [u14d1f a0 Ap0 cp0 x2 A2 c2 x3 x4 g1_ o1_ g2_ o2_ g3_ o3_ 26] (framesOk.cons (fun u => rfl) framesOk.nil) ?_ [u14d1f a0 Ap0 cp0 x2 A2 c2 x3 x4 g1_ o1_ g2_ o2_ g3_ o3_ 2, u14d1f a0 Ap0 cp0 x2 A2 c2 x3 x4 g1_ o1_ g2_ o2_ g3_ o3_ 10, u14d1f a0 Ap0 cp0 x2 A2 c2 x3 x4 g1_ o1_ g2_ o2_ g3_ o3_ 18] (framesOk.cons (fun u => rfl) (framesOk.cons (fun u => rfl) (framesOk.cons (fun u => rfl) framesOk.nil))) ?_ ?_
     ·refine LoudsG.cons ?_ (LoudsG.nil)
      ·intro D u J w hp hJ hs hF
       refine (Does.make hs.im (fun n_ => pt n_ 0) (cs := [i6 0, i6 0, i6 0]) (ty := 48) (fun n_ => by kernel_rfl)).mono ?_
       rintro v w' ⟨rfl, hg⟩
       exact ⟨fun _ => (none, w.heap.size, []), J, rfl, hg, trivial⟩
     ·refine Givens.cons (fun u w =>  ?_) (fun _ _ _ => rfl) (Givens.cons (fun u w =>  ?_) (fun _ _ _ => rfl) (Givens.cons (fun u w =>  ?_) (fun _ _ _ => rfl) (Givens.nil)))
      ·exact giv_idx (T := 22) (e := 48) 3 .i64 x3 hA1_ a0.length cp0 (by kernel_rfl) (by kernel_rfl) (by kernel_rfl) hi0_1 hi1_1 w
      ·exact giv_idx (T := 22) (e := 48) 3 .i64 x3 hA2_ a0.length cp0 (by kernel_rfl) (by kernel_rfl) (by kernel_rfl) hi0_2 hi1_2 w
      ·exact giv_idx (T := 22) (e := 48) 3 .i64 x3 hA3_ a0.length cp0 (by kernel_rfl) (by kernel_rfl) (by kernel_rfl) hi0_3 hi1_3 w
     intro u I4 nx4 hi4 hF
     clear hF
     refine RL.norm (K' := ((5, pt ((u 26 0).2.1) 0) :: (43, .agg #[i6 (W .i64 (((bAnd .i64 ((a0.getD (x3).toNat z48).f0) 255).tmod 6) * 7)), i6 (W .i64 (((bAnd .i64 ((a0.getD (x3).toNat z48).f1) 255).tmod 6) * 3)), i6 (W .i64 (1 + ((W .i64 ((((a0.getD (x3).toNat z48).f2).tmod 1048576) + 1048576)).tmod 1048576)))]) :: (42, i6 (W .i64 (1 + ((W .i64 ((((a0.getD (x3).toNat z48).f2).tmod 1048576) + 1048576)).tmod 1048576)))) :: (41, i6 ((W .i64 ((((a0.getD (x3).toNat z48).f2).tmod 1048576) + 1048576)).tmod 1048576)) :: (40, i6 (W .i64 ((((a0.getD (x3).toNat z48).f2).tmod 1048576) + 1048576))) :: (39, i6 (((a0.getD (x3).toNat z48).f2).tmod 1048576)) :: (38, i6 ((a0.getD (x3).toNat z48).f2)) :: (37, pt g3_ (o3_ + (x3).toNat * 3 + 2)) :: (36, pt g3_ (o3_ + (x3).toNat * 3)) :: (35, i6 x3) :: (34, .slice Ap0 a0.length cp0) :: (33, i6 (W .i64 (((bAnd .i64 ((a0.getD (x3).toNat z48).f1) 255).tmod 6) * 3))) :: (32, i6 ((bAnd .i64 ((a0.getD (x3).toNat z48).f1) 255).tmod 6)) :: (31, i6 (bAnd .i64 ((a0.getD (x3).toNat z48).f1) 255)) :: (30, i6 ((a0.getD (x3).toNat z48).f1)) :: (29, pt g2_ (o2_ + (x3).toNat * 3 + 1)) :: (28, pt g2_ (o2_ + (x3).toNat * 3)) :: (27, i6 x3) :: (26, .slice Ap0 a0.length cp0) :: (25, i6 (W .i64 (((bAnd .i64 ((a0.getD (x3).toNat z48).f0) 255).tmod 6) * 7))) :: (24, i6 ((bAnd .i64 ((a0.getD (x3).toNat z48).f0) 255).tmod 6)) :: (23, i6 (bAnd .i64 ((a0.getD (x3).toNat z48).f0) 255)) :: (22, i6 ((a0.getD (x3).toNat z48).f0)) :: (21, pt g1_ (o1_ + (x3).toNat * 3)) :: (20, pt g1_ (o1_ + (x3).toNat * 3)) :: (19, i6 x3) :: (18, .slice Ap0 a0.length cp0) :: (0, .slice Ap0 a0.length cp0) :: (3, .slice A2 x2.length c2) :: (4, i6 x3) :: (15, .bool x4) :: [])) (X' := [orow 48 3 A2 x2.length c2 cs2, RW.kblk (u 26 0).2.1 48 [i6 0, i6 0, i6 0]]) (by kernel_rfl) rfl rfl rfl ?_
     generalize (u 26 0).1 = A3
     generalize (u 26 0).2.1 = c3
     generalize (u 26 0).2.2 = cs3
     clear u
     refine RL.kblk (g := c3) (ty := 48) (cs := [i6 0, i6 0, i6 0]) 1 (by kernel_rfl) ?_
     show RL _ _ _ 27 _ ((5, pt c3 0) :: (43, .agg #[i6 (W .i64 (((bAnd .i64 ((a0.getD (x3).toNat z48).f0) 255).tmod 6) * 7)), i6 (W .i64 (((bAnd .i64 ((a0.getD (x3).toNat z48).f1) 255).tmod 6) * 3)), i6 (W .i64 (1 + ((W .i64 ((((a0.getD (x3).toNat z48).f2).tmod 1048576) + 1048576)).tmod 1048576)))]) :: (42, i6 (W .i64 (1 + ((W .i64 ((((a0.getD (x3).toNat z48).f2).tmod 1048576) + 1048576)).tmod 1048576)))) :: (41, i6 ((W .i64 ((((a0.getD (x3).toNat z48).f2).tmod 1048576) + 1048576)).tmod 1048576)) :: (40, i6 (W .i64 ((((a0.getD (x3).toNat z48).f2).tmod 1048576) + 1048576))) :: (39, i6 (((a0.getD (x3).toNat z48).f2).tmod 1048576)) :: (38, i6 ((a0.getD (x3).toNat z48).f2)) :: (37, pt g3_ (o3_ + (x3).toNat * 3 + 2)) :: (36, pt g3_ (o3_ + (x3).toNat * 3)) :: (35, i6 x3) :: (34, .slice Ap0 a0.length cp0) :: (33, i6 (W .i64 (((bAnd .i64 ((a0.getD (x3).toNat z48).f1) 255).tmod 6) * 3))) :: (32, i6 ((bAnd .i64 ((a0.getD (x3).toNat z48).f1) 255).tmod 6)) :: (31, i6 (bAnd .i64 ((a0.getD (x3).toNat z48).f1) 255)) :: (30, i6 ((a0.getD (x3).toNat z48).f1)) :: (29, pt g2_ (o2_ + (x3).toNat * 3 + 1)) :: (28, pt g2_ (o2_ + (x3).toNat * 3)) :: (27, i6 x3) :: (26, .slice Ap0 a0.length cp0) :: (25, i6 (W .i64 (((bAnd .i64 ((a0.getD (x3).toNat z48).f0) 255).tmod 6) * 7))) :: (24, i6 ((bAnd .i64 ((a0.getD (x3).toNat z48).f0) 255).tmod 6)) :: (23, i6 (bAnd .i64 ((a0.getD (x3).toNat z48).f0) 255)) :: (22, i6 ((a0.getD (x3).toNat z48).f0)) :: (21, pt g1_ (o1_ + (x3).toNat * 3)) :: (20, pt g1_ (o1_ + (x3).toNat * 3)) :: (19, i6 x3) :: (18, .slice Ap0 a0.length cp0) :: (0, .slice Ap0 a0.length cp0) :: (3, .slice A2 x2.length c2) :: (4, i6 x3) :: (15, .bool x4) :: []) _ _ _ [⟨c3, [i6 0, i6 0, i6 0], 48⟩] [orow 48 3 A2 x2.length c2 cs2]
     refine RL.simP (K' := [(5, pt c3 0), (0, .slice Ap0 a0.length cp0), (3, .slice A2 x2.length c2), (4, i6 x3)]) (nx' := nx4) (L' := [⟨c3, [i6 (W .i64 (((bAnd .i64 ((a0.getD (x3).toNat z48).f0) 255).tmod 6) * 7)), i6 (W .i64 (((bAnd .i64 ((a0.getD (x3).toNat z48).f1) 255).tmod 6) * 3)), i6 (W .i64 (1 + ((W .i64 ((((a0.getD (x3).toNat z48).f2).tmod 1048576) + 1048576)).tmod 1048576)))], 48⟩]) [] (RFacts.nil _ _ _) 1 [.l 0] (by kernel_rfl) (by kernel_rfl) ?_
     refine RL.nt ?_
     refine OK.sr ?_
     refine RL.simK (K' := [(48, i6 (W .i64 (((bAnd .i64 ((a0.getD (x3).toNat z48).f1) 255).tmod 6) * 3))), (46, i6 (W .i64 (((bAnd .i64 ((a0.getD (x3).toNat z48).f0) 255).tmod 6) * 7))), (44, .slice A2 x2.length c2), (5, pt c3 0), (0, .slice Ap0 a0.length cp0), (3, .slice A2 x2.length c2), (4, i6 x3)]) [] (RFacts.nil _ _ _) 5 [.no, .no, .l 0, .no, .l 0] (by kernel_rfl) (by kernel_rfl) ?_
     obtain ⟨t1, hA1, H⟩ := bnd H
     refine RL.callP 26 [.slice A2 x2.length c2, i6 (W .i64 (((bAnd .i64 ((a0.getD (x3).toNat z48).f0) 255).tmod 6) * 7)), i6 (W .i64 (((bAnd .i64 ((a0.getD (x3).toNat z48).f1) 255).tmod 6) * 3))] (some 49) (fun w v w' => ∃ I', Imm.le I4 I' ∧ armillaryref23_Value.Post I' w t1 v w') (by kernel_rfl) (by kernel_rfl) (fun w hs => ?_) ?_
     ·skip
      obtain ⟨JL1, hj1, hn1, hw1, hs⟩ := Sat.freeze (e := 48) (sz := 3) (S := A2) (n := x2.length) (cap := c2) (m := 0) hs (by kernel_rfl) (Reps.ext (Imm.le_trans hi3 hi4) hp2) rfl
      exact (armillaryref23_Value.calls kq1 JL1 x2 A2 c2 (W .i64 (((bAnd .i64 ((a0.getD (x3).toNat z48).f0) 255).tmod 6) * 7)) (W .i64 (((bAnd .i64 ((a0.getD (x3).toNat z48).f1) 255).tmod 6) * 3)) _ hs.im hn1 hw1 t1 hA1).mono (fun e w' ⟨v, hv, hp⟩ => ⟨v, hv, JL1, hj1, hp⟩)
     rintro w v w' hs ⟨I', hle, J, rfl, hg⟩
     refine RL.resume (X' := [orow 48 3 A2 x2.length c2 cs2]) rfl (hs.call (hg.back hle)) ?_
     clear hs hg hle I' J
     generalize w'.heap.size = nx5
     clear w w'
     refine RL.st 1 [(50, .bool (t1 == 0)), (5, pt c3 0), (0, .slice Ap0 a0.length cp0), (3, .slice A2 x2.length c2), (4, i6 x3)] ?_
     refine OK.join (fun K' I' _ L' X' => ∃ (x5 : List S48) (A4 : Option Addr) (c4 : Nat) (cs4 : List Value), K' = [(0, .slice Ap0 a0.length cp0), (3, .slice A4 x5.length c4), (4, i6 x3)] ∧ L' = [⟨c3, [i6 (W .i64 (((bAnd .i64 ((a0.getD (x3).toNat z48).f0) 255).tmod 6) * 7)), i6 (W .i64 (((bAnd .i64 ((a0.getD (x3).toNat z48).f1) 255).tmod 6) * 3)), i6 (W .i64 (1 + ((W .i64 ((((a0.getD (x3).toNat z48).f2).tmod 1048576) + 1048576)).tmod 1048576)))], 48⟩] ∧ X' = [orow 48 3 A4 x5.length c4 cs4] ∧ Imm.le I4 I' ∧ Reps t48 I' x5 cs4 ∧ (armillaryref23_Made.l1 a0 kq1 x5 (W .i64 (x3 + 1))) = some y1) ?_ ?_
     ·rintro _ I5 nx6 _ _ ⟨x5, A4, c4, cs4, rfl, rfl, rfl, hi5, hp3, H⟩
      replace H : (armillaryref23_Made.l1 a0 kq1 x5 (W .i64 (x3 + 1))) = some y1 := H
      refine QN.blkN ?_
      refine QN.then_ ?_
      refine OK.rg ?_
      refine RL.s 3 [(4, i6 (W .i64 (x3 + 1))), (0, .slice Ap0 a0.length cp0), (3, .slice A4 x5.length c4)] ?_
      refine RL.nil (by kernel_rfl) ?_
      exact QN.sb (hJ2 _ _ _ _ _ ⟨x5, W .i64 (x3 + 1), A4, c4, cs4, rfl, rfl, rfl, (Imm.le_trans (Imm.le_trans (Imm.le_trans hi2 hi3) hi4) hi5), hp3, H⟩) (.cons _ .slnil) (.refl _)
     ·intro Q_2 hJ4 hQ4
      obtain ⟨y3, H, HK3⟩ := bnd H
      refine OK.cd (t1 == 0) (fun hb => ?_) (fun hb => ?_)
      ·skip
       have hc := (beq_iff_eq.1 hb)
       rw [if_pos hc] at H
       clear hb
       refine OK.rg ?_
       refine RL.simP (K' := [(53, .slice (some ⟨nx5, 0, none⟩) 1 1), (51, .slice A2 x2.length c2), (0, .slice Ap0 a0.length cp0), (3, .slice A2 x2.length c2), (4, i6 x3)]) (nx' := nx5 + 1) (L' := [⟨c3, [i6 (W .i64 (((bAnd .i64 ((a0.getD (x3).toNat z48).f0) 255).tmod 6) * 7)), i6 (W .i64 (((bAnd .i64 ((a0.getD (x3).toNat z48).f1) 255).tmod 6) * 3)), i6 (W .i64 (1 + ((W .i64 ((((a0.getD (x3).toNat z48).f2).tmod 1048576) + 1048576)).tmod 1048576)))], 48⟩, ⟨nx5, [i6 (W .i64 (((bAnd .i64 ((a0.getD (x3).toNat z48).f0) 255).tmod 6) * 7)), i6 (W .i64 (((bAnd .i64 ((a0.getD (x3).toNat z48).f1) 255).tmod 6) * 3)), i6 (W .i64 (1 + ((W .i64 ((((a0.getD (x3).toNat z48).f2).tmod 1048576) + 1048576)).tmod 1048576)))], 48⟩]) [] (RFacts.nil _ _ _) 3 [.no, .l 0, .no] (by kernel_rfl) (by kernel_rfl) ?_
       obtain ⟨hz1, H⟩ := ifs H
       refine RL.appendB (T := 22) (e := 48) (S := A2) 3 24 22 c2 1 1 nx5 48 cs2 [i6 (W .i64 (((bAnd .i64 ((a0.getD (x3).toNat z48).f0) 255).tmod 6) * 7)), i6 (W .i64 (((bAnd .i64 ((a0.getD (x3).toNat z48).f1) 255).tmod 6) * 3)), i6 (W .i64 (1 + ((W .i64 ((((a0.getD (x3).toNat z48).f2).tmod 1048576) + 1048576)).tmod 1048576)))] t48 x2 [(⟨W .i64 (((bAnd .i64 ((a0.getD (x3).toNat z48).f0) 255).tmod 6) * 7), W .i64 (((bAnd .i64 ((a0.getD (x3).toNat z48).f1) 255).tmod 6) * 3), W .i64 (1 + ((W .i64 ((((a0.getD (x3).toNat z48).f2).tmod 1048576) + 1048576)).tmod 1048576))⟩ : S48)] 0 (some 54) (by kernel_rfl) (by kernel_rfl) (by kernel_rfl) (by kernel_rfl) (by kernel_rfl) (by decide) (by kernel_rfl) (Reps.ext (Imm.le_trans hi3 hi4) hp2) (by kernel_rfl) ⟨_, _, rfl, (t48_mk _ _), rfl⟩ hz1 (by omega) (fun A5 c5 nx7 cs5 hp4 => ?_)
       refine RL.sub (K' := [(54, .slice A5 ((x2 ++ [(⟨W .i64 (((bAnd .i64 ((a0.getD (x3).toNat z48).f0) 255).tmod 6) * 7), W .i64 (((bAnd .i64 ((a0.getD (x3).toNat z48).f1) 255).tmod 6) * 3), W .i64 (1 + ((W .i64 ((((a0.getD (x3).toNat z48).f2).tmod 1048576) + 1048576)).tmod 1048576))⟩ : S48)]).length) c5), (53, .slice (some ⟨nx5, 0, none⟩) 1 1), (0, .slice Ap0 a0.length cp0), (4, i6 x3)]) (L' := [⟨c3, [i6 (W .i64 (((bAnd .i64 ((a0.getD (x3).toNat z48).f0) 255).tmod 6) * 7)), i6 (W .i64 (((bAnd .i64 ((a0.getD (x3).toNat z48).f1) 255).tmod 6) * 3)), i6 (W .i64 (1 + ((W .i64 ((((a0.getD (x3).toNat z48).f2).tmod 1048576) + 1048576)).tmod 1048576)))], 48⟩, ⟨nx5, [i6 (W .i64 (((bAnd .i64 ((a0.getD (x3).toNat z48).f0) 255).tmod 6) * 7)), i6 (W .i64 (((bAnd .i64 ((a0.getD (x3).toNat z48).f1) 255).tmod 6) * 3)), i6 (W .i64 (1 + ((W .i64 ((((a0.getD (x3).toNat z48).f2).tmod 1048576) + 1048576)).tmod 1048576)))], 48⟩]) (X' := [orow 48 3 A5 ((x2 ++ [(⟨W .i64 (((bAnd .i64 ((a0.getD (x3).toNat z48).f0) 255).tmod 6) * 7), W .i64 (((bAnd .i64 ((a0.getD (x3).toNat z48).f1) 255).tmod 6) * 3), W .i64 (1 + ((W .i64 ((((a0.getD (x3).toNat z48).f2).tmod 1048576) + 1048576)).tmod 1048576))⟩ : S48)]).length) c5 cs5]) (by kernel_rfl) (.refl _) (.refl _) ?_
       refine RL.s 1 [(3, .slice A5 ((x2 ++ [(⟨W .i64 (((bAnd .i64 ((a0.getD (x3).toNat z48).f0) 255).tmod 6) * 7), W .i64 (((bAnd .i64 ((a0.getD (x3).toNat z48).f1) 255).tmod 6) * 3), W .i64 (1 + ((W .i64 ((((a0.getD (x3).toNat z48).f2).tmod 1048576) + 1048576)).tmod 1048576))⟩ : S48)]).length) c5), (0, .slice Ap0 a0.length cp0), (4, i6 x3)] ?_
       refine RL.nil (by kernel_rfl) ?_
       obtain rfl := Option.some.inj H
       exact QN.sb (hJ4 _ _ _ _ _ ⟨(x2 ++ [(⟨W .i64 (((bAnd .i64 ((a0.getD (x3).toNat z48).f0) 255).tmod 6) * 7), W .i64 (((bAnd .i64 ((a0.getD (x3).toNat z48).f1) 255).tmod 6) * 3), W .i64 (1 + ((W .i64 ((((a0.getD (x3).toNat z48).f2).tmod 1048576) + 1048576)).tmod 1048576))⟩ : S48)]), A5, c5, cs5, rfl, rfl, rfl, (Imm.le_refl _), hp4, HK3⟩) (.cons_cons _ (.cons _ .slnil)) (.refl _)
      ·skip
       have hc := (beq_eq_false_iff_ne.1 hb)
       rw [if_neg hc] at H
       clear hb
       refine OK.sk ?_
       obtain rfl := Option.some.inj H
       exact QN.sb (hJ4 _ _ _ _ _ ⟨x2, A2, c2, cs2, rfl, rfl, rfl, (Imm.le_refl _), (Reps.ext (Imm.le_trans hi3 hi4) hp2), HK3⟩) (.cons_cons _ .slnil) (.refl _)
    ·skip
     have hc := (Bool.eq_false_iff.1 hb)
     rw [if_neg hc] at H
     clear hb
     refine OK.ex 0 ?_
     refine QN.thenE ?_
     refine QN.outE hQ2 ?_
     refine QN.blkE ?_
     obtain rfl := Option.some.inj H
     exact QN.sb (hJ1 _ _ _ _ _ ⟨x2, A2, c2, cs2, rfl, rfl, rfl, (Imm.le_trans hi2 hi3), (Reps.ext hi3 hp2), HK1⟩) .slnil (.refl _)
   ·intro Q_3 hJ3 hQ3
    obtain ⟨y2, H, HK2⟩ := bnd H
    refine OK.rg ?_
    refine RL.s 5 [(11, .bool (decide (x3 < (a0.length : Int)))), (0, .slice Ap0 a0.length cp0), (3, .slice A2 x2.length c2), (4, i6 x3)] ?_
    refine RL.cases (decide (x3 < (a0.length : Int))) (fun hb => ?_) (fun hb => ?_)
    ·have hc := (of_decide_eq_true hb)
     rw [hb]
     rw [if_pos hc] at H; clear hb
     refine RL.s 4 [(15, .bool (decide ((x2.length : Int) < 36))), (0, .slice Ap0 a0.length cp0), (3, .slice A2 x2.length c2), (4, i6 x3)] ?_
     refine RL.nil (by kernel_rfl) ?_
     obtain rfl := Option.some.inj H
     exact QN.sb (hJ3 _ _ _ _ _ ⟨(decide ((x2.length : Int) < 36)), rfl, rfl, rfl, (Imm.le_refl _), HK2⟩) .slnil (.refl _)
    ·have hc := (of_decide_eq_false hb)
     rw [hb]
     rw [if_neg hc] at H; clear hb
     refine RL.s 4 [(15, .bool false), (0, .slice Ap0 a0.length cp0), (3, .slice A2 x2.length c2), (4, i6 x3)] ?_
     refine RL.nil (by kernel_rfl) ?_
     obtain rfl := Option.some.inj H
     exact QN.sb (hJ3 _ _ _ _ _ ⟨false, rfl, rfl, rfl, (Imm.le_refl _), HK2⟩) .slnil (.refl _)

end Go.Proofs.Ytihmbmeelheinaa
namespace Go.Proofs.Ytihmbmeelheinaa
open Go Go.Proofs.Ytihmbmeelheinaa.RW
set_option linter.unusedVariables false
set_option maxRecDepth 100000
set_option maxHeartbeats 8000000

/-! ### armillarylaw23_shaped: function 25, armillary/armillarylaw23.shaped -/
noncomputable def K25_0 : Code := cBody Try.f25
def armillarylaw23_shaped.k1  (x1 : Bool) : Option (Bool) := (some x1)
def armillarylaw23_shaped.f (a0 : S29) : Option (Bool) := ((if (a0.f1.length : Int) = (a0.f0.length : Int) then (some ((a0.f2.length : Int) == (a0.f0.length : Int))) else (some false)).bind (armillarylaw23_shaped.k1))
def armillarylaw23_shaped.Post (I : Imm) (w : World) (r : Bool) (v : Value) (w' : World) : Prop :=
 ∃ (J : Imm), v = .bool r ∧ Got w w' I J []
theorem armillarylaw23_shaped.calls (I0 : Imm) (a0 : S29) (Ap0_0 : Option Addr) (cp0_0 : Nat) (Ap0_1 : Option Addr) (cp0_1 : Nat) (Ap0_2 : Option Addr) (cp0_2 : Nat) (w : World) (hI : I0.at_ w) (hlp0_0 : a0.f0.length ≤ cp0_0) (hrp0_0 : Rd (Ty.int .i64) I0 Ap0_0 a0.f0) (hlp0_1 : a0.f1.length ≤ cp0_1) (hrp0_1 : Rd (Ty.int .i64) I0 Ap0_1 a0.f1) (hlp0_2 : a0.f2.length ≤ cp0_2) (hrp0_2 : Rd (Ty.int .i64) I0 Ap0_2 a0.f2) (r : Bool) (h : armillarylaw23_shaped.f a0 = some r) :
  Calls Try.prog 25 [.agg #[.slice Ap0_0 a0.f0.length cp0_0, .slice Ap0_1 a0.f1.length cp0_1, .slice Ap0_2 a0.f2.length cp0_2]].toArray w fun e w' => ∃ v, e = .returned v ∧ armillarylaw23_shaped.Post I0 w r v w' := by
 have H : ((if (a0.f1.length : Int) = (a0.f0.length : Int) then (some ((a0.f2.length : Int) == (a0.f0.length : Int))) else (some false)).bind (armillarylaw23_shaped.k1)) = some r := h
 clear h
 refine calls_body Try.func25 (by kernel_rfl) 19 (by kernel_rfl) (by kernel_rfl) ⟨w, fun _ => False, I0⟩ I0 [] [(0, .agg #[.slice Ap0_0 a0.f0.length cp0_0, .slice Ap0_1 a0.f1.length cp0_1, .slice Ap0_2 a0.f2.length cp0_2])] (by kernel_rfl) (Sat.start w _ I0 hI) ?_
 generalize w.heap.size = nx0
 show OK _ K25_0 _ _ _ _ _ _ _ _
 refine OK.sr ?_
 refine RL.spt 2 [(1, pt nx0 0)] (nx0 + 1) [⟨nx0, [.slice Ap0_0 a0.f0.length cp0_0, .slice Ap0_1 a0.f1.length cp0_1, .slice Ap0_2 a0.f2.length cp0_2], 29⟩] ?_
 refine OK.sq ?_
 refine OK.join (fun K' I' _ L' X' => ∃ (x1 : Bool), K' = [(2, .bool x1)] ∧ L' = [⟨nx0, [.slice Ap0_0 a0.f0.length cp0_0, .slice Ap0_1 a0.f1.length cp0_1, .slice Ap0_2 a0.f2.length cp0_2], 29⟩] ∧ X' = [] ∧ Imm.le I0 I' ∧ armillarylaw23_shaped.k1 x1 = some r) ?_ ?_
 ·rintro _ I1 nx1 _ _ ⟨x1, rfl, rfl, rfl, hi1, H⟩
  rw [armillarylaw23_shaped.k1] at H
  refine QN.then_ ?_
  refine OK.re ?_
  obtain rfl := Option.some.inj H
  refine QN.body rfl [] (RFacts.nil _ _ _) (.no) (.bool x1) (by kernel_rfl) (by kernel_rfl) (by kernel_rfl) ?_ _ (.inr rfl)
  exact fun w' hs' => ⟨_, rfl, I1, rfl, hs'.got _ .slnil⟩
 ·intro Q_1 hJ1 hQ1
  obtain ⟨y1, H, HK1⟩ := bnd H
  refine OK.rg ?_
  refine RL.simK (K' := [(10, .bool ((a0.f1.length : Int) == (a0.f0.length : Int))), (1, pt nx0 0)]) [] (RFacts.nil _ _ _) 8 [.no, .l 0, .no, .no, .l 0, .no, .no, .no] (by kernel_rfl) (by kernel_rfl) ?_
  refine RL.cases ((a0.f1.length : Int) == (a0.f0.length : Int)) (fun hb => ?_) (fun hb => ?_)
  ·have hc := (beq_iff_eq.1 hb)
   rw [hb]
   rw [if_pos hc] at H; clear hb
   refine RL.simK (K' := [(2, .bool ((a0.f2.length : Int) == (a0.f0.length : Int)))]) [] (RFacts.nil _ _ _) 9 [.no, .l 0, .no, .no, .l 0, .no, .no, .no, .no] (by kernel_rfl) (by kernel_rfl) ?_
   refine RL.nil (by kernel_rfl) ?_
   obtain rfl := Option.some.inj H
   exact QN.sb (hJ1 _ _ _ _ _ ⟨((a0.f2.length : Int) == (a0.f0.length : Int)), rfl, rfl, rfl, (Imm.le_refl _), HK1⟩) (.cons_cons _ .slnil) (.refl _)
  ·have hc := (beq_eq_false_iff_ne.1 hb)
   rw [hb]
   rw [if_neg hc] at H; clear hb
   refine RL.s 9 [(2, .bool false)] ?_
   refine RL.nil (by kernel_rfl) ?_
   obtain rfl := Option.some.inj H
   exact QN.sb (hJ1 _ _ _ _ _ ⟨false, rfl, rfl, rfl, (Imm.le_refl _), HK1⟩) (.cons_cons _ .slnil) (.refl _)

end Go.Proofs.Ytihmbmeelheinaa
namespace Go.Proofs.Ytihmbmeelheinaa
open Go Go.Proofs.Ytihmbmeelheinaa.RW
set_option linter.unusedVariables false
set_option maxRecDepth 100000
set_option maxHeartbeats 8000000

/-! ### armillaryref23_Except: function 27, armillary/armillaryref23.Except -/
noncomputable def K27_0 : Code := cBody Try.f27
def armillaryref23_Except.k1  (x1 : List S48) : Option (List S48) := (some x1)
def armillaryref23_Except.l1 (a0 : List S48) (a1 : Int) : Nat → (List S48) → Int → Option (List S48)
 | 0, _, _ => none
 | k + 1, x2, x3 => (if x3 < (a0.length : Int) then (if 0 ≤ x3 then (if x3 < (a0.length : Int) then ((if ((a0.getD (x3).toNat z48).f0) ≠ a1 then (if 0 ≤ x3 then (if x3 < (a0.length : Int) then (if (x2.length + [(a0.getD (x3).toNat z48)].length) * 24 ≤ 140737488355328 then (some (x2 ++ [(a0.getD (x3).toNat z48)])) else none) else none) else none) else (some x2)).bind (fun x4 => (armillaryref23_Except.l1 a0 a1 k x4 (W .i64 (x3 + 1))))) else none) else none) else (some x2))
def armillaryref23_Except.f (k : Nat) (a0 : List S48) (a1 : Int) : Option (List S48) := ((armillaryref23_Except.l1 a0 a1 k ([] : List S48) 0).bind (armillaryref23_Except.k1))
def armillaryref23_Except.Post (I : Imm) (w : World) (r : List S48) (v : Value) (w' : World) : Prop :=
 ∃ (J : Imm) (A0 : Option Addr) (c0 : Nat) (cs0 : List Value), v = .slice A0 r.length c0 ∧ Got w w' I J [orow 48 3 A0 r.length c0 cs0] ∧ Reps t48 J r cs0
end Go.Proofs.Ytihmbmeelheinaa
namespace Go.Proofs.Ytihmbmeelheinaa
open Go Go.Proofs.Ytihmbmeelheinaa.RW
set_option linter.unusedVariables false
set_option maxRecDepth 100000
set_option maxHeartbeats 8000000

/-! ### armillarylaw23_sameInts: function 20, armillary/armillarylaw23.sameInts -/
noncomputable def K20_0 : Code := cBody Try.f20
noncomputable def O20_29 : List Oper := cOps (cL (cL (cL (cR (cL (cL (cR (cL (cR (cR K20_0))))))))))
def armillarylaw23_sameInts.k1  : (Unit) ⊕ (Bool) → Option (Bool)
 | .inl () => (some true)
 | .inr r_ => some r_
def armillarylaw23_sameInts.l1 (a0 : List Int) (a1 : List Int) : Nat → Int → Option ((Unit) ⊕ (Bool))
 | 0, _ => none
 | k + 1, x1 => (if x1 < (a0.length : Int) then (if 0 ≤ x1 then (if x1 < (a0.length : Int) then (if 0 ≤ x1 then (if x1 < (a1.length : Int) then (if (a0.getD (x1).toNat 0) ≠ (a1.getD (x1).toNat 0) then (some (Sum.inr false)) else (armillarylaw23_sameInts.l1 a0 a1 k (W .i64 (x1 + 1)))) else none) else none) else none) else none) else (some (Sum.inl ())))
def armillarylaw23_sameInts.f (k : Nat) (a0 : List Int) (a1 : List Int) : Option (Bool) := (if (a0.length : Int) ≠ (a1.length : Int) then (some false) else ((armillarylaw23_sameInts.l1 a0 a1 k 0).bind (armillarylaw23_sameInts.k1)))
def armillarylaw23_sameInts.Post (I : Imm) (w : World) (r : Bool) (v : Value) (w' : World) : Prop :=
 ∃ (J : Imm), v = .bool r ∧ Got w w' I J []
noncomputable def a20_29n : List Nat := [0, 0, 3, 7, 0, 0, 48, 112, 255]
noncomputable def u20d1l  : List Ld :=
 []
noncomputable def u20d1g (x1 : Int) (g1_ : Nat) (o1_ : Nat) (g2_ : Nat) (o2_ : Nat) : List (Nat × ((Nat → Wt) → Value)) := [(2, fun u => pt g1_ (o1_ + (x1).toNat * 1)), (6, fun u => pt g2_ (o2_ + (x1).toNat * 1))]
noncomputable def u20d1q (a0 : List Int) (Ap0 : Option Addr) (cp0 : Nat) (a1 : List Int) (Ap1 : Option Addr) (cp1 : Nat) (x1 : Int) (g1_ : Nat) (o1_ : Nat) (g2_ : Nat) (o2_ : Nat) (u : Nat → Wt) : Option (List Value × List (Nat × Value) × List (Nat × Nat)) := qSim Try.prog [(⟨g1_, o1_ + (x1).toNat * 1, none⟩, i6 (a0.getD (x1).toNat 0)), (⟨g2_, o2_ + (x1).toNat * 1, none⟩, i6 (a1.getD (x1).toNat 0))] [] O20_29 ⟨26, []⟩ (Ld.vl u20d1l) (u20d1g x1 g1_ o1_ g2_ o2_) u [.no, .no, .no, .r 0, .no, .no, .no, .r 1] 0 (O20_29.take 8) [(14, .bool (decide (x1 < (a0.length : Int)))), (0, .slice Ap0 a0.length cp0), (1, .slice Ap1 a1.length cp1), (5, i6 x1)]
noncomputable def u20d1s (a0 : List Int) (Ap0 : Option Addr) (cp0 : Nat) (a1 : List Int) (Ap1 : Option Addr) (cp1 : Nat) (x1 : Int) (g1_ : Nat) (o1_ : Nat) (g2_ : Nat) (o2_ : Nat) (u : Nat → Wt) : List Value := [.slice Ap0 a0.length cp0, i6 x1, pt g1_ (o1_ + (x1).toNat * 1), i6 (a0.getD (x1).toNat 0), .slice Ap1 a1.length cp1, i6 x1, pt g2_ (o2_ + (x1).toNat * 1), i6 (a1.getD (x1).toNat 0)]
noncomputable def u20d1f (a0 : List Int) (Ap0 : Option Addr) (cp0 : Nat) (a1 : List Int) (Ap1 : Option Addr) (cp1 : Nat) (x1 : Int) (g1_ : Nat) (o1_ : Nat) (g2_ : Nat) (o2_ : Nat) (i : Nat) (u : Nat → Wt) : List (Nat × Value) := foldPut ⟨26, []⟩ [(14, .bool (decide (x1 < (a0.length : Int)))), (0, .slice Ap0 a0.length cp0), (1, .slice Ap1 a1.length cp1), (5, i6 x1)] (O20_29.take i) (((u20d1s a0 Ap0 cp0 a1 Ap1 cp1 x1 g1_ o1_ g2_ o2_) u).take i)
end Go.Proofs.Ytihmbmeelheinaa
