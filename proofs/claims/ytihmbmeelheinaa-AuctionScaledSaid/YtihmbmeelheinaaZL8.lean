/- What a function of the program computes, and the walk that shows it; made by a program of the session's out of the translation; no conditions beyond those that the theorems name. -/
import Derived.Test.YtihmbmeelheinaaZ2
import Derived.Test.YtihmbmeelheinaaZ6
import Derived.Test.YtihmbmeelheinaaZ5
import Derived.Test.YtihmbmeelheinaaZ7
import Derived.Test.YtihmbmeelheinaaRows
import Derived.WalkKit
import Derived.ProofKit
import Derived.OpenShut
import Derived.ShutString
import Derived.ChangeOld
import Derived.Below
import Derived.Carry
import Derived.WideShapes
namespace Go.Proofs.Ytihmbmeelheinaa
open Go Go.Proofs.Ytihmbmeelheinaa.RW
set_option linter.unusedVariables false
set_option maxRecDepth 100000
set_option maxHeartbeats 8000000

/-! ### armillarylaw23_AuctionScaled: function 8, armillary/armillarylaw23.AuctionScaled -/
noncomputable def K8_0 : Code := cBody Try.f8
noncomputable def O8_27 : List Oper := cOps (cL (cL (cR (cL (cL (cR (cL (cR (cR (cR (cR K8_0)))))))))))
noncomputable def O8_63 : List Oper := cOps (cL (cL (cL (cR (cL (cL (cR (cL (cR (cR (cR (cR (cR (cR (cR (cR K8_0))))))))))))))))
noncomputable def O8_74 : List Oper := cOps (cL (cR (cR (cR (cR (cR (cR (cR (cR (cR K8_0))))))))))
def armillarylaw23_AuctionScaled.k1  (x3 : Bool) : Option (Bool) := (some x3)
def armillarylaw23_AuctionScaled.k2 (k : Nat) (a1 : Int) (t1 : Bool) (t2 : List S48) (x1 : List S48) (t3 : S29 × Int) (t4 : S29 × Int) : (Unit) ⊕ (Bool) → Option (Bool)
 | .inl () => (((auction_Welfare.f k x1 t4.1).bind fun t5 => ((auction_Welfare.f k t2 t3.1).bind fun t6 => (if t5 = (W .i64 ((W .i64 (1 + (W .i64 (a1.tmod 1000)))) * t6)) then (some t1) else (some false)))).bind (armillarylaw23_AuctionScaled.k1))
 | .inr r_ => some r_
def armillarylaw23_AuctionScaled.l1 (a1 : Int) (t3 : S29 × Int) (t4 : S29 × Int) : Nat → Int → Option ((Unit) ⊕ (Bool))
 | 0, _ => none
 | k + 1, x4 => (if x4 < (t3.1.f2.length : Int) then (if 0 ≤ x4 then (if x4 < (t4.1.f2.length : Int) then (if 0 ≤ x4 then (if x4 < (t3.1.f2.length : Int) then (if (t4.1.f2.getD (x4).toNat 0) ≠ (W .i64 ((t3.1.f2.getD (x4).toNat 0) * (W .i64 (1 + (W .i64 (a1.tmod 1000)))))) then (some (Sum.inr false)) else (armillarylaw23_AuctionScaled.l1 a1 t3 t4 k (W .i64 (x4 + 1)))) else none) else none) else none) else none) else (some (Sum.inl ())))
def armillarylaw23_AuctionScaled.k3 (k : Nat) (a1 : Int) (t1 : Bool) (t2 : List S48) (x1 : List S48) (t3 : S29 × Int) (t4 : S29 × Int) (x2 : Bool) : Option (Bool) := (if x2 = true then (some false) else ((armillarylaw23_AuctionScaled.l1 a1 t3 t4 k 0).bind (armillarylaw23_AuctionScaled.k2 k a1 t1 t2 x1 t3 t4)))
def armillarylaw23_AuctionScaled.k4 (k : Nat) (a1 : Int) (t1 : Bool) (t2 : List S48) (x1 : List S48) : Option (Bool) := ((auction_Clear.f k t2).bind fun t3 => ((auction_Clear.f k x1).bind fun t4 => ((if t3.2 ≠ 0 then (some true) else (if t4.2 ≠ 0 then (some true) else ((armillarylaw23_shaped.f t3.1).bind fun t7 => (if t7 = true then ((armillarylaw23_shaped.f t4.1).bind fun t8 => (if t8 = true then ((armillarylaw23_sameInts.f k t3.1.f0 t4.1.f0).bind fun t9 => (if t9 = true then ((armillarylaw23_sameInts.f k t3.1.f1 t4.1.f1).bind fun t10 => (some (!t10))) else (some true))) else (some true))) else (some true))))).bind (armillarylaw23_AuctionScaled.k3 k a1 t1 t2 x1 t3 t4))))
def armillarylaw23_AuctionScaled.l2 (a1 : Int) (t2 : List S48) : Nat → (List S48) → Int → Option (List S48)
 | 0, _, _ => none
 | k + 1, x5, x6 => (if x6 < (t2.length : Int) then (if 0 ≤ x6 then (if x6 < (t2.length : Int) then (if 0 ≤ x6 then (if x6 < (t2.length : Int) then (if 0 ≤ x6 then (if x6 < (t2.length : Int) then (if (x5.length + [(⟨(t2.getD (x6).toNat z48).f0, (t2.getD (x6).toNat z48).f1, W .i64 (((t2.getD (x6).toNat z48).f2) * (W .i64 (1 + (W .i64 (a1.tmod 1000)))))⟩ : S48)].length) * 24 ≤ 140737488355328 then (armillarylaw23_AuctionScaled.l2 a1 t2 k (x5 ++ [(⟨(t2.getD (x6).toNat z48).f0, (t2.getD (x6).toNat z48).f1, W .i64 (((t2.getD (x6).toNat z48).f2) * (W .i64 (1 + (W .i64 (a1.tmod 1000)))))⟩ : S48)]) (W .i64 (x6 + 1))) else none) else none) else none) else none) else none) else none) else none) else (some x5))
def armillarylaw23_AuctionScaled.f (k : Nat) (a0 : List S48) (a1 : Int) : Option (Bool) := ((armillarylaw23_sanity.f k ).bind fun t1 => ((armillaryref23_Made.f k a0).bind fun t2 => ((armillarylaw23_AuctionScaled.l2 a1 t2 k ([] : List S48) 0).bind (armillarylaw23_AuctionScaled.k4 k a1 t1 t2))))
def armillarylaw23_AuctionScaled.Post (I : Imm) (w : World) (r : Bool) (v : Value) (w' : World) : Prop :=
 ∃ (J : Imm), v = .bool r ∧ Got w w' I J []
noncomputable def a8_74n : List Nat := [0, 0, 3, 0, 0, 0, 55, 127, 255, 511, 1023, 2047, 4095]
theorem a8_74 : ancs O8_74 [] = a8_74n := by kernel_rfl
theorem a8_74o : drawOk O8_74 a8_74n 7 = true := by kernel_rfl
noncomputable def u8d1l (t5 : Int) (t6 : Int) : List Ld :=
 [⟨2, fun x => i6 t5, fun x => [], fun x J => True, fun x J J' h f => trivial⟩,
  ⟨6, fun x => i6 t6, fun x => [], fun x J => True, fun x J J' h f => trivial⟩]
noncomputable def u8d1g  : List (Nat × ((Nat → Wt) → Value)) := []
noncomputable def u8d1q (a1 : Int) (t1 : Bool) (t2 : List S48) (A1 : Option Addr) (c1 : Nat) (x1 : List S48) (A2 : Option Addr) (c2 : Nat) (t3 : S29 × Int) (A3 : Option Addr) (c3 : Nat) (A4 : Option Addr) (c4 : Nat) (A5 : Option Addr) (c5 : Nat) (nx4 : Nat) (t4 : S29 × Int) (A6 : Option Addr) (c6 : Nat) (A7 : Option Addr) (c7 : Nat) (A8 : Option Addr) (c8 : Nat) (nx5 : Nat) (t5 : Int) (t6 : Int) (u : Nat → Wt) : Option (List Value × List (Nat × Value) × List (Nat × Nat)) := qSim Try.prog [] [⟨nx4, [.slice A3 t3.1.f0.length c3, .slice A4 t3.1.f1.length c4, .slice A5 t3.1.f2.length c5], 29⟩, ⟨nx5, [.slice A6 t4.1.f0.length c6, .slice A7 t4.1.f1.length c7, .slice A8 t4.1.f2.length c8], 29⟩] O8_74 ⟨124, []⟩ (Ld.vl (u8d1l t5 t6)) u8d1g u [.no, .l 1, .no, .no, .no, .l 0, .no] 0 (O8_74.take 7) [(5, .bool t1), (6, .slice A1 t2.length c1), (7, i6 (W .i64 (1 + (W .i64 (a1.tmod 1000))))), (8, .slice A2 x1.length c2), (10, pt nx4 0), (12, pt nx5 0)]
noncomputable def u8d1s (a1 : Int) (t2 : List S48) (A1 : Option Addr) (c1 : Nat) (x1 : List S48) (A2 : Option Addr) (c2 : Nat) (t3 : S29 × Int) (A3 : Option Addr) (c3 : Nat) (A4 : Option Addr) (c4 : Nat) (A5 : Option Addr) (c5 : Nat) (t4 : S29 × Int) (A6 : Option Addr) (c6 : Nat) (A7 : Option Addr) (c7 : Nat) (A8 : Option Addr) (c8 : Nat) (t5 : Int) (t6 : Int) (u : Nat → Wt) : List Value := [.slice A2 x1.length c2, .agg #[.slice A6 t4.1.f0.length c6, .slice A7 t4.1.f1.length c7, .slice A8 t4.1.f2.length c8], i6 t5, i6 (W .i64 (1 + (W .i64 (a1.tmod 1000)))), .slice A1 t2.length c1, .agg #[.slice A3 t3.1.f0.length c3, .slice A4 t3.1.f1.length c4, .slice A5 t3.1.f2.length c5], i6 t6]
noncomputable def u8d1f (a1 : Int) (t1 : Bool) (t2 : List S48) (A1 : Option Addr) (c1 : Nat) (x1 : List S48) (A2 : Option Addr) (c2 : Nat) (t3 : S29 × Int) (A3 : Option Addr) (c3 : Nat) (A4 : Option Addr) (c4 : Nat) (A5 : Option Addr) (c5 : Nat) (nx4 : Nat) (t4 : S29 × Int) (A6 : Option Addr) (c6 : Nat) (A7 : Option Addr) (c7 : Nat) (A8 : Option Addr) (c8 : Nat) (nx5 : Nat) (t5 : Int) (t6 : Int) (i : Nat) (u : Nat → Wt) : List (Nat × Value) := foldPut ⟨124, []⟩ [(5, .bool t1), (6, .slice A1 t2.length c1), (7, i6 (W .i64 (1 + (W .i64 (a1.tmod 1000))))), (8, .slice A2 x1.length c2), (10, pt nx4 0), (12, pt nx5 0)] (O8_74.take i) (((u8d1s a1 t2 A1 c1 x1 A2 c2 t3 A3 c3 A4 c4 A5 c5 t4 A6 c6 A7 c7 A8 c8 t5 t6) u).take i)
theorem u8d1v (a1 : Int) (t1 : Bool) (t2 : List S48) (A1 : Option Addr) (c1 : Nat) (x1 : List S48) (A2 : Option Addr) (c2 : Nat) (t3 : S29 × Int) (A3 : Option Addr) (c3 : Nat) (A4 : Option Addr) (c4 : Nat) (A5 : Option Addr) (c5 : Nat) (nx4 : Nat) (t4 : S29 × Int) (A6 : Option Addr) (c6 : Nat) (A7 : Option Addr) (c7 : Nat) (A8 : Option Addr) (c8 : Nat) (nx5 : Nat) (t5 : Int) (t6 : Int) (u : Nat → Wt) : (u8d1q a1 t1 t2 A1 c1 x1 A2 c2 t3 A3 c3 A4 c4 A5 c5 nx4 t4 A6 c6 A7 c7 A8 c8 nx5 t5 t6 u).map (fun x => (x.1, x.2.1)) = some ((u8d1s a1 t2 A1 c1 x1 A2 c2 t3 A3 c3 A4 c4 A5 c5 t4 A6 c6 A7 c7 A8 c8 t5 t6) u, (u8d1f a1 t1 t2 A1 c1 x1 A2 c2 t3 A3 c3 A4 c4 A5 c5 nx4 t4 A6 c6 A7 c7 A8 c8 nx5 t5 t6 7) u) := by kernel_rfl
theorem u8d1e (a1 : Int) (t1 : Bool) (t2 : List S48) (A1 : Option Addr) (c1 : Nat) (x1 : List S48) (A2 : Option Addr) (c2 : Nat) (t3 : S29 × Int) (A3 : Option Addr) (c3 : Nat) (A4 : Option Addr) (c4 : Nat) (A5 : Option Addr) (c5 : Nat) (nx4 : Nat) (t4 : S29 × Int) (A6 : Option Addr) (c6 : Nat) (A7 : Option Addr) (c7 : Nat) (A8 : Option Addr) (c8 : Nat) (nx5 : Nat) (t5 : Int) (t6 : Int) (u : Nat → Wt) : (u8d1q a1 t1 t2 A1 c1 x1 A2 c2 t3 A3 c3 A4 c4 A5 c5 nx4 t4 A6 c6 A7 c7 A8 c8 nx5 t5 t6 u).map (fun x => x.2.2.map (·.1)) = (u8d1q a1 t1 t2 A1 c1 x1 A2 c2 t3 A3 c3 A4 c4 A5 c5 nx4 t4 A6 c6 A7 c7 A8 c8 nx5 t5 t6 u).map (fun x => x.2.2.map (·.2)) := by kernel_rfl
noncomputable def a8_63n : List Nat := [0, 1, 0, 7, 15, 0, 32, 0, 224, 480, 0, 2016, 4095]
theorem a8_63 : ancs O8_63 [] = a8_63n := by kernel_rfl
theorem a8_63o : drawOk O8_63 a8_63n 12 = true := by kernel_rfl
noncomputable def u8d2l  : List Ld :=
 []
noncomputable def u8d2g (x4 : Int) (g1_ : Nat) (o1_ : Nat) (g2_ : Nat) (o2_ : Nat) : List (Nat × ((Nat → Wt) → Value)) := [(3, fun u => pt g1_ (o1_ + (x4).toNat * 1)), (8, fun u => pt g2_ (o2_ + (x4).toNat * 1))]
noncomputable def u8d2q (a1 : Int) (t1 : Bool) (t2 : List S48) (A1 : Option Addr) (c1 : Nat) (x1 : List S48) (A2 : Option Addr) (c2 : Nat) (t3 : S29 × Int) (A3 : Option Addr) (c3 : Nat) (A4 : Option Addr) (c4 : Nat) (A5 : Option Addr) (c5 : Nat) (nx4 : Nat) (t4 : S29 × Int) (A6 : Option Addr) (c6 : Nat) (A7 : Option Addr) (c7 : Nat) (A8 : Option Addr) (c8 : Nat) (nx5 : Nat) (x4 : Int) (g1_ : Nat) (o1_ : Nat) (g2_ : Nat) (o2_ : Nat) (u : Nat → Wt) : Option (List Value × List (Nat × Value) × List (Nat × Nat)) := qSim Try.prog [(⟨g1_, o1_ + (x4).toNat * 1, none⟩, i6 (t4.1.f2.getD (x4).toNat 0)), (⟨g2_, o2_ + (x4).toNat * 1, none⟩, i6 (t3.1.f2.getD (x4).toNat 0))] [⟨nx4, [.slice A3 t3.1.f0.length c3, .slice A4 t3.1.f1.length c4, .slice A5 t3.1.f2.length c5], 29⟩, ⟨nx5, [.slice A6 t4.1.f0.length c6, .slice A7 t4.1.f1.length c7, .slice A8 t4.1.f2.length c8], 29⟩] O8_63 ⟨124, []⟩ (Ld.vl u8d2l) (u8d2g x4 g1_ o1_ g2_ o2_) u [.no, .l 1, .no, .no, .r 0, .no, .l 0, .no, .no, .r 1, .no, .no] 0 (O8_63.take 12) [(96, .bool (decide (x4 < (t3.1.f2.length : Int)))), (5, .bool t1), (6, .slice A1 t2.length c1), (7, i6 (W .i64 (1 + (W .i64 (a1.tmod 1000))))), (8, .slice A2 x1.length c2), (10, pt nx4 0), (12, pt nx5 0), (14, i6 x4)]
noncomputable def u8d2s (a1 : Int) (t3 : S29 × Int) (A5 : Option Addr) (c5 : Nat) (nx4 : Nat) (t4 : S29 × Int) (A8 : Option Addr) (c8 : Nat) (nx5 : Nat) (x4 : Int) (g1_ : Nat) (o1_ : Nat) (g2_ : Nat) (o2_ : Nat) (u : Nat → Wt) : List Value := [pt nx5 2, .slice A8 t4.1.f2.length c8, i6 x4, pt g1_ (o1_ + (x4).toNat * 1), i6 (t4.1.f2.getD (x4).toNat 0), pt nx4 2, .slice A5 t3.1.f2.length c5, i6 x4, pt g2_ (o2_ + (x4).toNat * 1), i6 (t3.1.f2.getD (x4).toNat 0), i6 (W .i64 (1 + (W .i64 (a1.tmod 1000)))), i6 (W .i64 ((t3.1.f2.getD (x4).toNat 0) * (W .i64 (1 + (W .i64 (a1.tmod 1000))))))]
noncomputable def u8d2f (a1 : Int) (t1 : Bool) (t2 : List S48) (A1 : Option Addr) (c1 : Nat) (x1 : List S48) (A2 : Option Addr) (c2 : Nat) (t3 : S29 × Int) (A5 : Option Addr) (c5 : Nat) (nx4 : Nat) (t4 : S29 × Int) (A8 : Option Addr) (c8 : Nat) (nx5 : Nat) (x4 : Int) (g1_ : Nat) (o1_ : Nat) (g2_ : Nat) (o2_ : Nat) (i : Nat) (u : Nat → Wt) : List (Nat × Value) := foldPut ⟨124, []⟩ [(96, .bool (decide (x4 < (t3.1.f2.length : Int)))), (5, .bool t1), (6, .slice A1 t2.length c1), (7, i6 (W .i64 (1 + (W .i64 (a1.tmod 1000))))), (8, .slice A2 x1.length c2), (10, pt nx4 0), (12, pt nx5 0), (14, i6 x4)] (O8_63.take i) (((u8d2s a1 t3 A5 c5 nx4 t4 A8 c8 nx5 x4 g1_ o1_ g2_ o2_) u).take i)
theorem u8d2v (a1 : Int) (t1 : Bool) (t2 : List S48) (A1 : Option Addr) (c1 : Nat) (x1 : List S48) (A2 : Option Addr) (c2 : Nat) (t3 : S29 × Int) (A3 : Option Addr) (c3 : Nat) (A4 : Option Addr) (c4 : Nat) (A5 : Option Addr) (c5 : Nat) (nx4 : Nat) (t4 : S29 × Int) (A6 : Option Addr) (c6 : Nat) (A7 : Option Addr) (c7 : Nat) (A8 : Option Addr) (c8 : Nat) (nx5 : Nat) (x4 : Int) (g1_ : Nat) (o1_ : Nat) (g2_ : Nat) (o2_ : Nat) (u : Nat → Wt) : (u8d2q a1 t1 t2 A1 c1 x1 A2 c2 t3 A3 c3 A4 c4 A5 c5 nx4 t4 A6 c6 A7 c7 A8 c8 nx5 x4 g1_ o1_ g2_ o2_ u).map (fun x => (x.1, x.2.1)) = some ((u8d2s a1 t3 A5 c5 nx4 t4 A8 c8 nx5 x4 g1_ o1_ g2_ o2_) u, (u8d2f a1 t1 t2 A1 c1 x1 A2 c2 t3 A5 c5 nx4 t4 A8 c8 nx5 x4 g1_ o1_ g2_ o2_ 12) u) := by kernel_rfl
theorem u8d2e (a1 : Int) (t1 : Bool) (t2 : List S48) (A1 : Option Addr) (c1 : Nat) (x1 : List S48) (A2 : Option Addr) (c2 : Nat) (t3 : S29 × Int) (A3 : Option Addr) (c3 : Nat) (A4 : Option Addr) (c4 : Nat) (A5 : Option Addr) (c5 : Nat) (nx4 : Nat) (t4 : S29 × Int) (A6 : Option Addr) (c6 : Nat) (A7 : Option Addr) (c7 : Nat) (A8 : Option Addr) (c8 : Nat) (nx5 : Nat) (x4 : Int) (g1_ : Nat) (o1_ : Nat) (g2_ : Nat) (o2_ : Nat) (u : Nat → Wt) : (u8d2q a1 t1 t2 A1 c1 x1 A2 c2 t3 A3 c3 A4 c4 A5 c5 nx4 t4 A6 c6 A7 c7 A8 c8 nx5 x4 g1_ o1_ g2_ o2_ u).map (fun x => x.2.2.map (·.1)) = (u8d2q a1 t1 t2 A1 c1 x1 A2 c2 t3 A3 c3 A4 c4 A5 c5 nx4 t4 A6 c6 A7 c7 A8 c8 nx5 x4 g1_ o1_ g2_ o2_ u).map (fun x => x.2.2.map (·.2)) := by kernel_rfl
noncomputable def a8_27n : List Nat := [0, 0, 0, 6, 14, 30, 0, 0, 192, 448, 960, 0, 0, 6144, 14336, 30720, 0, 129024, 262142, 524286, 1048575, 2097151]
theorem a8_27 : ancs O8_27 [] = a8_27n := by kernel_rfl
theorem a8_27o : drawOk O8_27 a8_27n 20 = true := by kernel_rfl
noncomputable def u8d3l (a1 : Int) (t2 : List S48) (x6 : Int) : List Ld :=
 [⟨19, fun x => .slice (some ⟨(x 0).2.1, 0, none⟩) 1 1, fun x => [RW.kblk (x 0).2.1 48 [i6 ((t2.getD (x6).toNat z48).f0), i6 ((t2.getD (x6).toNat z48).f1), i6 (W .i64 (((t2.getD (x6).toNat z48).f2) * (W .i64 (1 + (W .i64 (a1.tmod 1000))))))]], fun x J => True, fun x J J' h f => trivial⟩]
noncomputable def u8d3g (x6 : Int) (g3_ : Nat) (g4_ : Nat) (g5_ : Nat) : List (Nat × ((Nat → Wt) → Value)) := [(3, fun u => pt g3_ (0 + (x6).toNat * 3)), (8, fun u => pt g4_ (0 + (x6).toNat * 3)), (13, fun u => pt g5_ (0 + (x6).toNat * 3))]
noncomputable def u8d3q (a1 : Int) (t1 : Bool) (t2 : List S48) (A1 : Option Addr) (c1 : Nat) (x5 : List S48) (A9 : Option Addr) (c9 : Nat) (x6 : Int) (g3_ : Nat) (g4_ : Nat) (g5_ : Nat) (u : Nat → Wt) : Option (List Value × List (Nat × Value) × List (Nat × Nat)) := qSim Try.prog [(⟨g3_, 0 + (x6).toNat * 3, none⟩, i6 ((t2.getD (x6).toNat z48).f0)), (⟨g4_, 0 + (x6).toNat * 3 + 1, none⟩, i6 ((t2.getD (x6).toNat z48).f1)), (⟨g5_, 0 + (x6).toNat * 3 + 2, none⟩, i6 ((t2.getD (x6).toNat z48).f2))] [] O8_27 ⟨124, []⟩ (Ld.vl (u8d3l a1 t2 x6)) (u8d3g x6 g3_ g4_ g5_) u [.no, .no, .no, .no, .no, .r 0, .no, .no, .no, .no, .r 1, .no, .no, .no, .no, .r 2, .no, .no, .no, .no] 0 (O8_27.take 20) [(26, .bool (decide (x6 < (t2.length : Int)))), (5, .bool t1), (6, .slice A1 t2.length c1), (7, i6 (W .i64 (1 + (W .i64 (a1.tmod 1000))))), (8, .slice A9 x5.length c9), (9, i6 x6)]
noncomputable def u8d3s (a1 : Int) (t2 : List S48) (A1 : Option Addr) (c1 : Nat) (x5 : List S48) (A9 : Option Addr) (c9 : Nat) (x6 : Int) (g3_ : Nat) (g4_ : Nat) (g5_ : Nat) (u : Nat → Wt) : List Value := [.slice A9 x5.length c9, .slice A1 t2.length c1, i6 x6, pt g3_ (0 + (x6).toNat * 3), pt g3_ (0 + (x6).toNat * 3), i6 ((t2.getD (x6).toNat z48).f0), .slice A1 t2.length c1, i6 x6, pt g4_ (0 + (x6).toNat * 3), pt g4_ (0 + (x6).toNat * 3 + 1), i6 ((t2.getD (x6).toNat z48).f1), .slice A1 t2.length c1, i6 x6, pt g5_ (0 + (x6).toNat * 3), pt g5_ (0 + (x6).toNat * 3 + 2), i6 ((t2.getD (x6).toNat z48).f2), i6 (W .i64 (1 + (W .i64 (a1.tmod 1000)))), i6 (W .i64 (((t2.getD (x6).toNat z48).f2) * (W .i64 (1 + (W .i64 (a1.tmod 1000)))))), .agg #[i6 ((t2.getD (x6).toNat z48).f0), i6 ((t2.getD (x6).toNat z48).f1), i6 (W .i64 (((t2.getD (x6).toNat z48).f2) * (W .i64 (1 + (W .i64 (a1.tmod 1000))))))], .slice (some ⟨(u 19 0).2.1, 0, none⟩) 1 1]
noncomputable def u8d3f (a1 : Int) (t1 : Bool) (t2 : List S48) (A1 : Option Addr) (c1 : Nat) (x5 : List S48) (A9 : Option Addr) (c9 : Nat) (x6 : Int) (g3_ : Nat) (g4_ : Nat) (g5_ : Nat) (i : Nat) (u : Nat → Wt) : List (Nat × Value) := foldPut ⟨124, []⟩ [(26, .bool (decide (x6 < (t2.length : Int)))), (5, .bool t1), (6, .slice A1 t2.length c1), (7, i6 (W .i64 (1 + (W .i64 (a1.tmod 1000))))), (8, .slice A9 x5.length c9), (9, i6 x6)] (O8_27.take i) (((u8d3s a1 t2 A1 c1 x5 A9 c9 x6 g3_ g4_ g5_) u).take i)
theorem u8d3v (a1 : Int) (t1 : Bool) (t2 : List S48) (A1 : Option Addr) (c1 : Nat) (x5 : List S48) (A9 : Option Addr) (c9 : Nat) (x6 : Int) (g3_ : Nat) (g4_ : Nat) (g5_ : Nat) (u : Nat → Wt) : (u8d3q a1 t1 t2 A1 c1 x5 A9 c9 x6 g3_ g4_ g5_ u).map (fun x => (x.1, x.2.1)) = some ((u8d3s a1 t2 A1 c1 x5 A9 c9 x6 g3_ g4_ g5_) u, (u8d3f a1 t1 t2 A1 c1 x5 A9 c9 x6 g3_ g4_ g5_ 20) u) := by kernel_rfl
theorem u8d3e (a1 : Int) (t1 : Bool) (t2 : List S48) (A1 : Option Addr) (c1 : Nat) (x5 : List S48) (A9 : Option Addr) (c9 : Nat) (x6 : Int) (g3_ : Nat) (g4_ : Nat) (g5_ : Nat) (u : Nat → Wt) : (u8d3q a1 t1 t2 A1 c1 x5 A9 c9 x6 g3_ g4_ g5_ u).map (fun x => x.2.2.map (·.1)) = (u8d3q a1 t1 t2 A1 c1 x5 A9 c9 x6 g3_ g4_ g5_ u).map (fun x => x.2.2.map (·.2)) := by kernel_rfl
theorem armillarylaw23_AuctionScaled.calls (k : Nat) (I0 : Imm) (a0 : List S48) (Ap0 : Option Addr) (cp0 : Nat) (a1 : Int) (w : World) (hI : I0.at_ w) (hlp0 : a0.length ≤ cp0) (hrp0 : Rd t48 I0 Ap0 a0) (r : Bool) (h : armillarylaw23_AuctionScaled.f k a0 a1 = some r) :
  Calls Try.prog 8 [.slice Ap0 a0.length cp0, .int .u16 a1].toArray w fun e w' => ∃ v, e = .returned v ∧ armillarylaw23_AuctionScaled.Post I0 w r v w' := by
 have H : ((armillarylaw23_sanity.f k ).bind fun t1 => ((armillaryref23_Made.f k a0).bind fun t2 => ((armillarylaw23_AuctionScaled.l2 a1 t2 k ([] : List S48) 0).bind (armillarylaw23_AuctionScaled.k4 k a1 t1 t2)))) = some r := h
 clear h
 refine calls_body Try.func8 (by kernel_rfl) 124 (by kernel_rfl) (by kernel_rfl) ⟨w, fun _ => False, I0⟩ I0 [] [(0, .slice Ap0 a0.length cp0), (1, .int .u16 a1)] (by kernel_rfl) (Sat.start w _ I0 hI) ?_
 generalize w.heap.size = nx0
 show OK _ K8_0 _ _ _ _ _ _ _ _
 refine OK.sr ?_
 refine RL.st 1 [(0, .slice Ap0 a0.length cp0), (1, .int .u16 a1)] ?_
 refine OK.sr ?_
 obtain ⟨t1, hA1, H⟩ := bnd H
 refine RL.callP 11 [] (some 15) (fun w => armillarylaw23_sanity.Post I0 w t1) (by kernel_rfl) (by kernel_rfl) (fun w hs => armillarylaw23_sanity.calls k I0  w hs.im  t1 hA1) ?_
 rintro w v w' hs ⟨I1, rfl, hg⟩
 have hi1 := hg.le
 refine RL.resume (X' := []) rfl (hs.call hg) ?_
 clear hs hg
 generalize w'.heap.size = nx1
 clear w w'
 refine RL.st 1 [(5, .bool t1), (0, .slice Ap0 a0.length cp0), (1, .int .u16 a1)] ?_
 refine OK.sr ?_
 refine RL.s 1 [(16, .slice Ap0 a0.length cp0), (5, .bool t1), (1, .int .u16 a1)] ?_
 obtain ⟨t2, hA2, H⟩ := bnd H
 refine RL.callP 14 [.slice Ap0 a0.length cp0] (some 17) (fun w => armillaryref23_Made.Post I1 w t2) (by kernel_rfl) (by kernel_rfl) (fun w hs => armillaryref23_Made.calls k I1 a0 Ap0 cp0 w hs.im hlp0 (Rd.ext hi1 hrp0) t2 hA2) ?_
 rintro w v w' hs ⟨I2, A1, c1, cs1, rfl, hg, hp1⟩
 have hi2 := hg.le
 refine RL.resume (X' := [orow 48 3 A1 t2.length c1 cs1]) rfl (hs.call hg) ?_
 clear hs hg
 generalize w'.heap.size = nx2
 clear w w'
 refine RL.st 6 [(7, i6 (W .i64 (1 + (W .i64 (a1.tmod 1000))))), (6, .slice A1 t2.length c1), (5, .bool t1)] ?_
 refine OK.sr ?_
 refine RL.spt 2 [(8, .slice (some ⟨nx2, 0, none⟩) 0 0), (7, i6 (W .i64 (1 + (W .i64 (a1.tmod 1000))))), (6, .slice A1 t2.length c1), (5, .bool t1)] (nx2 + 1) [⟨nx2, [], 48⟩] ?_
 refine OK.sq ?_
 refine OK.sr ?_
 refine RL.st 1 [(9, i6 0), (8, .slice (some ⟨nx2, 0, none⟩) 0 0), (7, i6 (W .i64 (1 + (W .i64 (a1.tmod 1000))))), (6, .slice A1 t2.length c1), (5, .bool t1)] ?_
 refine OK.join (fun K' I' _ L' X' => ∃ (x1 : List S48) (A2 : Option Addr) (c2 : Nat) (cs2 : List Value), K' = [(5, .bool t1), (6, .slice A1 t2.length c1), (7, i6 (W .i64 (1 + (W .i64 (a1.tmod 1000))))), (8, .slice A2 x1.length c2)] ∧ L' = [] ∧ X' = [orow 48 3 A1 t2.length c1 cs1, orow 48 3 A2 x1.length c2 cs2] ∧ Imm.le I2 I' ∧ Reps t48 I' x1 cs2 ∧ armillarylaw23_AuctionScaled.k4 k a1 t1 t2 x1 = some r) ?_ ?_
 ·rintro _ I3 nx3 _ _ ⟨x1, A2, c2, cs2, rfl, rfl, rfl, hi3, hp2, H⟩
  rw [armillarylaw23_AuctionScaled.k4] at H
  refine QN.then_ ?_
  refine OK.sr ?_
  refine RL.s 1 [(51, .slice A1 t2.length c1), (5, .bool t1), (6, .slice A1 t2.length c1), (7, i6 (W .i64 (1 + (W .i64 (a1.tmod 1000))))), (8, .slice A2 x1.length c2)] ?_
  refine RL.freeze (e := 48) (sz := 3) (S := A1) (n := t2.length) (cap := c1) 0 (by kernel_rfl) (Reps.ext hi3 hp1) rfl (fun I4 hi4 hl1 hr1 => ?_)
  skip
  obtain ⟨t3, hA3, H⟩ := bnd H
  refine RL.callP 15 [.slice A1 t2.length c1] (some 52) (fun w => auction_Clear.Post I4 w t3) (by kernel_rfl) (by kernel_rfl) (fun w hs => auction_Clear.calls k I4 t2 A1 c1 w hs.im hl1 hr1 t3 hA3) ?_
  rintro w v w' hs ⟨I5, A3, c3, cs3, A4, c4, cs4, A5, c5, cs5, rfl, hg, hp3, hp4, hp5⟩
  have hi5 := hg.le
  refine RL.resume (X' := [orow 48 3 A2 x1.length c2 cs2, orow 3 1 A3 t3.1.f0.length c3 cs3, orow 3 1 A4 t3.1.f1.length c4 cs4, orow 2 1 A5 t3.1.f2.length c5 cs5]) rfl (hs.call hg) ?_
  clear hs hg
  generalize w'.heap.size = nx4
  clear w w'
  refine RL.freeze (e := 3) (sz := 1) (S := A3) (n := t3.1.f0.length) (cap := c3) 1 (by kernel_rfl) hp3 rfl (fun I6 hi6 hl2 hr2 => ?_)
  skip
  refine RL.freeze (e := 3) (sz := 1) (S := A4) (n := t3.1.f1.length) (cap := c4) 1 (by kernel_rfl) (Reps.ext hi6 hp4) rfl (fun I7 hi7 hl3 hr3 => ?_)
  skip
  refine RL.freeze (e := 2) (sz := 1) (S := A5) (n := t3.1.f2.length) (cap := c5) 1 (by kernel_rfl) (Reps.ext (Imm.le_trans hi6 hi7) hp5) rfl (fun I8 hi8 hl4 hr4 => ?_)
  skip
  refine RL.simP (K' := [(11, i6 t3.2), (10, pt nx4 0), (5, .bool t1), (6, .slice A1 t2.length c1), (7, i6 (W .i64 (1 + (W .i64 (a1.tmod 1000))))), (8, .slice A2 x1.length c2)]) (nx' := nx4 + 1) (L' := [⟨nx4, [.slice A3 t3.1.f0.length c3, .slice A4 t3.1.f1.length c4, .slice A5 t3.1.f2.length c5], 29⟩]) [] (RFacts.nil _ _ _) 6 [.no, .no, .no, .no, .l 0, .no] (by kernel_rfl) (by kernel_rfl) ?_
  refine RL.nt ?_
  refine OK.sr ?_
  refine RL.s 1 [(56, .slice A2 x1.length c2), (11, i6 t3.2), (10, pt nx4 0), (5, .bool t1), (6, .slice A1 t2.length c1), (7, i6 (W .i64 (1 + (W .i64 (a1.tmod 1000))))), (8, .slice A2 x1.length c2)] ?_
  refine RL.freeze (e := 48) (sz := 3) (S := A2) (n := x1.length) (cap := c2) 0 (by kernel_rfl) (Reps.ext (Imm.le_trans (Imm.le_trans (Imm.le_trans (Imm.le_trans hi4 hi5) hi6) hi7) hi8) hp2) rfl (fun I9 hi9 hl5 hr5 => ?_)
  skip
  obtain ⟨t4, hA4, H⟩ := bnd H
  refine RL.callP 15 [.slice A2 x1.length c2] (some 57) (fun w => auction_Clear.Post I9 w t4) (by kernel_rfl) (by kernel_rfl) (fun w hs => auction_Clear.calls k I9 x1 A2 c2 w hs.im hl5 hr5 t4 hA4) ?_
  rintro w v w' hs ⟨I10, A6, c6, cs6, A7, c7, cs7, A8, c8, cs8, rfl, hg, hp6, hp7, hp8⟩
  have hi10 := hg.le
  refine RL.resume (X' := [orow 3 1 A6 t4.1.f0.length c6 cs6, orow 3 1 A7 t4.1.f1.length c7 cs7, orow 2 1 A8 t4.1.f2.length c8 cs8]) rfl (hs.call hg) ?_
  clear hs hg
  generalize w'.heap.size = nx5
  clear w w'
  refine RL.freeze (e := 3) (sz := 1) (S := A6) (n := t4.1.f0.length) (cap := c6) 0 (by kernel_rfl) hp6 rfl (fun I11 hi11 hl6 hr6 => ?_)
  skip
  refine RL.freeze (e := 3) (sz := 1) (S := A7) (n := t4.1.f1.length) (cap := c7) 0 (by kernel_rfl) (Reps.ext hi11 hp7) rfl (fun I12 hi12 hl7 hr7 => ?_)
  skip
  refine RL.freeze (e := 2) (sz := 1) (S := A8) (n := t4.1.f2.length) (cap := c8) 0 (by kernel_rfl) (Reps.ext (Imm.le_trans hi11 hi12) hp8) rfl (fun I13 hi13 hl8 hr8 => ?_)
  skip
  refine RL.simP (K' := [(13, i6 t4.2), (12, pt nx5 0), (11, i6 t3.2), (10, pt nx4 0), (5, .bool t1), (6, .slice A1 t2.length c1), (7, i6 (W .i64 (1 + (W .i64 (a1.tmod 1000))))), (8, .slice A2 x1.length c2)]) (nx' := nx5 + 1) (L' := [⟨nx4, [.slice A3 t3.1.f0.length c3, .slice A4 t3.1.f1.length c4, .slice A5 t3.1.f2.length c5], 29⟩, ⟨nx5, [.slice A6 t4.1.f0.length c6, .slice A7 t4.1.f1.length c7, .slice A8 t4.1.f2.length c8], 29⟩]) [] (RFacts.nil _ _ _) 6 [.no, .no, .no, .no, .l 1, .no] (by kernel_rfl) (by kernel_rfl) ?_
  refine RL.nt ?_
  refine OK.sq ?_
  refine OK.sq ?_
  refine OK.join (fun K' I' _ L' X' => ∃ (x2 : Bool), K' = [(5, .bool t1), (6, .slice A1 t2.length c1), (7, i6 (W .i64 (1 + (W .i64 (a1.tmod 1000))))), (8, .slice A2 x1.length c2), (10, pt nx4 0), (12, pt nx5 0), (91, .bool x2)] ∧ L' = [⟨nx4, [.slice A3 t3.1.f0.length c3, .slice A4 t3.1.f1.length c4, .slice A5 t3.1.f2.length c5], 29⟩, ⟨nx5, [.slice A6 t4.1.f0.length c6, .slice A7 t4.1.f1.length c7, .slice A8 t4.1.f2.length c8], 29⟩] ∧ X' = [] ∧ Imm.le I13 I' ∧ armillarylaw23_AuctionScaled.k3 k a1 t1 t2 x1 t3 t4 x2 = some r) ?_ ?_
  ·rintro _ I14 nx6 _ _ ⟨x2, rfl, rfl, rfl, hi14, H⟩
   rw [armillarylaw23_AuctionScaled.k3] at H
   refine QN.then_ ?_
   refine OK.cd x2 (fun hb => ?_) (fun hb => ?_)
   ·skip
    have hc := hb
    rw [if_pos hc] at H
    clear hb
    refine OK.sr ?_
    refine RL.st 1 [(4, .bool false)] ?_
    refine OK.re ?_
    refine QN.thenR ?_
    obtain rfl := Option.some.inj H
    refine QN.body rfl [] (RFacts.nil _ _ _) (.no) (.bool false) (by kernel_rfl) (by kernel_rfl) (by kernel_rfl) ?_ _ (.inr rfl)
    exact fun w' hs' => ⟨_, rfl, I14, rfl, hs'.got _ .slnil⟩
   ·skip
    have hc := (Bool.eq_false_iff.1 hb)
    rw [if_neg hc] at H
    clear hb
    refine OK.skt ?_
    refine OK.sq ?_
    refine OK.sr ?_
    refine RL.st 1 [(14, i6 0), (5, .bool t1), (6, .slice A1 t2.length c1), (7, i6 (W .i64 (1 + (W .i64 (a1.tmod 1000))))), (8, .slice A2 x1.length c2), (10, pt nx4 0), (12, pt nx5 0)] ?_
    refine OK.join (fun K' I' _ L' X' => K' = [(5, .bool t1), (6, .slice A1 t2.length c1), (7, i6 (W .i64 (1 + (W .i64 (a1.tmod 1000))))), (8, .slice A2 x1.length c2), (10, pt nx4 0), (12, pt nx5 0)] ∧ L' = [⟨nx4, [.slice A3 t3.1.f0.length c3, .slice A4 t3.1.f1.length c4, .slice A5 t3.1.f2.length c5], 29⟩, ⟨nx5, [.slice A6 t4.1.f0.length c6, .slice A7 t4.1.f1.length c7, .slice A8 t4.1.f2.length c8], 29⟩] ∧ X' = [] ∧ Imm.le I14 I' ∧ armillarylaw23_AuctionScaled.k2 k a1 t1 t2 x1 t3 t4 (Sum.inl ()) = some r) ?_ ?_
    ·rintro _ I15 nx7 _ _ ⟨rfl, rfl, rfl, hi15, H⟩
     rw [armillarylaw23_AuctionScaled.k2] at H
     refine QN.then_ ?_
     refine OK.sq ?_
     refine OK.join (fun K' I' _ L' X' => ∃ (x3 : Bool), K' = [(4, .bool x3)] ∧ L' = [⟨nx4, [.slice A3 t3.1.f0.length c3, .slice A4 t3.1.f1.length c4, .slice A5 t3.1.f2.length c5], 29⟩, ⟨nx5, [.slice A6 t4.1.f0.length c6, .slice A7 t4.1.f1.length c7, .slice A8 t4.1.f2.length c8], 29⟩] ∧ X' = [] ∧ Imm.le I15 I' ∧ armillarylaw23_AuctionScaled.k1 x3 = some r) ?_ ?_
     ·rintro _ I16 nx8 _ _ ⟨x3, rfl, rfl, rfl, hi16, H⟩
      rw [armillarylaw23_AuctionScaled.k1] at H
      refine QN.then_ ?_
      refine OK.re ?_
      obtain rfl := Option.some.inj H
      refine QN.body rfl [] (RFacts.nil _ _ _) (.no) (.bool x3) (by kernel_rfl) (by kernel_rfl) (by kernel_rfl) ?_ _ (.inr rfl)
      exact fun w' hs' => ⟨_, rfl, I16, rfl, hs'.got _ .slnil⟩
     ·intro Q_1 hJ4 hQ4
      obtain ⟨y4, H, HK4⟩ := bnd H
      obtain ⟨t5, hA5, H⟩ := bnd H
      obtain ⟨t6, hA6, H⟩ := bnd H
      refine OK.drawnC 17 7 O8_74 a8_74n (by kernel_rfl) (by kernel_rfl) (u8d1l t5 t6) u8d1g [] (RI.nil _) [.no, .l 1, .no, .no, .no, .l 0, .no] a8_74 a8_74o (by kernel_rfl) (by kernel_rfl) (u8d1s a1 t2 A1 c1 x1 A2 c2 t3 A3 c3 A4 c4 A5 c5 t4 A6 c6 A7 c7 A8 c8 t5 t6) (u8d1f a1 t1 t2 A1 c1 x1 A2 c2 t3 A3 c3 A4 c4 A5 c5 nx4 t4 A6 c6 A7 c7 A8 c8 nx5 t5 t6 7) (u8d1v a1 t1 t2 A1 c1 x1 A2 c2 t3 A3 c3 A4 c4 A5 c5 nx4 t4 A6 c6 A7 c7 A8 c8 nx5 t5 t6) (u8d1e a1 t1 t2 A1 c1 x1 A2 c2 t3 A3 c3 A4 c4 A5 c5 nx4 t4 A6 c6 A7 c7 A8 c8 nx5 t5 t6) [u8d1f a1 t1 t2 A1 c1 x1 A2 c2 t3 A3 c3 A4 c4 A5 c5 nx4 t4 A6 c6 A7 c7 A8 c8 nx5 t5 t6 2, u8d1f a1 t1 t2 A1 c1 x1 A2 c2 t3 A3 c3 A4 c4 A5 c5 nx4 t4 A6 c6 A7 c7 A8 c8 nx5 t5 t6 6] (framesOk.cons (fun u => rfl) (framesOk.cons (fun u => rfl) framesOk.nil)) ?_ [] framesOk.nil ?_ ?_
      ·refine LoudsG.cons ?_ (LoudsG.cons ?_ (LoudsG.nil))
       ·intro D u J w hp hJ hs hF
        refine Does.call 23 [.slice A2 x1.length c2, .agg #[.slice A6 t4.1.f0.length c6, .slice A7 t4.1.f1.length c7, .slice A8 t4.1.f2.length c8]] (by kernel_rfl) ((auction_Welfare.calls k J x1 A2 c2 t4.1 A6 c6 A7 c7 A8 c8 w hs.im hl5 (Rd.ext (Imm.le_trans (Imm.le_trans (Imm.le_trans (Imm.le_trans (Imm.le_trans (Imm.le_trans hi10 hi11) hi12) hi13) hi14) hi15) hJ) hr5) hl6 (Rd.ext (Imm.le_trans (Imm.le_trans (Imm.le_trans (Imm.le_trans hi12 hi13) hi14) hi15) hJ) hr6) hl7 (Rd.ext (Imm.le_trans (Imm.le_trans (Imm.le_trans hi13 hi14) hi15) hJ) hr7) hl8 (Rd.ext (Imm.le_trans (Imm.le_trans hi14 hi15) hJ) hr8) t5 hA5).mono ?_)
        rintro e w' ⟨v, rfl, J2, rfl, hg⟩
        exact ⟨_, rfl, fun _ => (none, 0, []), J2, rfl, hg, trivial⟩
       ·intro D u J w hp hJ hs hF
        refine Does.call 23 [.slice A1 t2.length c1, .agg #[.slice A3 t3.1.f0.length c3, .slice A4 t3.1.f1.length c4, .slice A5 t3.1.f2.length c5]] (by kernel_rfl) ((auction_Welfare.calls k J t2 A1 c1 t3.1 A3 c3 A4 c4 A5 c5 w hs.im hl1 (Rd.ext (Imm.le_trans (Imm.le_trans (Imm.le_trans (Imm.le_trans (Imm.le_trans (Imm.le_trans (Imm.le_trans (Imm.le_trans (Imm.le_trans (Imm.le_trans (Imm.le_trans hi5 hi6) hi7) hi8) hi9) hi10) hi11) hi12) hi13) hi14) hi15) hJ) hr1) hl2 (Rd.ext (Imm.le_trans (Imm.le_trans (Imm.le_trans (Imm.le_trans (Imm.le_trans (Imm.le_trans (Imm.le_trans (Imm.le_trans (Imm.le_trans hi7 hi8) hi9) hi10) hi11) hi12) hi13) hi14) hi15) hJ) hr2) hl3 (Rd.ext (Imm.le_trans (Imm.le_trans (Imm.le_trans (Imm.le_trans (Imm.le_trans (Imm.le_trans (Imm.le_trans (Imm.le_trans hi8 hi9) hi10) hi11) hi12) hi13) hi14) hi15) hJ) hr3) hl4 (Rd.ext (Imm.le_trans (Imm.le_trans (Imm.le_trans (Imm.le_trans (Imm.le_trans (Imm.le_trans (Imm.le_trans hi9 hi10) hi11) hi12) hi13) hi14) hi15) hJ) hr4) t6 hA6).mono ?_)
        rintro e w' ⟨v, rfl, J2, rfl, hg⟩
        exact ⟨_, rfl, fun _ => (none, 0, []), J2, rfl, hg, trivial⟩
      ·refine Givens.nil
      intro u I17 nx9 hi17 hF
      clear hF
      refine RL.norm (K' := [(118, i6 t6), (117, .agg #[.slice A3 t3.1.f0.length c3, .slice A4 t3.1.f1.length c4, .slice A5 t3.1.f2.length c5]), (116, .slice A1 t2.length c1), (115, i6 (W .i64 (1 + (W .i64 (a1.tmod 1000))))), (114, i6 t5), (113, .agg #[.slice A6 t4.1.f0.length c6, .slice A7 t4.1.f1.length c7, .slice A8 t4.1.f2.length c8]), (112, .slice A2 x1.length c2), (5, .bool t1), (6, .slice A1 t2.length c1), (7, i6 (W .i64 (1 + (W .i64 (a1.tmod 1000))))), (8, .slice A2 x1.length c2), (10, pt nx4 0), (12, pt nx5 0)]) (X' := []) (by kernel_rfl) rfl rfl rfl ?_
      refine RL.s 3 [(121, .bool (t5 == (W .i64 ((W .i64 (1 + (W .i64 (a1.tmod 1000)))) * t6)))), (5, .bool t1)] ?_
      refine RL.cases (t5 == (W .i64 ((W .i64 (1 + (W .i64 (a1.tmod 1000)))) * t6))) (fun hb => ?_) (fun hb => ?_)
      ·have hc := (beq_iff_eq.1 hb)
       rw [hb]
       rw [if_pos hc] at H; clear hb
       refine RL.s 3 [(4, .bool t1)] ?_
       refine RL.nil (by kernel_rfl) ?_
       obtain rfl := Option.some.inj H
       exact QN.sb (hJ4 _ _ _ _ _ ⟨t1, rfl, rfl, rfl, hi17, HK4⟩) (.cons_cons _ (.cons_cons _ .slnil)) (.refl _)
      ·have hc := (beq_eq_false_iff_ne.1 hb)
       rw [hb]
       rw [if_neg hc] at H; clear hb
       refine RL.s 3 [(4, .bool false)] ?_
       refine RL.nil (by kernel_rfl) ?_
       obtain rfl := Option.some.inj H
       exact QN.sb (hJ4 _ _ _ _ _ ⟨false, rfl, rfl, rfl, hi17, HK4⟩) (.cons_cons _ (.cons_cons _ .slnil)) (.refl _)
    ·intro Q_2 hJ3 hQ3
     obtain ⟨y3, H, HK3⟩ := bnd H
     refine OK.bk 2 ?_
     refine OK.sub (K' := [(5, .bool t1), (6, .slice A1 t2.length c1), (7, i6 (W .i64 (1 + (W .i64 (a1.tmod 1000))))), (8, .slice A2 x1.length c2), (10, pt nx4 0), (12, pt nx5 0), (14, i6 0)]) (L' := [⟨nx4, [.slice A3 t3.1.f0.length c3, .slice A4 t3.1.f1.length c4, .slice A5 t3.1.f2.length c5], 29⟩, ⟨nx5, [.slice A6 t4.1.f0.length c6, .slice A7 t4.1.f1.length c7, .slice A8 t4.1.f2.length c8], 29⟩]) (by kernel_rfl) (.cons_cons _ (.cons_cons _ .slnil)) (.refl _) ?_
     refine OK.lp (fun n_ K' I' _ L' X' => ∃ (x4 : Int), K' = [(5, .bool t1), (6, .slice A1 t2.length c1), (7, i6 (W .i64 (1 + (W .i64 (a1.tmod 1000))))), (8, .slice A2 x1.length c2), (10, pt nx4 0), (12, pt nx5 0), (14, i6 x4)] ∧ L' = [⟨nx4, [.slice A3 t3.1.f0.length c3, .slice A4 t3.1.f1.length c4, .slice A5 t3.1.f2.length c5], 29⟩, ⟨nx5, [.slice A6 t4.1.f0.length c6, .slice A7 t4.1.f1.length c7, .slice A8 t4.1.f2.length c8], 29⟩] ∧ X' = [] ∧ Imm.le I14 I' ∧ armillarylaw23_AuctionScaled.l1 a1 t3 t4 n_ x4 = some y3) k ⟨0, rfl, rfl, rfl, (Imm.le_refl _), H⟩ ?_ ?_
     ·rintro _ _ _ _ _ ⟨x4, rfl, rfl, rfl, _, H⟩
      cases H
     ·rintro kq1 _ I18 nx10 _ _ ⟨x4, rfl, rfl, rfl, hi18, H⟩ Q_l1 hJ5 hQ5
      rw [armillarylaw23_AuctionScaled.l1] at H
      refine OK.sq ?_
      refine OK.sr ?_
      refine RL.simK (K' := [(96, .bool (decide (x4 < (t3.1.f2.length : Int)))), (5, .bool t1), (6, .slice A1 t2.length c1), (7, i6 (W .i64 (1 + (W .i64 (a1.tmod 1000))))), (8, .slice A2 x1.length c2), (10, pt nx4 0), (12, pt nx5 0), (14, i6 x4)]) [] (RFacts.nil _ _ _) 5 [.no, .no, .l 0, .no, .no] (by kernel_rfl) (by kernel_rfl) ?_
      refine RL.nt ?_
      refine OK.cd (decide (x4 < (t3.1.f2.length : Int))) (fun hb => ?_) (fun hb => ?_)
      ·skip
       have hc := (of_decide_eq_true hb)
       rw [if_pos hc] at H
       clear hb
       refine OK.skt ?_
       refine OK.sq ?_
       refine OK.bk 3 ?_
       refine OK.sq ?_
       obtain ⟨hi0_1, H⟩ := ifs H
       obtain ⟨hi1_1, H⟩ := ifs H
       obtain ⟨g1_, o1_, hA1_, hc1_⟩ := Ty.int_at (Rd.ext (Imm.le_trans hi14 hi18) hr8) x4 hi0_1 hi1_1
       obtain ⟨hi0_2, H⟩ := ifs H
       obtain ⟨hi1_2, H⟩ := ifs H
       obtain ⟨g2_, o2_, hA2_, hc2_⟩ := Ty.int_at (Rd.ext (Imm.le_trans (Imm.le_trans (Imm.le_trans (Imm.le_trans (Imm.le_trans (Imm.le_trans hi9 hi10) hi11) hi12) hi13) hi14) hi18) hr4) x4 hi0_2 hi1_2
       refine OK.drawnC 15 12 O8_63 a8_63n (by kernel_rfl) (by kernel_rfl) u8d2l (u8d2g x4 g1_ o1_ g2_ o2_) [(⟨g1_, o1_ + (x4).toNat * 1, none⟩, i6 (t4.1.f2.getD (x4).toNat 0)), (⟨g2_, o2_ + (x4).toNat * 1, none⟩, i6 (t3.1.f2.getD (x4).toNat 0))] (RI.cons (hc1_ 0 _ rfl) (RI.cons (hc2_ 0 _ rfl) (RI.nil _))) [.no, .l 1, .no, .no, .r 0, .no, .l 0, .no, .no, .r 1, .no, .no] a8_63 a8_63o (by kernel_rfl) (by kernel_rfl) (u8d2s a1 t3 A5 c5 nx4 t4 A8 c8 nx5 x4 g1_ o1_ g2_ o2_) (u8d2f a1 t1 t2 A1 c1 x1 A2 c2 t3 A5 c5 nx4 t4 A8 c8 nx5 x4 g1_ o1_ g2_ o2_ 12) (u8d2v a1 t1 t2 A1 c1 x1 A2 c2 t3 A3 c3 A4 c4 A5 c5 nx4 t4 A6 c6 A7 c7 A8 c8 nx5 x4 g1_ o1_ g2_ o2_) (u8d2e a1 t1 t2 A1 c1 x1 A2 c2 t3 A3 c3 A4 c4 A5 c5 nx4 t4 A6 c6 A7 c7 A8 c8 nx5 x4 g1_ o1_ g2_ o2_) [] framesOk.nil ?_ [u8d2f a1 t1 t2 A1 c1 x1 A2 c2 t3 A5 c5 nx4 t4 A8 c8 nx5 x4 g1_ o1_ g2_ o2_ 3, u8d2f a1 t1 t2 A1 c1 x1 A2 c2 t3 A5 c5 nx4 t4 A8 c8 nx5 x4 g1_ o1_ g2_ o2_ 8] (framesOk.cons (fun u => rfl) (framesOk.cons (fun u => rfl) framesOk.nil)) ?_ ?_
       ·refine LoudsG.nil
       ·refine Givens.cons (fun u w =>  ?_) (fun _ _ _ => rfl) (Givens.cons (fun u w =>  ?_) (fun _ _ _ => rfl) (Givens.nil))
        ·exact giv_idx (T := 27) (e := 2) 1 .i64 x4 hA1_ t4.1.f2.length c8 (by kernel_rfl) (by kernel_rfl) (by kernel_rfl) hi0_1 hi1_1 w
        ·exact giv_idx (T := 27) (e := 2) 1 .i64 x4 hA2_ t3.1.f2.length c5 (by kernel_rfl) (by kernel_rfl) (by kernel_rfl) hi0_2 hi1_2 w
       intro u I19 nx11 hi19 hF
       clear hF
       refine RL.norm (K' := [(110, i6 (W .i64 ((t3.1.f2.getD (x4).toNat 0) * (W .i64 (1 + (W .i64 (a1.tmod 1000))))))), (109, i6 (W .i64 (1 + (W .i64 (a1.tmod 1000))))), (108, i6 (t3.1.f2.getD (x4).toNat 0)), (107, pt g2_ (o2_ + (x4).toNat * 1)), (106, i6 x4), (105, .slice A5 t3.1.f2.length c5), (104, pt nx4 2), (103, i6 (t4.1.f2.getD (x4).toNat 0)), (102, pt g1_ (o1_ + (x4).toNat * 1)), (101, i6 x4), (100, .slice A8 t4.1.f2.length c8), (99, pt nx5 2), (96, .bool (decide (x4 < (t3.1.f2.length : Int)))), (5, .bool t1), (6, .slice A1 t2.length c1), (7, i6 (W .i64 (1 + (W .i64 (a1.tmod 1000))))), (8, .slice A2 x1.length c2), (10, pt nx4 0), (12, pt nx5 0), (14, i6 x4)]) (X' := []) (by kernel_rfl) rfl rfl rfl ?_
       refine RL.st 1 [(111, .bool ((t4.1.f2.getD (x4).toNat 0) != (W .i64 ((t3.1.f2.getD (x4).toNat 0) * (W .i64 (1 + (W .i64 (a1.tmod 1000)))))))), (5, .bool t1), (6, .slice A1 t2.length c1), (7, i6 (W .i64 (1 + (W .i64 (a1.tmod 1000))))), (8, .slice A2 x1.length c2), (10, pt nx4 0), (12, pt nx5 0), (14, i6 x4)] ?_
       refine OK.cd ((t4.1.f2.getD (x4).toNat 0) != (W .i64 ((t3.1.f2.getD (x4).toNat 0) * (W .i64 (1 + (W .i64 (a1.tmod 1000))))))) (fun hb => ?_) (fun hb => ?_)
       ·skip
        have hc := (bne_iff_ne.1 hb)
        rw [if_pos hc] at H
        clear hb
        refine OK.sr ?_
        refine RL.st 1 [(4, .bool false)] ?_
        refine OK.re ?_
        refine QN.blkR ?_
        refine QN.thenR ?_
        refine QN.outR hQ5 ?_
        refine QN.blkR ?_
        refine QN.outR hQ3 ?_
        refine QN.thenR ?_
        obtain rfl := Option.some.inj H
        replace H : some false = some r := HK3
        obtain rfl := Option.some.inj H
        refine QN.body rfl [] (RFacts.nil _ _ _) (.no) (.bool false) (by kernel_rfl) (by kernel_rfl) (by kernel_rfl) ?_ _ (.inr rfl)
        exact fun w' hs' => ⟨_, rfl, I19, rfl, hs'.got _ .slnil⟩
       ·skip
        have hc := (not_not_intro (bne_eq_false_iff_eq.1 hb))
        rw [if_neg hc] at H
        clear hb
        refine OK.sk ?_
        refine QN.blkN ?_
        refine QN.then_ ?_
        refine OK.rg ?_
        refine RL.s 3 [(14, i6 (W .i64 (x4 + 1))), (5, .bool t1), (6, .slice A1 t2.length c1), (7, i6 (W .i64 (1 + (W .i64 (a1.tmod 1000))))), (8, .slice A2 x1.length c2), (10, pt nx4 0), (12, pt nx5 0)] ?_
        refine RL.nil (by kernel_rfl) ?_
        exact QN.sb (hJ5 _ _ _ _ _ ⟨W .i64 (x4 + 1), rfl, rfl, rfl, (Imm.le_trans hi18 hi19), H⟩) (.cons_cons _ (.cons_cons _ .slnil)) (.refl _)
      ·skip
       have hc := (of_decide_eq_false hb)
       rw [if_neg hc] at H
       clear hb
       refine OK.ex 2 ?_
       refine QN.thenE ?_
       refine QN.outE hQ5 ?_
       refine QN.blkE ?_
       obtain rfl := Option.some.inj H
       exact QN.sb (hJ3 _ _ _ _ _ ⟨rfl, rfl, rfl, hi18, HK3⟩) (.cons_cons _ (.cons_cons _ .slnil)) (.refl _)
  ·intro Q_3 hJ2 hQ2
   obtain ⟨y2, H, HK2⟩ := bnd H
   refine OK.rg ?_
   refine RL.s 3 [(62, .bool (t3.2 != 0)), (13, i6 t4.2), (12, pt nx5 0), (10, pt nx4 0), (5, .bool t1), (6, .slice A1 t2.length c1), (7, i6 (W .i64 (1 + (W .i64 (a1.tmod 1000))))), (8, .slice A2 x1.length c2)] ?_
   refine RL.cases (t3.2 != 0) (fun hb => ?_) (fun hb => ?_)
   ·have hc := (bne_iff_ne.1 hb)
    rw [hb]
    rw [if_pos hc] at H; clear hb
    refine RL.simK (K' := [(91, .bool true), (12, pt nx5 0), (10, pt nx4 0), (5, .bool t1), (6, .slice A1 t2.length c1), (7, i6 (W .i64 (1 + (W .i64 (a1.tmod 1000))))), (8, .slice A2 x1.length c2)]) [] (RFacts.nil _ _ _) 29 (.no :: .no :: .no :: .no :: .no :: .no :: .no :: .no :: .no :: .no :: .no :: .no :: .no :: .no :: .no :: .no :: .no :: .no :: .no :: .no :: .no :: .no :: .no :: .no :: .no :: .no :: .no :: .no :: .no :: []) (by kernel_rfl) (by kernel_rfl) ?_
    refine RL.nil (by kernel_rfl) ?_
    obtain rfl := Option.some.inj H
    exact QN.sb (hJ2 _ _ _ _ _ ⟨true, rfl, rfl, rfl, (Imm.le_refl _), HK2⟩) (.cons_cons _ (.cons_cons _ .slnil)) (.refl _)
   ·have hc := (not_not_intro (bne_eq_false_iff_eq.1 hb))
    rw [hb]
    rw [if_neg hc] at H; clear hb
    refine RL.s 4 [(66, .bool (t4.2 != 0)), (12, pt nx5 0), (10, pt nx4 0), (5, .bool t1), (6, .slice A1 t2.length c1), (7, i6 (W .i64 (1 + (W .i64 (a1.tmod 1000))))), (8, .slice A2 x1.length c2)] ?_
    refine RL.cases (t4.2 != 0) (fun hb => ?_) (fun hb => ?_)
    ·have hc := (bne_iff_ne.1 hb)
     rw [hb]
     rw [if_pos hc] at H; clear hb
     refine RL.s 25 [(91, .bool true), (12, pt nx5 0), (10, pt nx4 0), (5, .bool t1), (6, .slice A1 t2.length c1), (7, i6 (W .i64 (1 + (W .i64 (a1.tmod 1000))))), (8, .slice A2 x1.length c2)] ?_
     refine RL.nil (by kernel_rfl) ?_
     obtain rfl := Option.some.inj H
     exact QN.sb (hJ2 _ _ _ _ _ ⟨true, rfl, rfl, rfl, (Imm.le_refl _), HK2⟩) (.cons_cons _ (.cons_cons _ .slnil)) (.refl _)
    ·have hc := (not_not_intro (bne_eq_false_iff_eq.1 hb))
     rw [hb]
     rw [if_neg hc] at H; clear hb
     refine RL.simK (K' := [(67, .agg #[.slice A3 t3.1.f0.length c3, .slice A4 t3.1.f1.length c4, .slice A5 t3.1.f2.length c5]), (66, .bool false), (12, pt nx5 0), (10, pt nx4 0), (5, .bool t1), (6, .slice A1 t2.length c1), (7, i6 (W .i64 (1 + (W .i64 (a1.tmod 1000))))), (8, .slice A2 x1.length c2)]) [] (RFacts.nil _ _ _) 1 [.l 0] (by kernel_rfl) (by kernel_rfl) ?_
     obtain ⟨t7, hA7, H⟩ := bnd H
     refine RL.callP 25 [.agg #[.slice A3 t3.1.f0.length c3, .slice A4 t3.1.f1.length c4, .slice A5 t3.1.f2.length c5]] (some 68) (fun w => armillarylaw23_shaped.Post I13 w t7) (by kernel_rfl) (by kernel_rfl) (fun w hs => armillarylaw23_shaped.calls I13 t3.1 A3 c3 A4 c4 A5 c5 w hs.im hl2 (Rd.ext (Imm.le_trans (Imm.le_trans (Imm.le_trans (Imm.le_trans (Imm.le_trans (Imm.le_trans hi7 hi8) hi9) hi10) hi11) hi12) hi13) hr2) hl3 (Rd.ext (Imm.le_trans (Imm.le_trans (Imm.le_trans (Imm.le_trans (Imm.le_trans hi8 hi9) hi10) hi11) hi12) hi13) hr3) hl4 (Rd.ext (Imm.le_trans (Imm.le_trans (Imm.le_trans (Imm.le_trans hi9 hi10) hi11) hi12) hi13) hr4) t7 hA7) ?_
     rintro w v w' hs ⟨I20, rfl, hg⟩
     have hi20 := hg.le
     refine RL.resume (X' := []) rfl (hs.call hg) ?_
     clear hs hg
     generalize w'.heap.size = nx12
     clear w w'
     refine RL.s 3 [(71, .bool (!t7)), (12, pt nx5 0), (10, pt nx4 0), (5, .bool t1), (6, .slice A1 t2.length c1), (7, i6 (W .i64 (1 + (W .i64 (a1.tmod 1000))))), (8, .slice A2 x1.length c2)] ?_
     refine RL.cases t7 (fun hb => ?_) (fun hb => ?_)
     ·have hc := hb
      rw [hb]
      rw [if_pos hc] at H; clear hb
      refine RL.simK (K' := [(72, .agg #[.slice A6 t4.1.f0.length c6, .slice A7 t4.1.f1.length c7, .slice A8 t4.1.f2.length c8]), (71, .bool false), (12, pt nx5 0), (10, pt nx4 0), (5, .bool t1), (6, .slice A1 t2.length c1), (7, i6 (W .i64 (1 + (W .i64 (a1.tmod 1000))))), (8, .slice A2 x1.length c2)]) [] (RFacts.nil _ _ _) 1 [.l 1] (by kernel_rfl) (by kernel_rfl) ?_
      obtain ⟨t8, hA8, H⟩ := bnd H
      refine RL.callP 25 [.agg #[.slice A6 t4.1.f0.length c6, .slice A7 t4.1.f1.length c7, .slice A8 t4.1.f2.length c8]] (some 73) (fun w => armillarylaw23_shaped.Post I20 w t8) (by kernel_rfl) (by kernel_rfl) (fun w hs => armillarylaw23_shaped.calls I20 t4.1 A6 c6 A7 c7 A8 c8 w hs.im hl6 (Rd.ext (Imm.le_trans (Imm.le_trans hi12 hi13) hi20) hr6) hl7 (Rd.ext (Imm.le_trans hi13 hi20) hr7) hl8 (Rd.ext hi20 hr8) t8 hA8) ?_
      rintro w v w' hs ⟨I21, rfl, hg⟩
      have hi21 := hg.le
      refine RL.resume (X' := []) rfl (hs.call hg) ?_
      clear hs hg
      generalize w'.heap.size = nx13
      clear w w'
      refine RL.s 3 [(76, .bool (!t8)), (12, pt nx5 0), (10, pt nx4 0), (5, .bool t1), (6, .slice A1 t2.length c1), (7, i6 (W .i64 (1 + (W .i64 (a1.tmod 1000))))), (8, .slice A2 x1.length c2)] ?_
      refine RL.cases t8 (fun hb => ?_) (fun hb => ?_)
      ·have hc := hb
       rw [hb]
       rw [if_pos hc] at H; clear hb
       refine RL.simK (K' := [(80, .slice A6 t4.1.f0.length c6), (78, .slice A3 t3.1.f0.length c3), (76, .bool false), (12, pt nx5 0), (10, pt nx4 0), (5, .bool t1), (6, .slice A1 t2.length c1), (7, i6 (W .i64 (1 + (W .i64 (a1.tmod 1000))))), (8, .slice A2 x1.length c2)]) [] (RFacts.nil _ _ _) 4 [.no, .l 0, .no, .l 1] (by kernel_rfl) (by kernel_rfl) ?_
       obtain ⟨t9, hA9, H⟩ := bnd H
       refine RL.callP 20 [.slice A3 t3.1.f0.length c3, .slice A6 t4.1.f0.length c6] (some 81) (fun w => armillarylaw23_sameInts.Post I21 w t9) (by kernel_rfl) (by kernel_rfl) (fun w hs => armillarylaw23_sameInts.calls k I21 t3.1.f0 A3 c3 t4.1.f0 A6 c6 w hs.im hl2 (Rd.ext (Imm.le_trans (Imm.le_trans (Imm.le_trans (Imm.le_trans (Imm.le_trans (Imm.le_trans (Imm.le_trans (Imm.le_trans hi7 hi8) hi9) hi10) hi11) hi12) hi13) hi20) hi21) hr2) hl6 (Rd.ext (Imm.le_trans (Imm.le_trans (Imm.le_trans hi12 hi13) hi20) hi21) hr6) t9 hA9) ?_
       rintro w v w' hs ⟨I22, rfl, hg⟩
       have hi22 := hg.le
       refine RL.resume (X' := []) rfl (hs.call hg) ?_
       clear hs hg
       generalize w'.heap.size = nx14
       clear w w'
       refine RL.s 3 [(84, .bool (!t9)), (12, pt nx5 0), (10, pt nx4 0), (5, .bool t1), (6, .slice A1 t2.length c1), (7, i6 (W .i64 (1 + (W .i64 (a1.tmod 1000))))), (8, .slice A2 x1.length c2)] ?_
       refine RL.cases t9 (fun hb => ?_) (fun hb => ?_)
       ·have hc := hb
        rw [hb]
        rw [if_pos hc] at H; clear hb
        refine RL.simK (K' := [(88, .slice A7 t4.1.f1.length c7), (86, .slice A4 t3.1.f1.length c4), (84, .bool false), (12, pt nx5 0), (10, pt nx4 0), (5, .bool t1), (6, .slice A1 t2.length c1), (7, i6 (W .i64 (1 + (W .i64 (a1.tmod 1000))))), (8, .slice A2 x1.length c2)]) [] (RFacts.nil _ _ _) 4 [.no, .l 0, .no, .l 1] (by kernel_rfl) (by kernel_rfl) ?_
        obtain ⟨t10, hA10, H⟩ := bnd H
        refine RL.callP 20 [.slice A4 t3.1.f1.length c4, .slice A7 t4.1.f1.length c7] (some 89) (fun w => armillarylaw23_sameInts.Post I22 w t10) (by kernel_rfl) (by kernel_rfl) (fun w hs => armillarylaw23_sameInts.calls k I22 t3.1.f1 A4 c4 t4.1.f1 A7 c7 w hs.im hl3 (Rd.ext (Imm.le_trans (Imm.le_trans (Imm.le_trans (Imm.le_trans (Imm.le_trans (Imm.le_trans (Imm.le_trans (Imm.le_trans hi8 hi9) hi10) hi11) hi12) hi13) hi20) hi21) hi22) hr3) hl7 (Rd.ext (Imm.le_trans (Imm.le_trans (Imm.le_trans hi13 hi20) hi21) hi22) hr7) t10 hA10) ?_
        rintro w v w' hs ⟨I23, rfl, hg⟩
        have hi23 := hg.le
        refine RL.resume (X' := []) rfl (hs.call hg) ?_
        clear hs hg
        generalize w'.heap.size = nx15
        clear w w'
        refine RL.s 2 [(91, .bool (!t10)), (12, pt nx5 0), (10, pt nx4 0), (5, .bool t1), (6, .slice A1 t2.length c1), (7, i6 (W .i64 (1 + (W .i64 (a1.tmod 1000))))), (8, .slice A2 x1.length c2)] ?_
        refine RL.nil (by kernel_rfl) ?_
        obtain rfl := Option.some.inj H
        exact QN.sb (hJ2 _ _ _ _ _ ⟨(!t10), rfl, rfl, rfl, (Imm.le_trans (Imm.le_trans (Imm.le_trans hi20 hi21) hi22) hi23), HK2⟩) (.cons_cons _ (.cons_cons _ .slnil)) (.refl _)
       ·have hc := (Bool.eq_false_iff.1 hb)
        rw [hb]
        rw [if_neg hc] at H; clear hb
        refine RL.s 7 [(91, .bool true), (12, pt nx5 0), (10, pt nx4 0), (5, .bool t1), (6, .slice A1 t2.length c1), (7, i6 (W .i64 (1 + (W .i64 (a1.tmod 1000))))), (8, .slice A2 x1.length c2)] ?_
        refine RL.nil (by kernel_rfl) ?_
        obtain rfl := Option.some.inj H
        exact QN.sb (hJ2 _ _ _ _ _ ⟨true, rfl, rfl, rfl, (Imm.le_trans (Imm.le_trans hi20 hi21) hi22), HK2⟩) (.cons_cons _ (.cons_cons _ .slnil)) (.refl _)
      ·have hc := (Bool.eq_false_iff.1 hb)
       rw [hb]
       rw [if_neg hc] at H; clear hb
       refine RL.s 15 [(91, .bool true), (12, pt nx5 0), (10, pt nx4 0), (5, .bool t1), (6, .slice A1 t2.length c1), (7, i6 (W .i64 (1 + (W .i64 (a1.tmod 1000))))), (8, .slice A2 x1.length c2)] ?_
       refine RL.nil (by kernel_rfl) ?_
       obtain rfl := Option.some.inj H
       exact QN.sb (hJ2 _ _ _ _ _ ⟨true, rfl, rfl, rfl, (Imm.le_trans hi20 hi21), HK2⟩) (.cons_cons _ (.cons_cons _ .slnil)) (.refl _)
     ·have hc := (Bool.eq_false_iff.1 hb)
      rw [hb]
      rw [if_neg hc] at H; clear hb
      refine RL.s 20 [(91, .bool true), (12, pt nx5 0), (10, pt nx4 0), (5, .bool t1), (6, .slice A1 t2.length c1), (7, i6 (W .i64 (1 + (W .i64 (a1.tmod 1000))))), (8, .slice A2 x1.length c2)] ?_
      refine RL.nil (by kernel_rfl) ?_
      obtain rfl := Option.some.inj H
      exact QN.sb (hJ2 _ _ _ _ _ ⟨true, rfl, rfl, rfl, hi20, HK2⟩) (.cons_cons _ (.cons_cons _ .slnil)) (.refl _)
 ·intro Q_4 hJ1 hQ1
  obtain ⟨y1, H, HK1⟩ := bnd H
  refine OK.bk 0 ?_
  refine OK.toRow (b := ⟨nx2, [], 48⟩) 0 0 3 (by kernel_rfl) (by kernel_rfl) (by decide) ?_
  have hp11 : Reps t48 I2 ([] : List S48) [] := rfl
  refine OK.norm (L' := []) (X' := [orow 48 3 A1 t2.length c1 cs1, orow 48 3 (some ⟨nx2, 0, none⟩) (([] : List S48).length) 0 []]) rfl rfl (by kernel_rfl) (by kernel_rfl) ?_
  refine OK.sub (K' := [(5, .bool t1), (6, .slice A1 t2.length c1), (7, i6 (W .i64 (1 + (W .i64 (a1.tmod 1000))))), (8, .slice (some ⟨nx2, 0, none⟩) 0 0), (9, i6 0)]) (L' := []) (by kernel_rfl) .slnil (.refl _) ?_
  refine OK.lp (fun n_ K' I' _ L' X' => ∃ (x5 : List S48) (x6 : Int) (A9 : Option Addr) (c9 : Nat) (cs9 : List Value), K' = [(5, .bool t1), (6, .slice A1 t2.length c1), (7, i6 (W .i64 (1 + (W .i64 (a1.tmod 1000))))), (8, .slice A9 x5.length c9), (9, i6 x6)] ∧ L' = [] ∧ X' = [orow 48 3 A1 t2.length c1 cs1, orow 48 3 A9 x5.length c9 cs9] ∧ Imm.le I2 I' ∧ Reps t48 I' x5 cs9 ∧ armillarylaw23_AuctionScaled.l2 a1 t2 n_ x5 x6 = some y1) k ⟨([] : List S48), 0, (some ⟨nx2, 0, none⟩), 0, [], rfl, rfl, rfl, (Imm.le_refl _), hp11, H⟩ ?_ ?_
  ·rintro _ _ _ _ _ ⟨x5, x6, A9, c9, cs9, rfl, rfl, rfl, _, hp9, H⟩
   cases H
  ·rintro kq2 _ I24 nx16 _ _ ⟨x5, x6, A9, c9, cs9, rfl, rfl, rfl, hi24, hp9, H⟩ Q_l2 hJ6 hQ6
   rw [armillarylaw23_AuctionScaled.l2] at H
   refine OK.sq ?_
   refine OK.sr ?_
   refine RL.st 4 [(26, .bool (decide (x6 < (t2.length : Int)))), (5, .bool t1), (6, .slice A1 t2.length c1), (7, i6 (W .i64 (1 + (W .i64 (a1.tmod 1000))))), (8, .slice A9 x5.length c9), (9, i6 x6)] ?_
   refine OK.cd (decide (x6 < (t2.length : Int))) (fun hb => ?_) (fun hb => ?_)
   ·skip
    have hc := (of_decide_eq_true hb)
    rw [if_pos hc] at H
    clear hb
    refine OK.skt ?_
    refine OK.sq ?_
    refine OK.bk 1 ?_
    obtain ⟨hi0_3, H⟩ := ifs H
    obtain ⟨hi1_3, H⟩ := ifs H
    refine OK.ownAddr (e := 48) (sz := 3) (S := A1) (n := t2.length) (cap := c1) (cs := cs1) 0 (by kernel_rfl) (by omega) (fun g3_ hA3_ => ?_)
    have hc3_ := t48_own (Reps.ext hi24 hp1) x6 hi0_3 hi1_3
    have hx03_ := hi0_3; have hx13_ := hi1_3
    obtain ⟨hi0_4, H⟩ := ifs H
    obtain ⟨hi1_4, H⟩ := ifs H
    refine OK.ownAddr (e := 48) (sz := 3) (S := A1) (n := t2.length) (cap := c1) (cs := cs1) 0 (by kernel_rfl) (by omega) (fun g4_ hA4_ => ?_)
    have hc4_ := t48_own (Reps.ext hi24 hp1) x6 hi0_4 hi1_4
    have hx04_ := hi0_4; have hx14_ := hi1_4
    obtain ⟨hi0_5, H⟩ := ifs H
    obtain ⟨hi1_5, H⟩ := ifs H
    refine OK.ownAddr (e := 48) (sz := 3) (S := A1) (n := t2.length) (cap := c1) (cs := cs1) 0 (by kernel_rfl) (by omega) (fun g5_ hA5_ => ?_)
    have hc5_ := t48_own (Reps.ext hi24 hp1) x6 hi0_5 hi1_5
    have hx05_ := hi0_5; have hx15_ := hi1_5
    refine OK.drawnC 7 20 O8_27 a8_27n (by kernel_rfl) (by kernel_rfl) (u8d3l a1 t2 x6) (u8d3g x6 g3_ g4_ g5_) [(⟨g3_, 0 + (x6).toNat * 3, none⟩, i6 ((t2.getD (x6).toNat z48).f0)), (⟨g4_, 0 + (x6).toNat * 3 + 1, none⟩, i6 ((t2.getD (x6).toNat z48).f1)), (⟨g5_, 0 + (x6).toNat * 3 + 2, none⟩, i6 ((t2.getD (x6).toNat z48).f2))] (RI.own (e := 48) (sz := 3) (S := A1) (n := t2.length) (cap := c1) (cs := cs1) 0 (by kernel_rfl) hA3_ (0 + (x6).toNat * 3) ((x6).toNat * 3 + 0) (by omega) (hc3_ 0 _ rfl) (RI.own (e := 48) (sz := 3) (S := A1) (n := t2.length) (cap := c1) (cs := cs1) 0 (by kernel_rfl) hA4_ (0 + (x6).toNat * 3 + 1) ((x6).toNat * 3 + 1) (by omega) (hc4_ 1 _ rfl) (RI.own (e := 48) (sz := 3) (S := A1) (n := t2.length) (cap := c1) (cs := cs1) 0 (by kernel_rfl) hA5_ (0 + (x6).toNat * 3 + 2) ((x6).toNat * 3 + 2) (by omega) (hc5_ 2 _ rfl) (RI.nil _)))) [.no, .no, .no, .no, .no, .r 0, .no, .no, .no, .no, .r 1, .no, .no, .no, .no, .r 2, .no, .no, .no, .no] a8_27 a8_27o (by kernel_rfl) (by kernel_rfl) (u8d3s a1 t2 A1 c1 x5 A9 c9 x6 g3_ g4_ g5_) (u8d3f a1 t1 t2 A1 c1 x5 A9 c9 x6 g3_ g4_ g5_ 20) (u8d3v a1 t1 t2 A1 c1 x5 A9 c9 x6 g3_ g4_ g5_) (u8d3e a1 t1 t2 A1 c1 x5 A9 c9 x6 g3_ g4_ g5_) [u8d3f a1 t1 t2 A1 c1 x5 A9 c9 x6 g3_ g4_ g5_ 19] (framesOk.cons (fun u => rfl) framesOk.nil) ?_ [u8d3f a1 t1 t2 A1 c1 x5 A9 c9 x6 g3_ g4_ g5_ 3, u8d3f a1 t1 t2 A1 c1 x5 A9 c9 x6 g3_ g4_ g5_ 8, u8d3f a1 t1 t2 A1 c1 x5 A9 c9 x6 g3_ g4_ g5_ 13] (framesOk.cons (fun u => rfl) (framesOk.cons (fun u => rfl) (framesOk.cons (fun u => rfl) framesOk.nil))) ?_ ?_
    ·refine LoudsG.cons ?_ (LoudsG.nil)
     ·intro D u J w hp hJ hs hF
      refine (Does.make hs.im (fun n_ => .slice (some ⟨n_, 0, none⟩) 1 1) (cs := [i6 ((t2.getD (x6).toNat z48).f0), i6 ((t2.getD (x6).toNat z48).f1), i6 (W .i64 (((t2.getD (x6).toNat z48).f2) * (W .i64 (1 + (W .i64 (a1.tmod 1000))))))]) (ty := 48) (fun n_ => by kernel_rfl)).mono ?_
      rintro v w' ⟨rfl, hg⟩
      exact ⟨fun _ => (none, w.heap.size, []), J, rfl, hg, trivial⟩
    ·refine Givens.cons (fun u w =>  ?_) (fun _ _ _ => rfl) (Givens.cons (fun u w =>  ?_) (fun _ _ _ => rfl) (Givens.cons (fun u w =>  ?_) (fun _ _ _ => rfl) (Givens.nil)))
     ·exact giv_idx (T := 22) (e := 48) 3 .i64 x6 hA3_ t2.length c1 (by kernel_rfl) (by kernel_rfl) (by kernel_rfl) hi0_3 hi1_3 w
     ·exact giv_idx (T := 22) (e := 48) 3 .i64 x6 hA4_ t2.length c1 (by kernel_rfl) (by kernel_rfl) (by kernel_rfl) hi0_4 hi1_4 w
     ·exact giv_idx (T := 22) (e := 48) 3 .i64 x6 hA5_ t2.length c1 (by kernel_rfl) (by kernel_rfl) (by kernel_rfl) hi0_5 hi1_5 w
    intro u I25 nx17 hi25 hF
    clear hF
    refine RL.norm (K' := [(48, .slice (some ⟨(u 19 0).2.1, 0, none⟩) 1 1), (47, .agg #[i6 ((t2.getD (x6).toNat z48).f0), i6 ((t2.getD (x6).toNat z48).f1), i6 (W .i64 (((t2.getD (x6).toNat z48).f2) * (W .i64 (1 + (W .i64 (a1.tmod 1000))))))]), (46, i6 (W .i64 (((t2.getD (x6).toNat z48).f2) * (W .i64 (1 + (W .i64 (a1.tmod 1000))))))), (45, i6 (W .i64 (1 + (W .i64 (a1.tmod 1000))))), (44, i6 ((t2.getD (x6).toNat z48).f2)), (43, pt g5_ (0 + (x6).toNat * 3 + 2)), (42, pt g5_ (0 + (x6).toNat * 3)), (41, i6 x6), (40, .slice A1 t2.length c1), (39, i6 ((t2.getD (x6).toNat z48).f1)), (38, pt g4_ (0 + (x6).toNat * 3 + 1)), (37, pt g4_ (0 + (x6).toNat * 3)), (36, i6 x6), (35, .slice A1 t2.length c1), (34, i6 ((t2.getD (x6).toNat z48).f0)), (33, pt g3_ (0 + (x6).toNat * 3)), (32, pt g3_ (0 + (x6).toNat * 3)), (31, i6 x6), (30, .slice A1 t2.length c1), (29, .slice A9 x5.length c9), (26, .bool (decide (x6 < (t2.length : Int)))), (5, .bool t1), (6, .slice A1 t2.length c1), (7, i6 (W .i64 (1 + (W .i64 (a1.tmod 1000))))), (8, .slice A9 x5.length c9), (9, i6 x6)]) (X' := [orow 48 3 A1 t2.length c1 cs1, orow 48 3 A9 x5.length c9 cs9, RW.kblk (u 19 0).2.1 48 [i6 ((t2.getD (x6).toNat z48).f0), i6 ((t2.getD (x6).toNat z48).f1), i6 (W .i64 (((t2.getD (x6).toNat z48).f2) * (W .i64 (1 + (W .i64 (a1.tmod 1000))))))]]) (by kernel_rfl) rfl rfl rfl ?_
    generalize (u 19 0).1 = A10
    generalize (u 19 0).2.1 = c10
    generalize (u 19 0).2.2 = cs10
    clear u
    refine RL.kblk (g := c10) (ty := 48) (cs := [i6 ((t2.getD (x6).toNat z48).f0), i6 ((t2.getD (x6).toNat z48).f1), i6 (W .i64 (((t2.getD (x6).toNat z48).f2) * (W .i64 (1 + (W .i64 (a1.tmod 1000))))))]) 2 (by kernel_rfl) ?_
    show RL _ _ _ 20 _ [(48, .slice (some ⟨c10, 0, none⟩) 1 1), (47, .agg #[i6 ((t2.getD (x6).toNat z48).f0), i6 ((t2.getD (x6).toNat z48).f1), i6 (W .i64 (((t2.getD (x6).toNat z48).f2) * (W .i64 (1 + (W .i64 (a1.tmod 1000))))))]), (46, i6 (W .i64 (((t2.getD (x6).toNat z48).f2) * (W .i64 (1 + (W .i64 (a1.tmod 1000))))))), (45, i6 (W .i64 (1 + (W .i64 (a1.tmod 1000))))), (44, i6 ((t2.getD (x6).toNat z48).f2)), (43, pt g5_ (0 + (x6).toNat * 3 + 2)), (42, pt g5_ (0 + (x6).toNat * 3)), (41, i6 x6), (40, .slice A1 t2.length c1), (39, i6 ((t2.getD (x6).toNat z48).f1)), (38, pt g4_ (0 + (x6).toNat * 3 + 1)), (37, pt g4_ (0 + (x6).toNat * 3)), (36, i6 x6), (35, .slice A1 t2.length c1), (34, i6 ((t2.getD (x6).toNat z48).f0)), (33, pt g3_ (0 + (x6).toNat * 3)), (32, pt g3_ (0 + (x6).toNat * 3)), (31, i6 x6), (30, .slice A1 t2.length c1), (29, .slice A9 x5.length c9), (26, .bool (decide (x6 < (t2.length : Int)))), (5, .bool t1), (6, .slice A1 t2.length c1), (7, i6 (W .i64 (1 + (W .i64 (a1.tmod 1000))))), (8, .slice A9 x5.length c9), (9, i6 x6)] _ _ _ [⟨c10, [i6 ((t2.getD (x6).toNat z48).f0), i6 ((t2.getD (x6).toNat z48).f1), i6 (W .i64 (((t2.getD (x6).toNat z48).f2) * (W .i64 (1 + (W .i64 (a1.tmod 1000))))))], 48⟩] [orow 48 3 A1 t2.length c1 cs1, orow 48 3 A9 x5.length c9 cs9]
    obtain ⟨hz1, H⟩ := ifs H
    refine RL.appendB (T := 22) (e := 48) (S := A9) 3 24 22 c9 0 1 c10 48 cs9 [i6 ((t2.getD (x6).toNat z48).f0), i6 ((t2.getD (x6).toNat z48).f1), i6 (W .i64 (((t2.getD (x6).toNat z48).f2) * (W .i64 (1 + (W .i64 (a1.tmod 1000))))))] t48 x5 [(⟨(t2.getD (x6).toNat z48).f0, (t2.getD (x6).toNat z48).f1, W .i64 (((t2.getD (x6).toNat z48).f2) * (W .i64 (1 + (W .i64 (a1.tmod 1000)))))⟩ : S48)] 1 (some 49) (by kernel_rfl) (by kernel_rfl) (by kernel_rfl) (by kernel_rfl) (by kernel_rfl) (by decide) (by kernel_rfl) (Reps.ext hi25 hp9) (by kernel_rfl) ⟨_, _, rfl, (t48_mk _ _), rfl⟩ hz1 (by omega) (fun A11 c11 nx18 cs11 hp10 => ?_)
    refine RL.sub (K' := [(49, .slice A11 ((x5 ++ [(⟨(t2.getD (x6).toNat z48).f0, (t2.getD (x6).toNat z48).f1, W .i64 (((t2.getD (x6).toNat z48).f2) * (W .i64 (1 + (W .i64 (a1.tmod 1000)))))⟩ : S48)]).length) c11), (48, .slice (some ⟨c10, 0, none⟩) 1 1), (47, .agg #[i6 ((t2.getD (x6).toNat z48).f0), i6 ((t2.getD (x6).toNat z48).f1), i6 (W .i64 (((t2.getD (x6).toNat z48).f2) * (W .i64 (1 + (W .i64 (a1.tmod 1000))))))]), (46, i6 (W .i64 (((t2.getD (x6).toNat z48).f2) * (W .i64 (1 + (W .i64 (a1.tmod 1000))))))), (45, i6 (W .i64 (1 + (W .i64 (a1.tmod 1000))))), (44, i6 ((t2.getD (x6).toNat z48).f2)), (43, pt g5_ (0 + (x6).toNat * 3 + 2)), (42, pt g5_ (0 + (x6).toNat * 3)), (41, i6 x6), (40, .slice A1 t2.length c1), (39, i6 ((t2.getD (x6).toNat z48).f1)), (38, pt g4_ (0 + (x6).toNat * 3 + 1)), (37, pt g4_ (0 + (x6).toNat * 3)), (36, i6 x6), (35, .slice A1 t2.length c1), (34, i6 ((t2.getD (x6).toNat z48).f0)), (33, pt g3_ (0 + (x6).toNat * 3)), (32, pt g3_ (0 + (x6).toNat * 3)), (31, i6 x6), (30, .slice A1 t2.length c1), (26, .bool (decide (x6 < (t2.length : Int)))), (5, .bool t1), (6, .slice A1 t2.length c1), (7, i6 (W .i64 (1 + (W .i64 (a1.tmod 1000))))), (9, i6 x6)]) (L' := [⟨c10, [i6 ((t2.getD (x6).toNat z48).f0), i6 ((t2.getD (x6).toNat z48).f1), i6 (W .i64 (((t2.getD (x6).toNat z48).f2) * (W .i64 (1 + (W .i64 (a1.tmod 1000))))))], 48⟩]) (X' := [orow 48 3 A1 t2.length c1 cs1, orow 48 3 A11 ((x5 ++ [(⟨(t2.getD (x6).toNat z48).f0, (t2.getD (x6).toNat z48).f1, W .i64 (((t2.getD (x6).toNat z48).f2) * (W .i64 (1 + (W .i64 (a1.tmod 1000)))))⟩ : S48)]).length) c11 cs11]) (by kernel_rfl) (.refl _) (.refl _) ?_
    refine RL.s 1 [(8, .slice A11 ((x5 ++ [(⟨(t2.getD (x6).toNat z48).f0, (t2.getD (x6).toNat z48).f1, W .i64 (((t2.getD (x6).toNat z48).f2) * (W .i64 (1 + (W .i64 (a1.tmod 1000)))))⟩ : S48)]).length) c11), (5, .bool t1), (6, .slice A1 t2.length c1), (7, i6 (W .i64 (1 + (W .i64 (a1.tmod 1000))))), (9, i6 x6)] ?_
    refine RL.nil (by kernel_rfl) ?_
    refine QN.blkN ?_
    refine QN.then_ ?_
    refine OK.rg ?_
    refine RL.s 3 [(9, i6 (W .i64 (x6 + 1))), (8, .slice A11 ((x5 ++ [(⟨(t2.getD (x6).toNat z48).f0, (t2.getD (x6).toNat z48).f1, W .i64 (((t2.getD (x6).toNat z48).f2) * (W .i64 (1 + (W .i64 (a1.tmod 1000)))))⟩ : S48)]).length) c11), (5, .bool t1), (6, .slice A1 t2.length c1), (7, i6 (W .i64 (1 + (W .i64 (a1.tmod 1000)))))] ?_
    refine RL.nil (by kernel_rfl) ?_
    exact QN.sb (hJ6 _ _ _ _ _ ⟨(x5 ++ [(⟨(t2.getD (x6).toNat z48).f0, (t2.getD (x6).toNat z48).f1, W .i64 (((t2.getD (x6).toNat z48).f2) * (W .i64 (1 + (W .i64 (a1.tmod 1000)))))⟩ : S48)]), W .i64 (x6 + 1), A11, c11, cs11, rfl, rfl, rfl, (Imm.le_trans hi24 hi25), hp10, H⟩) (.cons _ .slnil) (.refl _)
   ·skip
    have hc := (of_decide_eq_false hb)
    rw [if_neg hc] at H
    clear hb
    refine OK.ex 0 ?_
    refine QN.thenE ?_
    refine QN.outE hQ6 ?_
    refine QN.blkE ?_
    obtain rfl := Option.some.inj H
    exact QN.sb (hJ1 _ _ _ _ _ ⟨x5, A9, c9, cs9, rfl, rfl, rfl, hi24, hp9, HK1⟩) .slnil (.refl _)

end Go.Proofs.Ytihmbmeelheinaa
namespace Go.Proofs.Ytihmbmeelheinaa
open Go Go.Proofs.Ytihmbmeelheinaa.RW Go.Proofs.Ytihmbmeelheinaa.auc
open Go.Proofs.Ytihmbmeelheinaa.hun (g sm Solved)
set_option linter.unusedVariables false
theorem scaled_l2 {l : List S48} (h : okG 36 1048576 l) {a c : Int} (hc : W .i64 (1 + W .i64 (a.tmod 1000)) = c) (h0 : 1 ≤ c ∧ c ≤ 1000) : ∀ (q n : Nat), q + n = l.length → Ev (fun f => armillarylaw23_AuctionScaled.l2 a l f (sca c (l.take n)) (n : Int)) (sca c l)
  | 0, n, e => by
    refine Ev.succ (g := fun _ => some (sca c (l.take n))) (fun f => by rw [armillarylaw23_AuctionScaled.l2, if_neg (by omega)]) (Ev.const ?_)
    rw [List.take_of_length_le (by omega)]
  | q + 1, n, e => by
    have hl := h.len
    have hn : n < l.length := by omega
    have ih := scaled_l2 h hc h0 q (n + 1) (by omega)
    have c1 : (n : Int) < (l.length : Int) := by omega
    have cp : (0 : Int) ≤ (n : Int) := by omega
    have hv := h.vb l[n] (List.getElem_mem hn)
    have hm : (l[n]).f2 * c ≤ 1048576 * 1000 := Int.le_trans (Int.mul_le_mul_of_nonneg_right hv.2 (by omega)) (Int.mul_le_mul_of_nonneg_left h0.2 (by omega))
    have hm0 : 0 ≤ (l[n]).f2 * c := Int.mul_nonneg (by omega) (by omega)
    have e1 : sca c (l.take (n + 1)) = sca c (l.take n) ++ [(⟨(l[n]).f0, (l[n]).f1, W .i64 ((l[n]).f2 * c)⟩ : S48)] := by
      rw [W64 (by omega) (by omega)]
      have : l.take (n + 1) = l.take n ++ [l[n]] := (List.take_append_getElem hn).symm
      unfold sca
      rw [this, List.map_append]
      rfl
    rw [e1] at ih
    have hz : (sca c (l.take n)).length = n := by rw [List.length_map, List.length_take]; omega
    refine Ev.succ (fun f => ?_) ih
    rw [armillarylaw23_AuctionScaled.l2, if_pos c1, if_pos cp, if_pos c1, if_pos cp, if_pos c1, if_pos cp, if_pos c1, if_pos (by rw [hz]; simp only [List.length_singleton]; omega), Wn (by omega), tn, gD hn, hc]
theorem scaled_l1 {t t' : S29 × Int} {a c : Int} {m : Nat} (hc : W .i64 (1 + W .i64 (a.tmod 1000)) = c) (h0 : 1 ≤ c ∧ c ≤ 1000) (h1 : t.1.f2.length = m) (h2 : t'.1.f2.length = m) (hm : m ≤ 100) (hb : ∀ i, -100000000000 ≤ g t.1.f2 i ∧ g t.1.f2 i ≤ 100000000000) (he : ∀ i, g t'.1.f2 i = c * g t.1.f2 i) : ∀ (q n : Nat), q + n = m → Ev (fun f => armillarylaw23_AuctionScaled.l1 a t t' f (n : Int)) (.inl ())
  | 0, n, e => Ev.succ (g := fun _ => some _) (fun f => by rw [armillarylaw23_AuctionScaled.l1, if_neg (by omega)]) (Ev.const rfl)
  | q + 1, n, e => by
    have ih := scaled_l1 hc h0 h1 h2 hm hb he q (n + 1) (by omega)
    have cp : (0 : Int) ≤ (n : Int) := by omega
    have b := hb n
    have u1 : c * g t.1.f2 n ≤ 1000 * 100000000000 := by
      have x1 : c * g t.1.f2 n ≤ c * 100000000000 := Int.mul_le_mul_of_nonneg_left b.2 (by omega)
      omega
    have u2 : -(1000 * 100000000000) ≤ c * g t.1.f2 n := by
      have x1 : c * (-100000000000) ≤ c * g t.1.f2 n := Int.mul_le_mul_of_nonneg_left b.1 (by omega)
      omega
    refine Ev.succ (fun f => ?_) ih
    have e1 : ¬ (t'.1.f2.getD n 0 ≠ W .i64 (t.1.f2.getD n 0 * c)) := by
      have e2 : t'.1.f2.getD n 0 = c * g t.1.f2 n := he n
      have e3 : t.1.f2.getD n 0 * c = c * g t.1.f2 n := Int.mul_comm _ _
      rw [e3, W64 (by omega) (by omega), e2]
      simp
    rw [armillarylaw23_AuctionScaled.l1, if_pos (by omega), if_pos cp, if_pos (by omega), if_pos cp, if_pos (by omega), tn, hc, if_neg e1, Wn (by omega)]
theorem armillarylaw23_AuctionScaled_holds (a0 : List S48) (a1 : Int) (hp0 : ∀ x ∈ a0, p48 x) (h0 : a0.length ≤ 9223372036854775807) (w1 : (Lit.int .u16 a1).wf = true) : ∃ k, armillarylaw23_AuctionScaled.f k a0 a1 = some true := by
  obtain ⟨l, hg, hm⟩ := made_ev h0
  have ha := u16_wf w1
  obtain ⟨c, hc⟩ : ∃ c, W .i64 (1 + W .i64 (a1.tmod 1000)) = c := ⟨_, rfl⟩
  have hc0 : 1 ≤ c ∧ c ≤ 1000 := by
    rw [← hc, Int.tmod_eq_emod_of_nonneg ha.1, W64 (x := a1 % 1000) (by omega) (by omega), W64 (by omega) (by omega)]
    omega
  have h := hg.ok (by decide) (by decide)
  have hv : 1048576 * c ≤ 1073741824 := by omega
  have h' := (sca_okG hg hc0.1).ok (by decide) hv
  obtain ⟨d, cols, X, Y, hcl, ⟨e, hs⟩, k⟩ := clear_ev h
  obtain ⟨d', cols', X', Y', hcl', ⟨e', hs'⟩, k'⟩ := clear_ev h'
  obtain ⟨q0, q1, q2, q3⟩ := cl_scale (c := c) (by omega) h h' (sca_ws c l) (sca_ss c l) (sca_Vv c l) hs hs' k k'
  obtain ⟨n0, n1, n2, n3⟩ := k.len0 h
  obtain ⟨m0, m1, m2, m3⟩ := k'.len0 h'
  rw [sca_ws] at m0 m1 m2 m3
  have hx := k.xb
  have hx' := k'.xb
  refine Ev.get (Ev.bind sanity_ev (Ev.bind hm (Ev.bind (scaled_l2 hg hc hc0 l.length 0 rfl) (Ev.bind hcl (Ev.bind hcl' (Ev.bind (r := false) ?_ (Ev.congr (fun f => if_neg (by decide)) (Ev.bind (scaled_l1 (m := (ws l).length) hc hc0 n2 m2 (by omega) (k.pb h) q2 (ws l).length 0 rfl) (Ev.bind (r := true) ?_ (Ev.const rfl))))))))))
  · refine Ev.congr (fun f => if_neg (by simp)) (Ev.congr (fun f => if_neg (by simp)) (Ev.bind1 k.shaped (Ev.congr (fun f => if_pos rfl) (Ev.bind1 k'.shaped (Ev.congr (fun f => if_pos rfl) ?_)))))
    exact Ev.bind (sameI (a := d.f0) (b := d'.f0) (by omega) q0.symm) (Ev.congr (fun f => if_pos rfl) (Ev.bind (sameI (a := d.f1) (b := d'.f1) (by omega) q1.symm) (Ev.const rfl)))
  · refine Ev.bind (k'.welfare h') (Ev.bind (k.welfare h) (Ev.congr (fun f => if_pos ?_) (Ev.const rfl)))
    rw [hc, ← q3, W64 (by omega) (by omega)]
end Go.Proofs.Ytihmbmeelheinaa
namespace Go.Proofs.Ytihmbmeelheinaa.auctionScaled
open Go.ChangeShapes Go.WideShapes Go.ChangeAt Go.RowKit Go.Proofs.Ytihmbmeelheinaa Go.Proofs.Ytihmbmeelheinaa.RW
open Go.ChangeMaps (open_string shut_string)
set_option linter.unusedVariables false
set_option maxRecDepth 1000000
set_option maxHeartbeats 8000000

theorem own : ownKnob Try.prog.godebug = none := by kernel_rfl
theorem laidOut : laidOutB Try.prog = true := by kernel_rfl
theorem lifted (os : Os) (started : os.Started) (H : Type) (enc : TypeId × Value → H) :
  ReturnsInHanded {} Try.checked os 8 .any (Rows.auctionScaledSpec.pre6 enc Try.prog Try.f8 Rows.auctionScaledRow.domain false) (Rows.auctionScaledSpec.post enc Try.prog Try.f8 false true false false) := by
 refine returnsInHanded_of_change (C := Try.checked) own started (by kernel_rfl) Try.func8
  (ChangeSpec.witness6 (enc := enc) (C := Try.checked) false ⟨#[], #[.slice none 0 0, .int .u16 0], []⟩ 8 (by kernel_rfl) (by kernel_rfl) (by kernel_rfl) (by kernel_rfl)) ?_
 intro W base args ds gs before hval0 hW hcnd _
 have hval : ∀ (j : Nat) t v, Try.f8.params[j]? = some t → args[j]? = some v → Value.okWide Try.prog W .any base t v := hval0
 have hW' := hW
 obtain ⟨p, q, hA0, hV, rfl, hfz, hnd⟩ := hW
 have hA : DataW.TrodAll enc Try.prog W 0 (fun _ => true) true Try.f8.params.toList args.toList ds p := hA0
 rw [Try.params8] at hA hval
 obtain ⟨v0, vs0, d0, ds0, p0, q0, hargs, rfl, rfl, h0, z0⟩ := trodAll_cons hA
 obtain ⟨v1, vs1, d1, ds1, p1, q1, rfl, rfl, rfl, h1, z1⟩ := trodAll_cons z0
 obtain ⟨rfl, rfl, rfl⟩ := trodAll_nil z1
 obtain rfl : args = #[v0, v1] := by cases args; simp_all
 obtain ⟨rfl, rfl⟩ := trodVars_none hV
 have k0 := h0
 have lt0 : ∀ x ∈ p0, x.block < W.heap.size := by obtain ⟨m, hm⟩ := k0; exact DataW.trod_lt m _ _ _ hm
 obtain ⟨b0, len0, cap0, rfl⟩ := okWide_slice Try.underlying22 (hval 0 22 v0 rfl rfl)
 obtain ⟨fuel0, hf0⟩ := h0
 obtain ⟨a0, ⟨A0, c0, e0, l0, r0⟩, hp0⟩ := (opens_slice (e := 48) o48 (by kernel_rfl) (by kernel_rfl) (Nat.le_of_ble_eq_true (by kernel_rfl)) : Opens Try.prog (Ty.slice t48) 22 (fun l => ∀ x ∈ l, p48 x)) W 0 _ _ _ _ _ hf0
 obtain ⟨rfl, rfl, rfl⟩ : b0 = A0 ∧ len0 = a0.length ∧ cap0 = c0 := by simpa [Value.cells] using e0
 obtain ⟨a1, rfl, rfl, rfl, w1⟩ := open_int Try.underlying50 (hval 1 50 v1 rfl rfl) h1
 clear hA0 hval0
 obtain ⟨k, hk⟩ := armillarylaw23_AuctionScaled_holds a0 a1 hp0 r0.1 w1
 refine (armillarylaw23_AuctionScaled.calls k (wImm W) a0 b0 cap0 a1 W (wImm_at W) l0 r0 true hk).mono ?_
 rintro e W' ⟨v, rfl, J, rfl, hg⟩
 have bel : Below W.heap.size W W' := ⟨hg.evo.os, hg.evo.tape, hg.evo.output, hg.evo.size, fun k hk => hg.evo.blk k hk (fun h => h)⟩
 exact ⟨_, rfl, _, _, _, [], _, [], hW', trodAll_mk1 (shut_bool Try.underlying4 _), (trodAll_cons_mk (Below.trod laidOut (by kernel_rfl) (of_decide_eq_true (by kernel_rfl)) k0 bel lt0) (trodAll_cons_mk (shut_int Try.underlying50 w1) trodAll_mk0)), rfl, bel.frame _, fun h => by cases h⟩

theorem over : Rows.auctionScaledRow.holds Try.pinned (OpenSpec.ofChange Rows.auctionScaledSpec) :=
 OpenClaim.holds_of_wide 8 Try.f8 rfl rfl rfl rfl rfl rfl rfl ⟨rfl, rfl, rfl, rfl, rfl⟩ rfl rfl rfl rfl rfl (by kernel_rfl) Try.func8 (by kernel_rfl)
  (of_decide_eq_true (by kernel_rfl)) (by unfold Func.isWrapper; first | (rw [if_pos (by decide +kernel)]; kernel_rfl) | (rw [if_neg (by decide +kernel)]; exact ⟨rfl, rfl⟩))
  (fun os started H enc _ => lifted os started H enc)
theorem proved : Rows.AuctionScaledSaid := over
#print axioms proved
end Go.Proofs.Ytihmbmeelheinaa.auctionScaled
