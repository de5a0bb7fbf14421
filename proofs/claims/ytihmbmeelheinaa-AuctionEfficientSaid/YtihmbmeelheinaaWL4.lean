/- What a function of the program computes, and the walk that shows it; made by a program of the session's out of the translation; no conditions beyond those that the theorems name. -/
import Derived.Test.YtihmbmeelheinaaW2
import Derived.Test.YtihmbmeelheinaaW5
import Derived.Test.YtihmbmeelheinaaW4
import Derived.Test.YtihmbmeelheinaaW7
import Derived.Test.YtihmbmeelheinaaRows
import Derived.WalkKit
import Derived.ProofKit
import Derived.OpenShut
import Derived.ShutString
import Derived.ChangeOld
import Derived.Below
import Derived.Carry
import Derived.WideShapes
namespace Go.Proofs.Ytihmbmeelheinaa
open Go Go.Proofs.Ytihmbmeelheinaa.RW
set_option linter.unusedVariables false
set_option maxRecDepth 100000
set_option maxHeartbeats 8000000

/-! ### armillarylaw23_AuctionEfficient: function 4, armillary/armillarylaw23.AuctionEfficient -/
noncomputable def K4_0 : Code := cBody Try.f4
noncomputable def O4_39 : List Oper := cOps (cL (cL (cL (cL (cR (cL (cL (cR (cL (cR (cR (cR (cR (cR K4_0))))))))))))))
noncomputable def O4_62 : List Oper := cOps (cL (cL (cL (cR (cL (cL (cR (cR (cL (cL (cR (cL (cL (cR (cL (cR (cR (cR (cR (cR K4_0))))))))))))))))))))
noncomputable def O4_75 : List Oper := cOps (cL (cR (cR (cR (cR (cR (cR K4_0)))))))
def armillarylaw23_AuctionEfficient.k1  (x3 : Bool) : Option (Bool) := (some x3)
def armillarylaw23_AuctionEfficient.k2 (k : Nat) (t1 : Bool) (t2 : List S48) (t3 : S29 × Int) (x2 : Int) : Option (Bool) := (((auction_Welfare.f k t2 t3.1).bind fun t4 => (if x2 ≤ t4 then (some t1) else (some false))).bind (armillarylaw23_AuctionEfficient.k1))
def armillarylaw23_AuctionEfficient.l1 (a1 : List Int) (t2 : List S48) (t3 : S29 × Int) : Nat → Int → (List Bool) → Int → Option (Int)
 | 0, _, _, _ => none
 | k + 1, x4, x5, x6 => ((if x6 < (t3.1.f0.length : Int) then (some (decide (x6 < 12))) else (some false)).bind (fun x7 => (if x7 = true then (if 0 ≤ x6 then (if x6 < (12 : Int) then (if 0 ≤ (W .i64 ((W .i64 ((a1.getD ((x6).toNat) 0).tmod 7)) * 3)) then (if (W .i64 ((W .i64 ((a1.getD ((x6).toNat) 0).tmod 7)) * 3)) < (x5.length : Int) then ((if (x5.getD (W .i64 ((W .i64 ((a1.getD ((x6).toNat) 0).tmod 7)) * 3)).toNat false) = true then (some (x4, x5)) else (if 0 ≤ x6 then (if x6 < (t3.1.f0.length : Int) then ((armillaryref23_Value.f k t2 (t3.1.f0.getD (x6).toNat 0) (W .i64 ((W .i64 ((a1.getD ((x6).toNat) 0).tmod 7)) * 3))).bind fun t5 => (if 0 ≤ (W .i64 ((W .i64 ((a1.getD ((x6).toNat) 0).tmod 7)) * 3)) then (if (W .i64 ((W .i64 ((a1.getD ((x6).toNat) 0).tmod 7)) * 3)) < (x5.length : Int) then (some (W .i64 (x4 + t5), x5.set (W .i64 ((W .i64 ((a1.getD ((x6).toNat) 0).tmod 7)) * 3)).toNat true)) else none) else none)) else none) else none)).bind (fun (x8, x9) => (armillarylaw23_AuctionEfficient.l1 a1 t2 t3 k x8 x9 (W .i64 (x6 + 1))))) else none) else none) else none) else none) else (some x4))))
def armillarylaw23_AuctionEfficient.k5 (k : Nat) (a1 : List Int) (t1 : Bool) (t2 : List S48) (t3 : S29 × Int) : (Unit) ⊕ (Bool) → Option (Bool)
 | .inl () => (if (0 : Int) ≤ (1001 : Int) then (if (1001 : Int) ≤ 281474976710656 then ((armillarylaw23_AuctionEfficient.l1 a1 t2 t3 k 0 (List.replicate (1001 : Int).toNat (false : Bool)) 0).bind (armillarylaw23_AuctionEfficient.k2 k t1 t2 t3)) else none) else none)
 | .inr r_ => some r_
def armillarylaw23_AuctionEfficient.k7  : (Unit) ⊕ (Bool) → Option ((Unit) ⊕ (Bool))
 | .inl () => (some (Sum.inl ()))
 | .inr r_ => some (Sum.inr r_)
def armillarylaw23_AuctionEfficient.l3 (t3 : S29 × Int) (x10 : Int) : Nat → Int → Option ((Unit) ⊕ (Bool))
 | 0, _ => none
 | k + 1, x12 => (if x12 < x10 then ((if 0 ≤ x10 then (if x10 < (t3.1.f1.length : Int) then (if (t3.1.f1.getD (x10).toNat 0) ≥ 0 then (if 0 ≤ x12 then (if x12 < (t3.1.f1.length : Int) then (if 0 ≤ x10 then (if x10 < (t3.1.f1.length : Int) then (some ((t3.1.f1.getD (x12).toNat 0) == (t3.1.f1.getD (x10).toNat 0))) else none) else none) else none) else none) else (some false)) else none) else none).bind (fun x13 => (if x13 = true then (some (Sum.inr false)) else (armillarylaw23_AuctionEfficient.l3 t3 x10 k (W .i64 (x12 + 1)))))) else (some (Sum.inl ())))
def armillarylaw23_AuctionEfficient.k9 (t3 : S29 × Int) (x10 : Int) (kq2 : Nat) (x11 : Bool) : Option ((Unit) ⊕ (Bool)) := (if x11 = true then (some (Sum.inr false)) else ((armillarylaw23_AuctionEfficient.l3 t3 x10 kq2 0).bind (armillarylaw23_AuctionEfficient.k7)))
def armillarylaw23_AuctionEfficient.l2 (t2 : List S48) (t3 : S29 × Int) : Nat → Int → Option ((Unit) ⊕ (Bool))
 | 0, _ => none
 | k + 1, x10 => (if x10 < (t3.1.f0.length : Int) then (((if 0 ≤ x10 then (if x10 < (t3.1.f1.length : Int) then (if (t3.1.f1.getD (x10).toNat 0) < (-1) then (some true) else (if 0 ≤ x10 then (if x10 < (t3.1.f1.length : Int) then (if (t3.1.f1.getD (x10).toNat 0) ≥ 0 then (if 0 ≤ x10 then (if x10 < (t3.1.f0.length : Int) then (if 0 ≤ x10 then (if x10 < (t3.1.f1.length : Int) then ((armillaryref23_Value.f k t2 (t3.1.f0.getD (x10).toNat 0) (t3.1.f1.getD (x10).toNat 0)).bind fun t6 => (if t6 < 1 then (some true) else (if x10 > 0 then (if 0 ≤ (W .i64 (x10 - 1)) then (if (W .i64 (x10 - 1)) < (t3.1.f0.length : Int) then (if 0 ≤ x10 then (if x10 < (t3.1.f0.length : Int) then (some (decide ((t3.1.f0.getD (W .i64 (x10 - 1)).toNat 0) ≥ (t3.1.f0.getD (x10).toNat 0)))) else none) else none) else none) else none) else (some false)))) else none) else none) else none) else none) else (if x10 > 0 then (if 0 ≤ (W .i64 (x10 - 1)) then (if (W .i64 (x10 - 1)) < (t3.1.f0.length : Int) then (if 0 ≤ x10 then (if x10 < (t3.1.f0.length : Int) then (some (decide ((t3.1.f0.getD (W .i64 (x10 - 1)).toNat 0) ≥ (t3.1.f0.getD (x10).toNat 0)))) else none) else none) else none) else none) else (some false))) else none) else none)) else none) else none).bind (armillarylaw23_AuctionEfficient.k9 t3 x10 k)).bind (fun s_ => match s_ with | .inl _ => (armillarylaw23_AuctionEfficient.l2 t2 t3 k (W .i64 (x10 + 1))) | .inr r_ => some (Sum.inr r_))) else (some (Sum.inl ())))
def armillarylaw23_AuctionEfficient.k10 (k : Nat) (a1 : List Int) (t1 : Bool) (t2 : List S48) (t3 : S29 × Int) (x1 : Bool) : Option (Bool) := (if x1 = true then (some false) else ((armillarylaw23_AuctionEfficient.l2 t2 t3 k 0).bind (armillarylaw23_AuctionEfficient.k5 k a1 t1 t2 t3)))
def armillarylaw23_AuctionEfficient.f (k : Nat) (a0 : List S48) (a1 : List Int) : Option (Bool) := ((armillarylaw23_sanity.f k ).bind fun t1 => ((armillaryref23_Made.f k a0).bind fun t2 => ((auction_Clear.f k t2).bind fun t3 => ((if t3.2 ≠ 0 then (some true) else ((armillarylaw23_shaped.f t3.1).bind fun t7 => (some (!t7)))).bind (armillarylaw23_AuctionEfficient.k10 k a1 t1 t2 t3)))))
def armillarylaw23_AuctionEfficient.Post (I : Imm) (w : World) (r : Bool) (v : Value) (w' : World) : Prop :=
 ∃ (J : Imm), v = .bool r ∧ Got w w' I J []
noncomputable def a4_75n : List Nat := [0, 0, 3]
theorem a4_75 : ancs O4_75 [] = a4_75n := by kernel_rfl
theorem a4_75o : drawOk O4_75 a4_75n 2 = true := by kernel_rfl
noncomputable def u4d1l  : List Ld :=
 [⟨0, fun x => .slice ((x 0).1) ((List.replicate (1001 : Int).toNat (false : Bool)).length) ((x 0).2.1), fun x => [orow 4 1 (x 0).1 (List.replicate (1001 : Int).toNat (false : Bool)).length (x 0).2.1 (x 0).2.2], fun x J => Reps Ty.bool J (List.replicate (1001 : Int).toNat (false : Bool)) (x 0).2.2 ∧ True, fun x J J' h f => ⟨Reps.ext h f.1, trivial⟩⟩]
noncomputable def u4d1g  : List (Nat × ((Nat → Wt) → Value)) := []
noncomputable def u4d1q (a1 : List Int) (nx0 : Nat) (t1 : Bool) (t2 : List S48) (A1 : Option Addr) (c1 : Nat) (t3 : S29 × Int) (A2 : Option Addr) (c2 : Nat) (A3 : Option Addr) (c3 : Nat) (A4 : Option Addr) (c4 : Nat) (nx3 : Nat) (u : Nat → Wt) : Option (List Value × List (Nat × Value) × List (Nat × Nat)) := qSim Try.prog [] [⟨nx0, arrV (Value.int .u8) 0 12 a1, 41⟩, ⟨nx3, [.slice A2 t3.1.f0.length c2, .slice A3 t3.1.f1.length c3, .slice A4 t3.1.f2.length c4], 29⟩] O4_75 ⟨152, []⟩ (Ld.vl u4d1l) u4d1g u [.no, .no] 0 (O4_75.take 2) [(3, pt nx0 0), (5, .bool t1), (6, .slice A1 t2.length c1), (7, pt nx3 0)]
noncomputable def u4d1s  (u : Nat → Wt) : List Value := [.slice ((u 0 0).1) ((List.replicate (1001 : Int).toNat (false : Bool)).length) ((u 0 0).2.1), i6 0]
noncomputable def u4d1f (nx0 : Nat) (t1 : Bool) (t2 : List S48) (A1 : Option Addr) (c1 : Nat) (nx3 : Nat) (i : Nat) (u : Nat → Wt) : List (Nat × Value) := foldPut ⟨152, []⟩ [(3, pt nx0 0), (5, .bool t1), (6, .slice A1 t2.length c1), (7, pt nx3 0)] (O4_75.take i) (((u4d1s ) u).take i)
theorem u4d1v (a1 : List Int) (nx0 : Nat) (t1 : Bool) (t2 : List S48) (A1 : Option Addr) (c1 : Nat) (t3 : S29 × Int) (A2 : Option Addr) (c2 : Nat) (A3 : Option Addr) (c3 : Nat) (A4 : Option Addr) (c4 : Nat) (nx3 : Nat) (u : Nat → Wt) : (u4d1q a1 nx0 t1 t2 A1 c1 t3 A2 c2 A3 c3 A4 c4 nx3 u).map (fun x => (x.1, x.2.1)) = some ((u4d1s ) u, (u4d1f nx0 t1 t2 A1 c1 nx3 2) u) := by kernel_rfl
theorem u4d1e (a1 : List Int) (nx0 : Nat) (t1 : Bool) (t2 : List S48) (A1 : Option Addr) (c1 : Nat) (t3 : S29 × Int) (A2 : Option Addr) (c2 : Nat) (A3 : Option Addr) (c3 : Nat) (A4 : Option Addr) (c4 : Nat) (nx3 : Nat) (u : Nat → Wt) : (u4d1q a1 nx0 t1 t2 A1 c1 t3 A2 c2 A3 c3 A4 c4 nx3 u).map (fun x => x.2.2.map (·.1)) = (u4d1q a1 nx0 t1 t2 A1 c1 t3 A2 c2 A3 c3 A4 c4 nx3 u).map (fun x => x.2.2.map (·.2)) := by kernel_rfl
noncomputable def a4_62n : List Nat := [0, 1, 0, 7, 15, 31, 63, 127, 255, 127, 1023, 2047, 127, 4223, 127, 28799, 61567, 131071, 262143]
theorem a4_62 : ancs O4_62 [] = a4_62n := by kernel_rfl
theorem a4_62o : drawOk O4_62 a4_62n 17 = true := by kernel_rfl
noncomputable def u4d2l  : List Ld :=
 []
noncomputable def u4d2g (x10 : Int) (x12 : Int) (g5_ : Nat) (o5_ : Nat) (g6_ : Nat) (o6_ : Nat) (g7_ : Nat) (o7_ : Nat) : List (Nat × ((Nat → Wt) → Value)) := [(3, fun u => pt g5_ (o5_ + (x10).toNat * 1)), (6, fun u => .bool true), (10, fun u => pt g6_ (o6_ + (x12).toNat * 1)), (15, fun u => pt g7_ (o7_ + (x10).toNat * 1))]
noncomputable def u4d2q (a1 : List Int) (nx0 : Nat) (t1 : Bool) (t2 : List S48) (A1 : Option Addr) (c1 : Nat) (t3 : S29 × Int) (A2 : Option Addr) (c2 : Nat) (A3 : Option Addr) (c3 : Nat) (A4 : Option Addr) (c4 : Nat) (nx3 : Nat) (x10 : Int) (x12 : Int) (g5_ : Nat) (o5_ : Nat) (g6_ : Nat) (o6_ : Nat) (g7_ : Nat) (o7_ : Nat) (u : Nat → Wt) : Option (List Value × List (Nat × Value) × List (Nat × Nat)) := qSim Try.prog [(⟨g5_, o5_ + (x10).toNat * 1, none⟩, i6 (t3.1.f1.getD (x10).toNat 0)), (⟨g6_, o6_ + (x12).toNat * 1, none⟩, i6 (t3.1.f1.getD (x12).toNat 0)), (⟨g7_, o7_ + (x10).toNat * 1, none⟩, i6 (t3.1.f1.getD (x10).toNat 0))] [⟨nx0, arrV (Value.int .u8) 0 12 a1, 41⟩, ⟨nx3, [.slice A2 t3.1.f0.length c2, .slice A3 t3.1.f1.length c3, .slice A4 t3.1.f2.length c4], 29⟩] O4_62 ⟨152, []⟩ (Ld.vl u4d2l) (u4d2g x10 x12 g5_ o5_ g6_ o6_ g7_ o7_) u [.no, .l 1, .no, .no, .r 0, .no, .no, .no, .l 1, .no, .no, .r 1, .no, .l 1, .no, .no, .r 2] 0 (O4_62.take 17) [(86, .bool (decide (x12 < x10))), (3, pt nx0 0), (5, .bool t1), (6, .slice A1 t2.length c1), (7, pt nx3 0), (9, i6 x10), (10, i6 x12)]
noncomputable def u4d2s (t3 : S29 × Int) (A3 : Option Addr) (c3 : Nat) (nx3 : Nat) (x10 : Int) (x12 : Int) (g5_ : Nat) (o5_ : Nat) (g6_ : Nat) (o6_ : Nat) (g7_ : Nat) (o7_ : Nat) (u : Nat → Wt) : List Value := [pt nx3 1, .slice A3 t3.1.f1.length c3, i6 x10, pt g5_ (o5_ + (x10).toNat * 1), i6 (t3.1.f1.getD (x10).toNat 0), .bool (decide ((t3.1.f1.getD (x10).toNat 0) ≥ 0)), .bool true, pt nx3 1, .slice A3 t3.1.f1.length c3, i6 x12, pt g6_ (o6_ + (x12).toNat * 1), i6 (t3.1.f1.getD (x12).toNat 0), pt nx3 1, .slice A3 t3.1.f1.length c3, i6 x10, pt g7_ (o7_ + (x10).toNat * 1), i6 (t3.1.f1.getD (x10).toNat 0)]
noncomputable def u4d2f (nx0 : Nat) (t1 : Bool) (t2 : List S48) (A1 : Option Addr) (c1 : Nat) (t3 : S29 × Int) (A3 : Option Addr) (c3 : Nat) (nx3 : Nat) (x10 : Int) (x12 : Int) (g5_ : Nat) (o5_ : Nat) (g6_ : Nat) (o6_ : Nat) (g7_ : Nat) (o7_ : Nat) (i : Nat) (u : Nat → Wt) : List (Nat × Value) := foldPut ⟨152, []⟩ [(86, .bool (decide (x12 < x10))), (3, pt nx0 0), (5, .bool t1), (6, .slice A1 t2.length c1), (7, pt nx3 0), (9, i6 x10), (10, i6 x12)] (O4_62.take i) (((u4d2s t3 A3 c3 nx3 x10 x12 g5_ o5_ g6_ o6_ g7_ o7_) u).take i)
theorem u4d2v (a1 : List Int) (nx0 : Nat) (t1 : Bool) (t2 : List S48) (A1 : Option Addr) (c1 : Nat) (t3 : S29 × Int) (A2 : Option Addr) (c2 : Nat) (A3 : Option Addr) (c3 : Nat) (A4 : Option Addr) (c4 : Nat) (nx3 : Nat) (x10 : Int) (x12 : Int) (g5_ : Nat) (o5_ : Nat) (g6_ : Nat) (o6_ : Nat) (g7_ : Nat) (o7_ : Nat) (u : Nat → Wt) : (u4d2q a1 nx0 t1 t2 A1 c1 t3 A2 c2 A3 c3 A4 c4 nx3 x10 x12 g5_ o5_ g6_ o6_ g7_ o7_ u).map (fun x => (x.1, x.2.1)) = some ((u4d2s t3 A3 c3 nx3 x10 x12 g5_ o5_ g6_ o6_ g7_ o7_) u, (u4d2f nx0 t1 t2 A1 c1 t3 A3 c3 nx3 x10 x12 g5_ o5_ g6_ o6_ g7_ o7_ 17) u) := by kernel_rfl
theorem u4d2e (a1 : List Int) (nx0 : Nat) (t1 : Bool) (t2 : List S48) (A1 : Option Addr) (c1 : Nat) (t3 : S29 × Int) (A2 : Option Addr) (c2 : Nat) (A3 : Option Addr) (c3 : Nat) (A4 : Option Addr) (c4 : Nat) (nx3 : Nat) (x10 : Int) (x12 : Int) (g5_ : Nat) (o5_ : Nat) (g6_ : Nat) (o6_ : Nat) (g7_ : Nat) (o7_ : Nat) (u : Nat → Wt) : (u4d2q a1 nx0 t1 t2 A1 c1 t3 A2 c2 A3 c3 A4 c4 nx3 x10 x12 g5_ o5_ g6_ o6_ g7_ o7_ u).map (fun x => x.2.2.map (·.1)) = (u4d2q a1 nx0 t1 t2 A1 c1 t3 A2 c2 A3 c3 A4 c4 nx3 x10 x12 g5_ o5_ g6_ o6_ g7_ o7_ u).map (fun x => x.2.2.map (·.2)) := by kernel_rfl
noncomputable def u4d3l  : List Ld :=
 []
noncomputable def u4d3g (x10 : Int) (g5_ : Nat) (o5_ : Nat) : List (Nat × ((Nat → Wt) → Value)) := [(3, fun u => pt g5_ (o5_ + (x10).toNat * 1)), (6, fun u => .bool false)]
noncomputable def u4d3q (a1 : List Int) (nx0 : Nat) (t1 : Bool) (t2 : List S48) (A1 : Option Addr) (c1 : Nat) (t3 : S29 × Int) (A2 : Option Addr) (c2 : Nat) (A3 : Option Addr) (c3 : Nat) (A4 : Option Addr) (c4 : Nat) (nx3 : Nat) (x10 : Int) (x12 : Int) (g5_ : Nat) (o5_ : Nat) (u : Nat → Wt) : Option (List Value × List (Nat × Value) × List (Nat × Nat)) := qSim Try.prog [(⟨g5_, o5_ + (x10).toNat * 1, none⟩, i6 (t3.1.f1.getD (x10).toNat 0))] [⟨nx0, arrV (Value.int .u8) 0 12 a1, 41⟩, ⟨nx3, [.slice A2 t3.1.f0.length c2, .slice A3 t3.1.f1.length c3, .slice A4 t3.1.f2.length c4], 29⟩] O4_62 ⟨152, []⟩ (Ld.vl u4d3l) (u4d3g x10 g5_ o5_) u [.no, .l 1, .no, .no, .r 0, .no, .no, .no, .no, .no, .no, .no, .no, .no, .no, .no, .no] 0 (O4_62.take 17) [(86, .bool (decide (x12 < x10))), (3, pt nx0 0), (5, .bool t1), (6, .slice A1 t2.length c1), (7, pt nx3 0), (9, i6 x10), (10, i6 x12)]
noncomputable def u4d3s (t3 : S29 × Int) (A3 : Option Addr) (c3 : Nat) (nx3 : Nat) (x10 : Int) (g5_ : Nat) (o5_ : Nat) (u : Nat → Wt) : List Value := [pt nx3 1, .slice A3 t3.1.f1.length c3, i6 x10, pt g5_ (o5_ + (x10).toNat * 1), i6 (t3.1.f1.getD (x10).toNat 0), .bool (decide ((t3.1.f1.getD (x10).toNat 0) ≥ 0)), .bool false, undef, undef, undef, undef, undef, undef, undef, undef, undef, undef]
noncomputable def u4d3f (nx0 : Nat) (t1 : Bool) (t2 : List S48) (A1 : Option Addr) (c1 : Nat) (t3 : S29 × Int) (A3 : Option Addr) (c3 : Nat) (nx3 : Nat) (x10 : Int) (x12 : Int) (g5_ : Nat) (o5_ : Nat) (i : Nat) (u : Nat → Wt) : List (Nat × Value) := foldPut ⟨152, []⟩ [(86, .bool (decide (x12 < x10))), (3, pt nx0 0), (5, .bool t1), (6, .slice A1 t2.length c1), (7, pt nx3 0), (9, i6 x10), (10, i6 x12)] (O4_62.take i) (((u4d3s t3 A3 c3 nx3 x10 g5_ o5_) u).take i)
theorem u4d3v (a1 : List Int) (nx0 : Nat) (t1 : Bool) (t2 : List S48) (A1 : Option Addr) (c1 : Nat) (t3 : S29 × Int) (A2 : Option Addr) (c2 : Nat) (A3 : Option Addr) (c3 : Nat) (A4 : Option Addr) (c4 : Nat) (nx3 : Nat) (x10 : Int) (x12 : Int) (g5_ : Nat) (o5_ : Nat) (u : Nat → Wt) : (u4d3q a1 nx0 t1 t2 A1 c1 t3 A2 c2 A3 c3 A4 c4 nx3 x10 x12 g5_ o5_ u).map (fun x => (x.1, x.2.1)) = some ((u4d3s t3 A3 c3 nx3 x10 g5_ o5_) u, (u4d3f nx0 t1 t2 A1 c1 t3 A3 c3 nx3 x10 x12 g5_ o5_ 17) u) := by kernel_rfl
theorem u4d3e (a1 : List Int) (nx0 : Nat) (t1 : Bool) (t2 : List S48) (A1 : Option Addr) (c1 : Nat) (t3 : S29 × Int) (A2 : Option Addr) (c2 : Nat) (A3 : Option Addr) (c3 : Nat) (A4 : Option Addr) (c4 : Nat) (nx3 : Nat) (x10 : Int) (x12 : Int) (g5_ : Nat) (o5_ : Nat) (u : Nat → Wt) : (u4d3q a1 nx0 t1 t2 A1 c1 t3 A2 c2 A3 c3 A4 c4 nx3 x10 x12 g5_ o5_ u).map (fun x => x.2.2.map (·.1)) = (u4d3q a1 nx0 t1 t2 A1 c1 t3 A2 c2 A3 c3 A4 c4 nx3 x10 x12 g5_ o5_ u).map (fun x => x.2.2.map (·.2)) := by kernel_rfl
noncomputable def a4_39n : List Nat := (0 :: 1 :: 0 :: 7 :: 15 :: 31 :: 63 :: 127 :: 255 :: 127 :: 1023 :: 2047 :: 4095 :: 8191 :: 16383 :: 16383 :: 49151 :: 16383 :: 245759 :: 507903 :: 16383 :: 1064959 :: 16383 :: 7356415 :: 15745023 :: 33554431 :: 67108863 :: 134217727 :: 268435455 :: 536870911 :: 1073741823 :: 2147483647 :: 4294967295 :: 8589934591 :: 17179869183 :: 8589934591 :: 42949672959 :: 137438953471 :: 274877906943 :: 8589934591 :: 558345748479 :: 8589934591 :: 3856880631807 :: 8254927142911 :: 17592186044415 :: 35184372088831 :: 70368744177663 :: [])
theorem a4_39 : ancs O4_39 [] = a4_39n := by kernel_rfl
theorem a4_39o : drawOk O4_39 a4_39n 44 = true := by kernel_rfl
noncomputable def u4d4l  : List Ld :=
 []
noncomputable def u4d4g (x10 : Int) (g8_ : Nat) (o8_ : Nat) : List (Nat × ((Nat → Wt) → Value)) := [(3, fun u => pt g8_ (o8_ + (x10).toNat * 1)), (6, fun u => .bool true)]
noncomputable def u4d4q (a1 : List Int) (nx0 : Nat) (t1 : Bool) (t2 : List S48) (A1 : Option Addr) (c1 : Nat) (t3 : S29 × Int) (A2 : Option Addr) (c2 : Nat) (A3 : Option Addr) (c3 : Nat) (A4 : Option Addr) (c4 : Nat) (nx3 : Nat) (x10 : Int) (g8_ : Nat) (o8_ : Nat) (u : Nat → Wt) : Option (List Value × List (Nat × Value) × List (Nat × Nat)) := qSim Try.prog [(⟨g8_, o8_ + (x10).toNat * 1, none⟩, i6 (t3.1.f1.getD (x10).toNat 0))] [⟨nx0, arrV (Value.int .u8) 0 12 a1, 41⟩, ⟨nx3, [.slice A2 t3.1.f0.length c2, .slice A3 t3.1.f1.length c3, .slice A4 t3.1.f2.length c4], 29⟩] O4_39 ⟨152, []⟩ (Ld.vl u4d4l) (u4d4g x10 g8_ o8_) u (.no :: .l 1 :: .no :: .no :: .r 0 :: .no :: .no :: .no :: .no :: .no :: .no :: .no :: .no :: .no :: .no :: .no :: .no :: .no :: .no :: .no :: .no :: .no :: .no :: .no :: .no :: .no :: .no :: .no :: .no :: .no :: .no :: .no :: .no :: .no :: .no :: .no :: .no :: .no :: .no :: .no :: .no :: .no :: .no :: .no :: []) 0 (O4_39.take 44) [(34, .bool (decide (x10 < (t3.1.f0.length : Int)))), (3, pt nx0 0), (5, .bool t1), (6, .slice A1 t2.length c1), (7, pt nx3 0), (9, i6 x10)]
noncomputable def u4d4s (t3 : S29 × Int) (A3 : Option Addr) (c3 : Nat) (nx3 : Nat) (x10 : Int) (g8_ : Nat) (o8_ : Nat) (u : Nat → Wt) : List Value := (pt nx3 1 :: .slice A3 t3.1.f1.length c3 :: i6 x10 :: pt g8_ (o8_ + (x10).toNat * 1) :: i6 (t3.1.f1.getD (x10).toNat 0) :: .bool (decide ((t3.1.f1.getD (x10).toNat 0) < (-1))) :: .bool true :: undef :: undef :: undef :: undef :: undef :: undef :: undef :: undef :: undef :: undef :: undef :: undef :: undef :: undef :: undef :: undef :: undef :: undef :: undef :: undef :: undef :: .bool true :: .bool true :: undef :: undef :: undef :: undef :: undef :: undef :: undef :: undef :: undef :: undef :: undef :: undef :: undef :: undef :: [])
noncomputable def u4d4f (nx0 : Nat) (t1 : Bool) (t2 : List S48) (A1 : Option Addr) (c1 : Nat) (t3 : S29 × Int) (A3 : Option Addr) (c3 : Nat) (nx3 : Nat) (x10 : Int) (g8_ : Nat) (o8_ : Nat) (i : Nat) (u : Nat → Wt) : List (Nat × Value) := foldPut ⟨152, []⟩ [(34, .bool (decide (x10 < (t3.1.f0.length : Int)))), (3, pt nx0 0), (5, .bool t1), (6, .slice A1 t2.length c1), (7, pt nx3 0), (9, i6 x10)] (O4_39.take i) (((u4d4s t3 A3 c3 nx3 x10 g8_ o8_) u).take i)
theorem u4d4v (a1 : List Int) (nx0 : Nat) (t1 : Bool) (t2 : List S48) (A1 : Option Addr) (c1 : Nat) (t3 : S29 × Int) (A2 : Option Addr) (c2 : Nat) (A3 : Option Addr) (c3 : Nat) (A4 : Option Addr) (c4 : Nat) (nx3 : Nat) (x10 : Int) (g8_ : Nat) (o8_ : Nat) (u : Nat → Wt) : (u4d4q a1 nx0 t1 t2 A1 c1 t3 A2 c2 A3 c3 A4 c4 nx3 x10 g8_ o8_ u).map (fun x => (x.1, x.2.1)) = some ((u4d4s t3 A3 c3 nx3 x10 g8_ o8_) u, (u4d4f nx0 t1 t2 A1 c1 t3 A3 c3 nx3 x10 g8_ o8_ 44) u) := by kernel_rfl
theorem u4d4e (a1 : List Int) (nx0 : Nat) (t1 : Bool) (t2 : List S48) (A1 : Option Addr) (c1 : Nat) (t3 : S29 × Int) (A2 : Option Addr) (c2 : Nat) (A3 : Option Addr) (c3 : Nat) (A4 : Option Addr) (c4 : Nat) (nx3 : Nat) (x10 : Int) (g8_ : Nat) (o8_ : Nat) (u : Nat → Wt) : (u4d4q a1 nx0 t1 t2 A1 c1 t3 A2 c2 A3 c3 A4 c4 nx3 x10 g8_ o8_ u).map (fun x => x.2.2.map (·.1)) = (u4d4q a1 nx0 t1 t2 A1 c1 t3 A2 c2 A3 c3 A4 c4 nx3 x10 g8_ o8_ u).map (fun x => x.2.2.map (·.2)) := by kernel_rfl
noncomputable def u4d5l (t6 : Int) : List Ld :=
 [⟨25, fun x => i6 t6, fun x => [], fun x J => True, fun x J J' h f => trivial⟩]
noncomputable def u4d5g (x10 : Int) (g8_ : Nat) (o8_ : Nat) (g9_ : Nat) (o9_ : Nat) (g10_ : Nat) (o10_ : Nat) (g11_ : Nat) (o11_ : Nat) : List (Nat × ((Nat → Wt) → Value)) := [(3, fun u => pt g8_ (o8_ + (x10).toNat * 1)), (6, fun u => .bool false), (10, fun u => pt g9_ (o9_ + (x10).toNat * 1)), (13, fun u => .bool true), (18, fun u => pt g10_ (o10_ + (x10).toNat * 1)), (23, fun u => pt g11_ (o11_ + (x10).toNat * 1)), (29, fun u => .bool true)]
noncomputable def u4d5q (a1 : List Int) (nx0 : Nat) (t1 : Bool) (t2 : List S48) (A1 : Option Addr) (c1 : Nat) (t3 : S29 × Int) (A2 : Option Addr) (c2 : Nat) (A3 : Option Addr) (c3 : Nat) (A4 : Option Addr) (c4 : Nat) (nx3 : Nat) (x10 : Int) (g8_ : Nat) (o8_ : Nat) (g9_ : Nat) (o9_ : Nat) (g10_ : Nat) (o10_ : Nat) (g11_ : Nat) (o11_ : Nat) (t6 : Int) (u : Nat → Wt) : Option (List Value × List (Nat × Value) × List (Nat × Nat)) := qSim Try.prog [(⟨g8_, o8_ + (x10).toNat * 1, none⟩, i6 (t3.1.f1.getD (x10).toNat 0)), (⟨g9_, o9_ + (x10).toNat * 1, none⟩, i6 (t3.1.f1.getD (x10).toNat 0)), (⟨g10_, o10_ + (x10).toNat * 1, none⟩, i6 (t3.1.f0.getD (x10).toNat 0)), (⟨g11_, o11_ + (x10).toNat * 1, none⟩, i6 (t3.1.f1.getD (x10).toNat 0))] [⟨nx0, arrV (Value.int .u8) 0 12 a1, 41⟩, ⟨nx3, [.slice A2 t3.1.f0.length c2, .slice A3 t3.1.f1.length c3, .slice A4 t3.1.f2.length c4], 29⟩] O4_39 ⟨152, []⟩ (Ld.vl (u4d5l t6)) (u4d5g x10 g8_ o8_ g9_ o9_ g10_ o10_ g11_ o11_) u (.no :: .l 1 :: .no :: .no :: .r 0 :: .no :: .no :: .no :: .l 1 :: .no :: .no :: .r 1 :: .no :: .no :: .no :: .no :: .l 1 :: .no :: .no :: .r 2 :: .no :: .l 1 :: .no :: .no :: .r 3 :: .no :: .no :: .no :: .no :: .no :: .no :: .no :: .no :: .no :: .no :: .no :: .no :: .no :: .no :: .no :: .no :: .no :: .no :: .no :: []) 0 (O4_39.take 44) [(34, .bool (decide (x10 < (t3.1.f0.length : Int)))), (3, pt nx0 0), (5, .bool t1), (6, .slice A1 t2.length c1), (7, pt nx3 0), (9, i6 x10)]
noncomputable def u4d5s (t2 : List S48) (A1 : Option Addr) (c1 : Nat) (t3 : S29 × Int) (A2 : Option Addr) (c2 : Nat) (A3 : Option Addr) (c3 : Nat) (nx3 : Nat) (x10 : Int) (g8_ : Nat) (o8_ : Nat) (g9_ : Nat) (o9_ : Nat) (g10_ : Nat) (o10_ : Nat) (g11_ : Nat) (o11_ : Nat) (t6 : Int) (u : Nat → Wt) : List Value := (pt nx3 1 :: .slice A3 t3.1.f1.length c3 :: i6 x10 :: pt g8_ (o8_ + (x10).toNat * 1) :: i6 (t3.1.f1.getD (x10).toNat 0) :: .bool (decide ((t3.1.f1.getD (x10).toNat 0) < (-1))) :: .bool false :: pt nx3 1 :: .slice A3 t3.1.f1.length c3 :: i6 x10 :: pt g9_ (o9_ + (x10).toNat * 1) :: i6 (t3.1.f1.getD (x10).toNat 0) :: .bool (decide ((t3.1.f1.getD (x10).toNat 0) ≥ 0)) :: .bool true :: .slice A1 t2.length c1 :: pt nx3 0 :: .slice A2 t3.1.f0.length c2 :: i6 x10 :: pt g10_ (o10_ + (x10).toNat * 1) :: i6 (t3.1.f0.getD (x10).toNat 0) :: pt nx3 1 :: .slice A3 t3.1.f1.length c3 :: i6 x10 :: pt g11_ (o11_ + (x10).toNat * 1) :: i6 (t3.1.f1.getD (x10).toNat 0) :: i6 t6 :: .bool (decide (t6 < 1)) :: .bool (decide (t6 < 1)) :: .bool (decide (t6 < 1)) :: .bool true :: undef :: undef :: undef :: undef :: undef :: undef :: undef :: undef :: undef :: undef :: undef :: undef :: undef :: undef :: [])
noncomputable def u4d5f (nx0 : Nat) (t1 : Bool) (t2 : List S48) (A1 : Option Addr) (c1 : Nat) (t3 : S29 × Int) (A2 : Option Addr) (c2 : Nat) (A3 : Option Addr) (c3 : Nat) (nx3 : Nat) (x10 : Int) (g8_ : Nat) (o8_ : Nat) (g9_ : Nat) (o9_ : Nat) (g10_ : Nat) (o10_ : Nat) (g11_ : Nat) (o11_ : Nat) (t6 : Int) (i : Nat) (u : Nat → Wt) : List (Nat × Value) := foldPut ⟨152, []⟩ [(34, .bool (decide (x10 < (t3.1.f0.length : Int)))), (3, pt nx0 0), (5, .bool t1), (6, .slice A1 t2.length c1), (7, pt nx3 0), (9, i6 x10)] (O4_39.take i) (((u4d5s t2 A1 c1 t3 A2 c2 A3 c3 nx3 x10 g8_ o8_ g9_ o9_ g10_ o10_ g11_ o11_ t6) u).take i)
theorem u4d5v (a1 : List Int) (nx0 : Nat) (t1 : Bool) (t2 : List S48) (A1 : Option Addr) (c1 : Nat) (t3 : S29 × Int) (A2 : Option Addr) (c2 : Nat) (A3 : Option Addr) (c3 : Nat) (A4 : Option Addr) (c4 : Nat) (nx3 : Nat) (x10 : Int) (g8_ : Nat) (o8_ : Nat) (g9_ : Nat) (o9_ : Nat) (g10_ : Nat) (o10_ : Nat) (g11_ : Nat) (o11_ : Nat) (t6 : Int) (u : Nat → Wt) : (u4d5q a1 nx0 t1 t2 A1 c1 t3 A2 c2 A3 c3 A4 c4 nx3 x10 g8_ o8_ g9_ o9_ g10_ o10_ g11_ o11_ t6 u).map (fun x => (x.1, x.2.1)) = some ((u4d5s t2 A1 c1 t3 A2 c2 A3 c3 nx3 x10 g8_ o8_ g9_ o9_ g10_ o10_ g11_ o11_ t6) u, (u4d5f nx0 t1 t2 A1 c1 t3 A2 c2 A3 c3 nx3 x10 g8_ o8_ g9_ o9_ g10_ o10_ g11_ o11_ t6 44) u) := by kernel_rfl
theorem u4d5e (a1 : List Int) (nx0 : Nat) (t1 : Bool) (t2 : List S48) (A1 : Option Addr) (c1 : Nat) (t3 : S29 × Int) (A2 : Option Addr) (c2 : Nat) (A3 : Option Addr) (c3 : Nat) (A4 : Option Addr) (c4 : Nat) (nx3 : Nat) (x10 : Int) (g8_ : Nat) (o8_ : Nat) (g9_ : Nat) (o9_ : Nat) (g10_ : Nat) (o10_ : Nat) (g11_ : Nat) (o11_ : Nat) (t6 : Int) (u : Nat → Wt) : (u4d5q a1 nx0 t1 t2 A1 c1 t3 A2 c2 A3 c3 A4 c4 nx3 x10 g8_ o8_ g9_ o9_ g10_ o10_ g11_ o11_ t6 u).map (fun x => x.2.2.map (·.1)) = (u4d5q a1 nx0 t1 t2 A1 c1 t3 A2 c2 A3 c3 A4 c4 nx3 x10 g8_ o8_ g9_ o9_ g10_ o10_ g11_ o11_ t6 u).map (fun x => x.2.2.map (·.2)) := by kernel_rfl
noncomputable def u4d6l (t6 : Int) : List Ld :=
 [⟨25, fun x => i6 t6, fun x => [], fun x J => True, fun x J J' h f => trivial⟩]
noncomputable def u4d6g (x10 : Int) (g8_ : Nat) (o8_ : Nat) (g9_ : Nat) (o9_ : Nat) (g10_ : Nat) (o10_ : Nat) (g11_ : Nat) (o11_ : Nat) (g12_ : Nat) (o12_ : Nat) (g13_ : Nat) (o13_ : Nat) : List (Nat × ((Nat → Wt) → Value)) := [(3, fun u => pt g8_ (o8_ + (x10).toNat * 1)), (6, fun u => .bool false), (10, fun u => pt g9_ (o9_ + (x10).toNat * 1)), (13, fun u => .bool true), (18, fun u => pt g10_ (o10_ + (x10).toNat * 1)), (23, fun u => pt g11_ (o11_ + (x10).toNat * 1)), (29, fun u => .bool false), (32, fun u => .bool true), (37, fun u => pt g12_ (o12_ + (W .i64 (x10 - 1)).toNat * 1)), (42, fun u => pt g13_ (o13_ + (x10).toNat * 1))]
noncomputable def u4d6q (a1 : List Int) (nx0 : Nat) (t1 : Bool) (t2 : List S48) (A1 : Option Addr) (c1 : Nat) (t3 : S29 × Int) (A2 : Option Addr) (c2 : Nat) (A3 : Option Addr) (c3 : Nat) (A4 : Option Addr) (c4 : Nat) (nx3 : Nat) (x10 : Int) (g8_ : Nat) (o8_ : Nat) (g9_ : Nat) (o9_ : Nat) (g10_ : Nat) (o10_ : Nat) (g11_ : Nat) (o11_ : Nat) (t6 : Int) (g12_ : Nat) (o12_ : Nat) (g13_ : Nat) (o13_ : Nat) (u : Nat → Wt) : Option (List Value × List (Nat × Value) × List (Nat × Nat)) := qSim Try.prog [(⟨g8_, o8_ + (x10).toNat * 1, none⟩, i6 (t3.1.f1.getD (x10).toNat 0)), (⟨g9_, o9_ + (x10).toNat * 1, none⟩, i6 (t3.1.f1.getD (x10).toNat 0)), (⟨g10_, o10_ + (x10).toNat * 1, none⟩, i6 (t3.1.f0.getD (x10).toNat 0)), (⟨g11_, o11_ + (x10).toNat * 1, none⟩, i6 (t3.1.f1.getD (x10).toNat 0)), (⟨g12_, o12_ + (W .i64 (x10 - 1)).toNat * 1, none⟩, i6 (t3.1.f0.getD (W .i64 (x10 - 1)).toNat 0)), (⟨g13_, o13_ + (x10).toNat * 1, none⟩, i6 (t3.1.f0.getD (x10).toNat 0))] [⟨nx0, arrV (Value.int .u8) 0 12 a1, 41⟩, ⟨nx3, [.slice A2 t3.1.f0.length c2, .slice A3 t3.1.f1.length c3, .slice A4 t3.1.f2.length c4], 29⟩] O4_39 ⟨152, []⟩ (Ld.vl (u4d6l t6)) (u4d6g x10 g8_ o8_ g9_ o9_ g10_ o10_ g11_ o11_ g12_ o12_ g13_ o13_) u (.no :: .l 1 :: .no :: .no :: .r 0 :: .no :: .no :: .no :: .l 1 :: .no :: .no :: .r 1 :: .no :: .no :: .no :: .no :: .l 1 :: .no :: .no :: .r 2 :: .no :: .l 1 :: .no :: .no :: .r 3 :: .no :: .no :: .no :: .no :: .no :: .no :: .no :: .no :: .no :: .l 1 :: .no :: .no :: .no :: .r 4 :: .no :: .l 1 :: .no :: .no :: .r 5 :: []) 0 (O4_39.take 44) [(34, .bool (decide (x10 < (t3.1.f0.length : Int)))), (3, pt nx0 0), (5, .bool t1), (6, .slice A1 t2.length c1), (7, pt nx3 0), (9, i6 x10)]
noncomputable def u4d6s (t2 : List S48) (A1 : Option Addr) (c1 : Nat) (t3 : S29 × Int) (A2 : Option Addr) (c2 : Nat) (A3 : Option Addr) (c3 : Nat) (nx3 : Nat) (x10 : Int) (g8_ : Nat) (o8_ : Nat) (g9_ : Nat) (o9_ : Nat) (g10_ : Nat) (o10_ : Nat) (g11_ : Nat) (o11_ : Nat) (t6 : Int) (g12_ : Nat) (o12_ : Nat) (g13_ : Nat) (o13_ : Nat) (u : Nat → Wt) : List Value := (pt nx3 1 :: .slice A3 t3.1.f1.length c3 :: i6 x10 :: pt g8_ (o8_ + (x10).toNat * 1) :: i6 (t3.1.f1.getD (x10).toNat 0) :: .bool (decide ((t3.1.f1.getD (x10).toNat 0) < (-1))) :: .bool false :: pt nx3 1 :: .slice A3 t3.1.f1.length c3 :: i6 x10 :: pt g9_ (o9_ + (x10).toNat * 1) :: i6 (t3.1.f1.getD (x10).toNat 0) :: .bool (decide ((t3.1.f1.getD (x10).toNat 0) ≥ 0)) :: .bool true :: .slice A1 t2.length c1 :: pt nx3 0 :: .slice A2 t3.1.f0.length c2 :: i6 x10 :: pt g10_ (o10_ + (x10).toNat * 1) :: i6 (t3.1.f0.getD (x10).toNat 0) :: pt nx3 1 :: .slice A3 t3.1.f1.length c3 :: i6 x10 :: pt g11_ (o11_ + (x10).toNat * 1) :: i6 (t3.1.f1.getD (x10).toNat 0) :: i6 t6 :: .bool (decide (t6 < 1)) :: .bool (decide (t6 < 1)) :: .bool (decide (t6 < 1)) :: .bool false :: i6 x10 :: .bool (decide (x10 > 0)) :: .bool true :: pt nx3 0 :: .slice A2 t3.1.f0.length c2 :: i6 x10 :: i6 (W .i64 (x10 - 1)) :: pt g12_ (o12_ + (W .i64 (x10 - 1)).toNat * 1) :: i6 (t3.1.f0.getD (W .i64 (x10 - 1)).toNat 0) :: pt nx3 0 :: .slice A2 t3.1.f0.length c2 :: i6 x10 :: pt g13_ (o13_ + (x10).toNat * 1) :: i6 (t3.1.f0.getD (x10).toNat 0) :: [])
noncomputable def u4d6f (nx0 : Nat) (t1 : Bool) (t2 : List S48) (A1 : Option Addr) (c1 : Nat) (t3 : S29 × Int) (A2 : Option Addr) (c2 : Nat) (A3 : Option Addr) (c3 : Nat) (nx3 : Nat) (x10 : Int) (g8_ : Nat) (o8_ : Nat) (g9_ : Nat) (o9_ : Nat) (g10_ : Nat) (o10_ : Nat) (g11_ : Nat) (o11_ : Nat) (t6 : Int) (g12_ : Nat) (o12_ : Nat) (g13_ : Nat) (o13_ : Nat) (i : Nat) (u : Nat → Wt) : List (Nat × Value) := foldPut ⟨152, []⟩ [(34, .bool (decide (x10 < (t3.1.f0.length : Int)))), (3, pt nx0 0), (5, .bool t1), (6, .slice A1 t2.length c1), (7, pt nx3 0), (9, i6 x10)] (O4_39.take i) (((u4d6s t2 A1 c1 t3 A2 c2 A3 c3 nx3 x10 g8_ o8_ g9_ o9_ g10_ o10_ g11_ o11_ t6 g12_ o12_ g13_ o13_) u).take i)
theorem u4d6v (a1 : List Int) (nx0 : Nat) (t1 : Bool) (t2 : List S48) (A1 : Option Addr) (c1 : Nat) (t3 : S29 × Int) (A2 : Option Addr) (c2 : Nat) (A3 : Option Addr) (c3 : Nat) (A4 : Option Addr) (c4 : Nat) (nx3 : Nat) (x10 : Int) (g8_ : Nat) (o8_ : Nat) (g9_ : Nat) (o9_ : Nat) (g10_ : Nat) (o10_ : Nat) (g11_ : Nat) (o11_ : Nat) (t6 : Int) (g12_ : Nat) (o12_ : Nat) (g13_ : Nat) (o13_ : Nat) (u : Nat → Wt) : (u4d6q a1 nx0 t1 t2 A1 c1 t3 A2 c2 A3 c3 A4 c4 nx3 x10 g8_ o8_ g9_ o9_ g10_ o10_ g11_ o11_ t6 g12_ o12_ g13_ o13_ u).map (fun x => (x.1, x.2.1)) = some ((u4d6s t2 A1 c1 t3 A2 c2 A3 c3 nx3 x10 g8_ o8_ g9_ o9_ g10_ o10_ g11_ o11_ t6 g12_ o12_ g13_ o13_) u, (u4d6f nx0 t1 t2 A1 c1 t3 A2 c2 A3 c3 nx3 x10 g8_ o8_ g9_ o9_ g10_ o10_ g11_ o11_ t6 g12_ o12_ g13_ o13_ 44) u) := by kernel_rfl
theorem u4d6e (a1 : List Int) (nx0 : Nat) (t1 : Bool) (t2 : List S48) (A1 : Option Addr) (c1 : Nat) (t3 : S29 × Int) (A2 : Option Addr) (c2 : Nat) (A3 : Option Addr) (c3 : Nat) (A4 : Option Addr) (c4 : Nat) (nx3 : Nat) (x10 : Int) (g8_ : Nat) (o8_ : Nat) (g9_ : Nat) (o9_ : Nat) (g10_ : Nat) (o10_ : Nat) (g11_ : Nat) (o11_ : Nat) (t6 : Int) (g12_ : Nat) (o12_ : Nat) (g13_ : Nat) (o13_ : Nat) (u : Nat → Wt) : (u4d6q a1 nx0 t1 t2 A1 c1 t3 A2 c2 A3 c3 A4 c4 nx3 x10 g8_ o8_ g9_ o9_ g10_ o10_ g11_ o11_ t6 g12_ o12_ g13_ o13_ u).map (fun x => x.2.2.map (·.1)) = (u4d6q a1 nx0 t1 t2 A1 c1 t3 A2 c2 A3 c3 A4 c4 nx3 x10 g8_ o8_ g9_ o9_ g10_ o10_ g11_ o11_ t6 g12_ o12_ g13_ o13_ u).map (fun x => x.2.2.map (·.2)) := by kernel_rfl
noncomputable def u4d7l (t6 : Int) : List Ld :=
 [⟨25, fun x => i6 t6, fun x => [], fun x J => True, fun x J J' h f => trivial⟩]
noncomputable def u4d7g (x10 : Int) (g8_ : Nat) (o8_ : Nat) (g9_ : Nat) (o9_ : Nat) (g10_ : Nat) (o10_ : Nat) (g11_ : Nat) (o11_ : Nat) : List (Nat × ((Nat → Wt) → Value)) := [(3, fun u => pt g8_ (o8_ + (x10).toNat * 1)), (6, fun u => .bool false), (10, fun u => pt g9_ (o9_ + (x10).toNat * 1)), (13, fun u => .bool true), (18, fun u => pt g10_ (o10_ + (x10).toNat * 1)), (23, fun u => pt g11_ (o11_ + (x10).toNat * 1)), (29, fun u => .bool false), (32, fun u => .bool false)]
noncomputable def u4d7q (a1 : List Int) (nx0 : Nat) (t1 : Bool) (t2 : List S48) (A1 : Option Addr) (c1 : Nat) (t3 : S29 × Int) (A2 : Option Addr) (c2 : Nat) (A3 : Option Addr) (c3 : Nat) (A4 : Option Addr) (c4 : Nat) (nx3 : Nat) (x10 : Int) (g8_ : Nat) (o8_ : Nat) (g9_ : Nat) (o9_ : Nat) (g10_ : Nat) (o10_ : Nat) (g11_ : Nat) (o11_ : Nat) (t6 : Int) (u : Nat → Wt) : Option (List Value × List (Nat × Value) × List (Nat × Nat)) := qSim Try.prog [(⟨g8_, o8_ + (x10).toNat * 1, none⟩, i6 (t3.1.f1.getD (x10).toNat 0)), (⟨g9_, o9_ + (x10).toNat * 1, none⟩, i6 (t3.1.f1.getD (x10).toNat 0)), (⟨g10_, o10_ + (x10).toNat * 1, none⟩, i6 (t3.1.f0.getD (x10).toNat 0)), (⟨g11_, o11_ + (x10).toNat * 1, none⟩, i6 (t3.1.f1.getD (x10).toNat 0))] [⟨nx0, arrV (Value.int .u8) 0 12 a1, 41⟩, ⟨nx3, [.slice A2 t3.1.f0.length c2, .slice A3 t3.1.f1.length c3, .slice A4 t3.1.f2.length c4], 29⟩] O4_39 ⟨152, []⟩ (Ld.vl (u4d7l t6)) (u4d7g x10 g8_ o8_ g9_ o9_ g10_ o10_ g11_ o11_) u (.no :: .l 1 :: .no :: .no :: .r 0 :: .no :: .no :: .no :: .l 1 :: .no :: .no :: .r 1 :: .no :: .no :: .no :: .no :: .l 1 :: .no :: .no :: .r 2 :: .no :: .l 1 :: .no :: .no :: .r 3 :: .no :: .no :: .no :: .no :: .no :: .no :: .no :: .no :: .no :: .no :: .no :: .no :: .no :: .no :: .no :: .no :: .no :: .no :: .no :: []) 0 (O4_39.take 44) [(34, .bool (decide (x10 < (t3.1.f0.length : Int)))), (3, pt nx0 0), (5, .bool t1), (6, .slice A1 t2.length c1), (7, pt nx3 0), (9, i6 x10)]
noncomputable def u4d7s (t2 : List S48) (A1 : Option Addr) (c1 : Nat) (t3 : S29 × Int) (A2 : Option Addr) (c2 : Nat) (A3 : Option Addr) (c3 : Nat) (nx3 : Nat) (x10 : Int) (g8_ : Nat) (o8_ : Nat) (g9_ : Nat) (o9_ : Nat) (g10_ : Nat) (o10_ : Nat) (g11_ : Nat) (o11_ : Nat) (t6 : Int) (u : Nat → Wt) : List Value := (pt nx3 1 :: .slice A3 t3.1.f1.length c3 :: i6 x10 :: pt g8_ (o8_ + (x10).toNat * 1) :: i6 (t3.1.f1.getD (x10).toNat 0) :: .bool (decide ((t3.1.f1.getD (x10).toNat 0) < (-1))) :: .bool false :: pt nx3 1 :: .slice A3 t3.1.f1.length c3 :: i6 x10 :: pt g9_ (o9_ + (x10).toNat * 1) :: i6 (t3.1.f1.getD (x10).toNat 0) :: .bool (decide ((t3.1.f1.getD (x10).toNat 0) ≥ 0)) :: .bool true :: .slice A1 t2.length c1 :: pt nx3 0 :: .slice A2 t3.1.f0.length c2 :: i6 x10 :: pt g10_ (o10_ + (x10).toNat * 1) :: i6 (t3.1.f0.getD (x10).toNat 0) :: pt nx3 1 :: .slice A3 t3.1.f1.length c3 :: i6 x10 :: pt g11_ (o11_ + (x10).toNat * 1) :: i6 (t3.1.f1.getD (x10).toNat 0) :: i6 t6 :: .bool (decide (t6 < 1)) :: .bool (decide (t6 < 1)) :: .bool (decide (t6 < 1)) :: .bool false :: i6 x10 :: .bool (decide (x10 > 0)) :: .bool false :: undef :: undef :: undef :: undef :: undef :: undef :: undef :: undef :: undef :: undef :: undef :: [])
noncomputable def u4d7f (nx0 : Nat) (t1 : Bool) (t2 : List S48) (A1 : Option Addr) (c1 : Nat) (t3 : S29 × Int) (A2 : Option Addr) (c2 : Nat) (A3 : Option Addr) (c3 : Nat) (nx3 : Nat) (x10 : Int) (g8_ : Nat) (o8_ : Nat) (g9_ : Nat) (o9_ : Nat) (g10_ : Nat) (o10_ : Nat) (g11_ : Nat) (o11_ : Nat) (t6 : Int) (i : Nat) (u : Nat → Wt) : List (Nat × Value) := foldPut ⟨152, []⟩ [(34, .bool (decide (x10 < (t3.1.f0.length : Int)))), (3, pt nx0 0), (5, .bool t1), (6, .slice A1 t2.length c1), (7, pt nx3 0), (9, i6 x10)] (O4_39.take i) (((u4d7s t2 A1 c1 t3 A2 c2 A3 c3 nx3 x10 g8_ o8_ g9_ o9_ g10_ o10_ g11_ o11_ t6) u).take i)
theorem u4d7v (a1 : List Int) (nx0 : Nat) (t1 : Bool) (t2 : List S48) (A1 : Option Addr) (c1 : Nat) (t3 : S29 × Int) (A2 : Option Addr) (c2 : Nat) (A3 : Option Addr) (c3 : Nat) (A4 : Option Addr) (c4 : Nat) (nx3 : Nat) (x10 : Int) (g8_ : Nat) (o8_ : Nat) (g9_ : Nat) (o9_ : Nat) (g10_ : Nat) (o10_ : Nat) (g11_ : Nat) (o11_ : Nat) (t6 : Int) (u : Nat → Wt) : (u4d7q a1 nx0 t1 t2 A1 c1 t3 A2 c2 A3 c3 A4 c4 nx3 x10 g8_ o8_ g9_ o9_ g10_ o10_ g11_ o11_ t6 u).map (fun x => (x.1, x.2.1)) = some ((u4d7s t2 A1 c1 t3 A2 c2 A3 c3 nx3 x10 g8_ o8_ g9_ o9_ g10_ o10_ g11_ o11_ t6) u, (u4d7f nx0 t1 t2 A1 c1 t3 A2 c2 A3 c3 nx3 x10 g8_ o8_ g9_ o9_ g10_ o10_ g11_ o11_ t6 44) u) := by kernel_rfl
theorem u4d7e (a1 : List Int) (nx0 : Nat) (t1 : Bool) (t2 : List S48) (A1 : Option Addr) (c1 : Nat) (t3 : S29 × Int) (A2 : Option Addr) (c2 : Nat) (A3 : Option Addr) (c3 : Nat) (A4 : Option Addr) (c4 : Nat) (nx3 : Nat) (x10 : Int) (g8_ : Nat) (o8_ : Nat) (g9_ : Nat) (o9_ : Nat) (g10_ : Nat) (o10_ : Nat) (g11_ : Nat) (o11_ : Nat) (t6 : Int) (u : Nat → Wt) : (u4d7q a1 nx0 t1 t2 A1 c1 t3 A2 c2 A3 c3 A4 c4 nx3 x10 g8_ o8_ g9_ o9_ g10_ o10_ g11_ o11_ t6 u).map (fun x => x.2.2.map (·.1)) = (u4d7q a1 nx0 t1 t2 A1 c1 t3 A2 c2 A3 c3 A4 c4 nx3 x10 g8_ o8_ g9_ o9_ g10_ o10_ g11_ o11_ t6 u).map (fun x => x.2.2.map (·.2)) := by kernel_rfl
noncomputable def u4d8l  : List Ld :=
 []
noncomputable def u4d8g (x10 : Int) (g8_ : Nat) (o8_ : Nat) (g9_ : Nat) (o9_ : Nat) (g14_ : Nat) (o14_ : Nat) (g15_ : Nat) (o15_ : Nat) : List (Nat × ((Nat → Wt) → Value)) := [(3, fun u => pt g8_ (o8_ + (x10).toNat * 1)), (6, fun u => .bool false), (10, fun u => pt g9_ (o9_ + (x10).toNat * 1)), (13, fun u => .bool false), (32, fun u => .bool true), (37, fun u => pt g14_ (o14_ + (W .i64 (x10 - 1)).toNat * 1)), (42, fun u => pt g15_ (o15_ + (x10).toNat * 1))]
noncomputable def u4d8q (a1 : List Int) (nx0 : Nat) (t1 : Bool) (t2 : List S48) (A1 : Option Addr) (c1 : Nat) (t3 : S29 × Int) (A2 : Option Addr) (c2 : Nat) (A3 : Option Addr) (c3 : Nat) (A4 : Option Addr) (c4 : Nat) (nx3 : Nat) (x10 : Int) (g8_ : Nat) (o8_ : Nat) (g9_ : Nat) (o9_ : Nat) (g14_ : Nat) (o14_ : Nat) (g15_ : Nat) (o15_ : Nat) (u : Nat → Wt) : Option (List Value × List (Nat × Value) × List (Nat × Nat)) := qSim Try.prog [(⟨g8_, o8_ + (x10).toNat * 1, none⟩, i6 (t3.1.f1.getD (x10).toNat 0)), (⟨g9_, o9_ + (x10).toNat * 1, none⟩, i6 (t3.1.f1.getD (x10).toNat 0)), (⟨g14_, o14_ + (W .i64 (x10 - 1)).toNat * 1, none⟩, i6 (t3.1.f0.getD (W .i64 (x10 - 1)).toNat 0)), (⟨g15_, o15_ + (x10).toNat * 1, none⟩, i6 (t3.1.f0.getD (x10).toNat 0))] [⟨nx0, arrV (Value.int .u8) 0 12 a1, 41⟩, ⟨nx3, [.slice A2 t3.1.f0.length c2, .slice A3 t3.1.f1.length c3, .slice A4 t3.1.f2.length c4], 29⟩] O4_39 ⟨152, []⟩ (Ld.vl u4d8l) (u4d8g x10 g8_ o8_ g9_ o9_ g14_ o14_ g15_ o15_) u (.no :: .l 1 :: .no :: .no :: .r 0 :: .no :: .no :: .no :: .l 1 :: .no :: .no :: .r 1 :: .no :: .no :: .no :: .no :: .no :: .no :: .no :: .no :: .no :: .no :: .no :: .no :: .no :: .no :: .no :: .no :: .no :: .no :: .no :: .no :: .no :: .no :: .l 1 :: .no :: .no :: .no :: .r 2 :: .no :: .l 1 :: .no :: .no :: .r 3 :: []) 0 (O4_39.take 44) [(34, .bool (decide (x10 < (t3.1.f0.length : Int)))), (3, pt nx0 0), (5, .bool t1), (6, .slice A1 t2.length c1), (7, pt nx3 0), (9, i6 x10)]
noncomputable def u4d8s (t3 : S29 × Int) (A2 : Option Addr) (c2 : Nat) (A3 : Option Addr) (c3 : Nat) (nx3 : Nat) (x10 : Int) (g8_ : Nat) (o8_ : Nat) (g9_ : Nat) (o9_ : Nat) (g14_ : Nat) (o14_ : Nat) (g15_ : Nat) (o15_ : Nat) (u : Nat → Wt) : List Value := (pt nx3 1 :: .slice A3 t3.1.f1.length c3 :: i6 x10 :: pt g8_ (o8_ + (x10).toNat * 1) :: i6 (t3.1.f1.getD (x10).toNat 0) :: .bool (decide ((t3.1.f1.getD (x10).toNat 0) < (-1))) :: .bool false :: pt nx3 1 :: .slice A3 t3.1.f1.length c3 :: i6 x10 :: pt g9_ (o9_ + (x10).toNat * 1) :: i6 (t3.1.f1.getD (x10).toNat 0) :: .bool (decide ((t3.1.f1.getD (x10).toNat 0) ≥ 0)) :: .bool false :: undef :: undef :: undef :: undef :: undef :: undef :: undef :: undef :: undef :: undef :: undef :: undef :: undef :: .bool false :: .bool false :: .bool false :: i6 x10 :: .bool (decide (x10 > 0)) :: .bool true :: pt nx3 0 :: .slice A2 t3.1.f0.length c2 :: i6 x10 :: i6 (W .i64 (x10 - 1)) :: pt g14_ (o14_ + (W .i64 (x10 - 1)).toNat * 1) :: i6 (t3.1.f0.getD (W .i64 (x10 - 1)).toNat 0) :: pt nx3 0 :: .slice A2 t3.1.f0.length c2 :: i6 x10 :: pt g15_ (o15_ + (x10).toNat * 1) :: i6 (t3.1.f0.getD (x10).toNat 0) :: [])
noncomputable def u4d8f (nx0 : Nat) (t1 : Bool) (t2 : List S48) (A1 : Option Addr) (c1 : Nat) (t3 : S29 × Int) (A2 : Option Addr) (c2 : Nat) (A3 : Option Addr) (c3 : Nat) (nx3 : Nat) (x10 : Int) (g8_ : Nat) (o8_ : Nat) (g9_ : Nat) (o9_ : Nat) (g14_ : Nat) (o14_ : Nat) (g15_ : Nat) (o15_ : Nat) (i : Nat) (u : Nat → Wt) : List (Nat × Value) := foldPut ⟨152, []⟩ [(34, .bool (decide (x10 < (t3.1.f0.length : Int)))), (3, pt nx0 0), (5, .bool t1), (6, .slice A1 t2.length c1), (7, pt nx3 0), (9, i6 x10)] (O4_39.take i) (((u4d8s t3 A2 c2 A3 c3 nx3 x10 g8_ o8_ g9_ o9_ g14_ o14_ g15_ o15_) u).take i)
theorem u4d8v (a1 : List Int) (nx0 : Nat) (t1 : Bool) (t2 : List S48) (A1 : Option Addr) (c1 : Nat) (t3 : S29 × Int) (A2 : Option Addr) (c2 : Nat) (A3 : Option Addr) (c3 : Nat) (A4 : Option Addr) (c4 : Nat) (nx3 : Nat) (x10 : Int) (g8_ : Nat) (o8_ : Nat) (g9_ : Nat) (o9_ : Nat) (g14_ : Nat) (o14_ : Nat) (g15_ : Nat) (o15_ : Nat) (u : Nat → Wt) : (u4d8q a1 nx0 t1 t2 A1 c1 t3 A2 c2 A3 c3 A4 c4 nx3 x10 g8_ o8_ g9_ o9_ g14_ o14_ g15_ o15_ u).map (fun x => (x.1, x.2.1)) = some ((u4d8s t3 A2 c2 A3 c3 nx3 x10 g8_ o8_ g9_ o9_ g14_ o14_ g15_ o15_) u, (u4d8f nx0 t1 t2 A1 c1 t3 A2 c2 A3 c3 nx3 x10 g8_ o8_ g9_ o9_ g14_ o14_ g15_ o15_ 44) u) := by kernel_rfl
theorem u4d8e (a1 : List Int) (nx0 : Nat) (t1 : Bool) (t2 : List S48) (A1 : Option Addr) (c1 : Nat) (t3 : S29 × Int) (A2 : Option Addr) (c2 : Nat) (A3 : Option Addr) (c3 : Nat) (A4 : Option Addr) (c4 : Nat) (nx3 : Nat) (x10 : Int) (g8_ : Nat) (o8_ : Nat) (g9_ : Nat) (o9_ : Nat) (g14_ : Nat) (o14_ : Nat) (g15_ : Nat) (o15_ : Nat) (u : Nat → Wt) : (u4d8q a1 nx0 t1 t2 A1 c1 t3 A2 c2 A3 c3 A4 c4 nx3 x10 g8_ o8_ g9_ o9_ g14_ o14_ g15_ o15_ u).map (fun x => x.2.2.map (·.1)) = (u4d8q a1 nx0 t1 t2 A1 c1 t3 A2 c2 A3 c3 A4 c4 nx3 x10 g8_ o8_ g9_ o9_ g14_ o14_ g15_ o15_ u).map (fun x => x.2.2.map (·.2)) := by kernel_rfl
noncomputable def u4d9l  : List Ld :=
 []
noncomputable def u4d9g (x10 : Int) (g8_ : Nat) (o8_ : Nat) (g9_ : Nat) (o9_ : Nat) : List (Nat × ((Nat → Wt) → Value)) := [(3, fun u => pt g8_ (o8_ + (x10).toNat * 1)), (6, fun u => .bool false), (10, fun u => pt g9_ (o9_ + (x10).toNat * 1)), (13, fun u => .bool false), (32, fun u => .bool false)]
noncomputable def u4d9q (a1 : List Int) (nx0 : Nat) (t1 : Bool) (t2 : List S48) (A1 : Option Addr) (c1 : Nat) (t3 : S29 × Int) (A2 : Option Addr) (c2 : Nat) (A3 : Option Addr) (c3 : Nat) (A4 : Option Addr) (c4 : Nat) (nx3 : Nat) (x10 : Int) (g8_ : Nat) (o8_ : Nat) (g9_ : Nat) (o9_ : Nat) (u : Nat → Wt) : Option (List Value × List (Nat × Value) × List (Nat × Nat)) := qSim Try.prog [(⟨g8_, o8_ + (x10).toNat * 1, none⟩, i6 (t3.1.f1.getD (x10).toNat 0)), (⟨g9_, o9_ + (x10).toNat * 1, none⟩, i6 (t3.1.f1.getD (x10).toNat 0))] [⟨nx0, arrV (Value.int .u8) 0 12 a1, 41⟩, ⟨nx3, [.slice A2 t3.1.f0.length c2, .slice A3 t3.1.f1.length c3, .slice A4 t3.1.f2.length c4], 29⟩] O4_39 ⟨152, []⟩ (Ld.vl u4d9l) (u4d9g x10 g8_ o8_ g9_ o9_) u (.no :: .l 1 :: .no :: .no :: .r 0 :: .no :: .no :: .no :: .l 1 :: .no :: .no :: .r 1 :: .no :: .no :: .no :: .no :: .no :: .no :: .no :: .no :: .no :: .no :: .no :: .no :: .no :: .no :: .no :: .no :: .no :: .no :: .no :: .no :: .no :: .no :: .no :: .no :: .no :: .no :: .no :: .no :: .no :: .no :: .no :: .no :: []) 0 (O4_39.take 44) [(34, .bool (decide (x10 < (t3.1.f0.length : Int)))), (3, pt nx0 0), (5, .bool t1), (6, .slice A1 t2.length c1), (7, pt nx3 0), (9, i6 x10)]
noncomputable def u4d9s (t3 : S29 × Int) (A3 : Option Addr) (c3 : Nat) (nx3 : Nat) (x10 : Int) (g8_ : Nat) (o8_ : Nat) (g9_ : Nat) (o9_ : Nat) (u : Nat → Wt) : List Value := (pt nx3 1 :: .slice A3 t3.1.f1.length c3 :: i6 x10 :: pt g8_ (o8_ + (x10).toNat * 1) :: i6 (t3.1.f1.getD (x10).toNat 0) :: .bool (decide ((t3.1.f1.getD (x10).toNat 0) < (-1))) :: .bool false :: pt nx3 1 :: .slice A3 t3.1.f1.length c3 :: i6 x10 :: pt g9_ (o9_ + (x10).toNat * 1) :: i6 (t3.1.f1.getD (x10).toNat 0) :: .bool (decide ((t3.1.f1.getD (x10).toNat 0) ≥ 0)) :: .bool false :: undef :: undef :: undef :: undef :: undef :: undef :: undef :: undef :: undef :: undef :: undef :: undef :: undef :: .bool false :: .bool false :: .bool false :: i6 x10 :: .bool (decide (x10 > 0)) :: .bool false :: undef :: undef :: undef :: undef :: undef :: undef :: undef :: undef :: undef :: undef :: undef :: [])
noncomputable def u4d9f (nx0 : Nat) (t1 : Bool) (t2 : List S48) (A1 : Option Addr) (c1 : Nat) (t3 : S29 × Int) (A3 : Option Addr) (c3 : Nat) (nx3 : Nat) (x10 : Int) (g8_ : Nat) (o8_ : Nat) (g9_ : Nat) (o9_ : Nat) (i : Nat) (u : Nat → Wt) : List (Nat × Value) := foldPut ⟨152, []⟩ [(34, .bool (decide (x10 < (t3.1.f0.length : Int)))), (3, pt nx0 0), (5, .bool t1), (6, .slice A1 t2.length c1), (7, pt nx3 0), (9, i6 x10)] (O4_39.take i) (((u4d9s t3 A3 c3 nx3 x10 g8_ o8_ g9_ o9_) u).take i)
theorem u4d9v (a1 : List Int) (nx0 : Nat) (t1 : Bool) (t2 : List S48) (A1 : Option Addr) (c1 : Nat) (t3 : S29 × Int) (A2 : Option Addr) (c2 : Nat) (A3 : Option Addr) (c3 : Nat) (A4 : Option Addr) (c4 : Nat) (nx3 : Nat) (x10 : Int) (g8_ : Nat) (o8_ : Nat) (g9_ : Nat) (o9_ : Nat) (u : Nat → Wt) : (u4d9q a1 nx0 t1 t2 A1 c1 t3 A2 c2 A3 c3 A4 c4 nx3 x10 g8_ o8_ g9_ o9_ u).map (fun x => (x.1, x.2.1)) = some ((u4d9s t3 A3 c3 nx3 x10 g8_ o8_ g9_ o9_) u, (u4d9f nx0 t1 t2 A1 c1 t3 A3 c3 nx3 x10 g8_ o8_ g9_ o9_ 44) u) := by kernel_rfl
theorem u4d9e (a1 : List Int) (nx0 : Nat) (t1 : Bool) (t2 : List S48) (A1 : Option Addr) (c1 : Nat) (t3 : S29 × Int) (A2 : Option Addr) (c2 : Nat) (A3 : Option Addr) (c3 : Nat) (A4 : Option Addr) (c4 : Nat) (nx3 : Nat) (x10 : Int) (g8_ : Nat) (o8_ : Nat) (g9_ : Nat) (o9_ : Nat) (u : Nat → Wt) : (u4d9q a1 nx0 t1 t2 A1 c1 t3 A2 c2 A3 c3 A4 c4 nx3 x10 g8_ o8_ g9_ o9_ u).map (fun x => x.2.2.map (·.1)) = (u4d9q a1 nx0 t1 t2 A1 c1 t3 A2 c2 A3 c3 A4 c4 nx3 x10 g8_ o8_ g9_ o9_ u).map (fun x => x.2.2.map (·.2)) := by kernel_rfl
theorem armillarylaw23_AuctionEfficient.calls (k : Nat) (I0 : Imm) (a0 : List S48) (Ap0 : Option Addr) (cp0 : Nat) (a1 : List Int) (w : World) (hI : I0.at_ w) (hlp0 : a0.length ≤ cp0) (hrp0 : Rd t48 I0 Ap0 a0) (hzp1 : 12 ≤ a1.length) (r : Bool) (h : armillarylaw23_AuctionEfficient.f k a0 a1 = some r) :
  Calls Try.prog 4 [.slice Ap0 a0.length cp0, .agg (arrV (Value.int .u8) 0 12 a1).toArray].toArray w fun e w' => ∃ v, e = .returned v ∧ armillarylaw23_AuctionEfficient.Post I0 w r v w' := by
 have H : ((armillarylaw23_sanity.f k ).bind fun t1 => ((armillaryref23_Made.f k a0).bind fun t2 => ((auction_Clear.f k t2).bind fun t3 => ((if t3.2 ≠ 0 then (some true) else ((armillarylaw23_shaped.f t3.1).bind fun t7 => (some (!t7)))).bind (armillarylaw23_AuctionEfficient.k10 k a1 t1 t2 t3))))) = some r := h
 clear h
 refine calls_body Try.func4 (by kernel_rfl) 152 (by kernel_rfl) (by kernel_rfl) ⟨w, fun _ => False, I0⟩ I0 [] [(0, .slice Ap0 a0.length cp0), (1, .agg (arrV (Value.int .u8) 0 12 a1).toArray)] (by kernel_rfl) (Sat.start w _ I0 hI) ?_
 generalize w.heap.size = nx0
 show OK _ K4_0 _ _ _ _ _ _ _ _
 refine OK.sr ?_
 refine RL.spt 2 [(3, pt nx0 0), (0, .slice Ap0 a0.length cp0)] (nx0 + 1) [⟨nx0, arrV (Value.int .u8) 0 12 a1, 41⟩] ?_
 refine OK.sr ?_
 obtain ⟨t1, hA1, H⟩ := bnd H
 refine RL.callP 11 [] (some 15) (fun w => armillarylaw23_sanity.Post I0 w t1) (by kernel_rfl) (by kernel_rfl) (fun w hs => armillarylaw23_sanity.calls k I0  w hs.im  t1 hA1) ?_
 rintro w v w' hs ⟨I1, rfl, hg⟩
 have hi1 := hg.le
 refine RL.resume (X' := []) rfl (hs.call hg) ?_
 clear hs hg
 generalize w'.heap.size = nx1
 clear w w'
 refine RL.st 1 [(5, .bool t1), (3, pt nx0 0), (0, .slice Ap0 a0.length cp0)] ?_
 refine OK.sr ?_
 refine RL.s 1 [(16, .slice Ap0 a0.length cp0), (5, .bool t1), (3, pt nx0 0)] ?_
 obtain ⟨t2, hA2, H⟩ := bnd H
 refine RL.callP 14 [.slice Ap0 a0.length cp0] (some 17) (fun w => armillaryref23_Made.Post I1 w t2) (by kernel_rfl) (by kernel_rfl) (fun w hs => armillaryref23_Made.calls k I1 a0 Ap0 cp0 w hs.im hlp0 (Rd.ext hi1 hrp0) t2 hA2) ?_
 rintro w v w' hs ⟨I2, A1, c1, cs1, rfl, hg, hp1⟩
 have hi2 := hg.le
 refine RL.resume (X' := [orow 48 3 A1 t2.length c1 cs1]) rfl (hs.call hg) ?_
 clear hs hg
 generalize w'.heap.size = nx2
 clear w w'
 refine RL.st 1 [(6, .slice A1 t2.length c1), (5, .bool t1), (3, pt nx0 0)] ?_
 refine OK.sr ?_
 refine RL.s 1 [(19, .slice A1 t2.length c1), (6, .slice A1 t2.length c1), (5, .bool t1), (3, pt nx0 0)] ?_
 refine RL.freeze (e := 48) (sz := 3) (S := A1) (n := t2.length) (cap := c1) 0 (by kernel_rfl) hp1 rfl (fun I3 hi3 hl1 hr1 => ?_)
 skip
 obtain ⟨t3, hA3, H⟩ := bnd H
 refine RL.callP 15 [.slice A1 t2.length c1] (some 20) (fun w => auction_Clear.Post I3 w t3) (by kernel_rfl) (by kernel_rfl) (fun w hs => auction_Clear.calls k I3 t2 A1 c1 w hs.im hl1 hr1 t3 hA3) ?_
 rintro w v w' hs ⟨I4, A2, c2, cs2, A3, c3, cs3, A4, c4, cs4, rfl, hg, hp2, hp3, hp4⟩
 have hi4 := hg.le
 refine RL.resume (X' := [orow 3 1 A2 t3.1.f0.length c2 cs2, orow 3 1 A3 t3.1.f1.length c3 cs3, orow 2 1 A4 t3.1.f2.length c4 cs4]) rfl (hs.call hg) ?_
 clear hs hg
 generalize w'.heap.size = nx3
 clear w w'
 refine RL.freeze (e := 3) (sz := 1) (S := A2) (n := t3.1.f0.length) (cap := c2) 0 (by kernel_rfl) hp2 rfl (fun I5 hi5 hl2 hr2 => ?_)
 skip
 refine RL.freeze (e := 3) (sz := 1) (S := A3) (n := t3.1.f1.length) (cap := c3) 0 (by kernel_rfl) (Reps.ext hi5 hp3) rfl (fun I6 hi6 hl3 hr3 => ?_)
 skip
 refine RL.freeze (e := 2) (sz := 1) (S := A4) (n := t3.1.f2.length) (cap := c4) 0 (by kernel_rfl) (Reps.ext (Imm.le_trans hi5 hi6) hp4) rfl (fun I7 hi7 hl4 hr4 => ?_)
 skip
 refine RL.simP (K' := [(8, i6 t3.2), (7, pt nx3 0), (6, .slice A1 t2.length c1), (5, .bool t1), (3, pt nx0 0)]) (nx' := nx3 + 1) (L' := [⟨nx0, arrV (Value.int .u8) 0 12 a1, 41⟩, ⟨nx3, [.slice A2 t3.1.f0.length c2, .slice A3 t3.1.f1.length c3, .slice A4 t3.1.f2.length c4], 29⟩]) [] (RFacts.nil _ _ _) 6 [.no, .no, .no, .no, .l 1, .no] (by kernel_rfl) (by kernel_rfl) ?_
 refine RL.nt ?_
 refine OK.sq ?_
 refine OK.sq ?_
 refine OK.join (fun K' I' _ L' X' => ∃ (x1 : Bool), K' = [(3, pt nx0 0), (5, .bool t1), (6, .slice A1 t2.length c1), (7, pt nx3 0), (29, .bool x1)] ∧ L' = [⟨nx0, arrV (Value.int .u8) 0 12 a1, 41⟩, ⟨nx3, [.slice A2 t3.1.f0.length c2, .slice A3 t3.1.f1.length c3, .slice A4 t3.1.f2.length c4], 29⟩] ∧ X' = [] ∧ Imm.le I7 I' ∧ armillarylaw23_AuctionEfficient.k10 k a1 t1 t2 t3 x1 = some r) ?_ ?_
 ·rintro _ I8 nx4 _ _ ⟨x1, rfl, rfl, rfl, hi8, H⟩
  rw [armillarylaw23_AuctionEfficient.k10] at H
  refine QN.then_ ?_
  refine OK.cd x1 (fun hb => ?_) (fun hb => ?_)
  ·skip
   have hc := hb
   rw [if_pos hc] at H
   clear hb
   refine OK.sr ?_
   refine RL.st 1 [(4, .bool false)] ?_
   refine OK.re ?_
   refine QN.thenR ?_
   obtain rfl := Option.some.inj H
   refine QN.body rfl [] (RFacts.nil _ _ _) (.no) (.bool false) (by kernel_rfl) (by kernel_rfl) (by kernel_rfl) ?_ _ (.inr rfl)
   exact fun w' hs' => ⟨_, rfl, I8, rfl, hs'.got _ .slnil⟩
  ·skip
   have hc := (Bool.eq_false_iff.1 hb)
   rw [if_neg hc] at H
   clear hb
   refine OK.skt ?_
   refine OK.sq ?_
   refine OK.sr ?_
   refine RL.st 1 [(9, i6 0), (3, pt nx0 0), (5, .bool t1), (6, .slice A1 t2.length c1), (7, pt nx3 0)] ?_
   refine OK.join (fun K' I' _ L' X' => K' = [(3, pt nx0 0), (5, .bool t1), (6, .slice A1 t2.length c1), (7, pt nx3 0)] ∧ L' = [⟨nx0, arrV (Value.int .u8) 0 12 a1, 41⟩, ⟨nx3, [.slice A2 t3.1.f0.length c2, .slice A3 t3.1.f1.length c3, .slice A4 t3.1.f2.length c4], 29⟩] ∧ X' = [] ∧ Imm.le I8 I' ∧ armillarylaw23_AuctionEfficient.k5 k a1 t1 t2 t3 (Sum.inl ()) = some r) ?_ ?_
   ·rintro _ I9 nx5 _ _ ⟨rfl, rfl, rfl, hi9, H⟩
    rw [armillarylaw23_AuctionEfficient.k5] at H
    refine QN.then_ ?_
    refine OK.sq ?_
    obtain ⟨hm1, H⟩ := ifs H
    obtain ⟨hm2, H⟩ := ifs H
    refine OK.drawnC 16 2 O4_75 a4_75n (by kernel_rfl) (by kernel_rfl) u4d1l u4d1g [] (RI.nil _) [.no, .no] a4_75 a4_75o (by kernel_rfl) (by kernel_rfl) (u4d1s ) (u4d1f nx0 t1 t2 A1 c1 nx3 2) (u4d1v a1 nx0 t1 t2 A1 c1 t3 A2 c2 A3 c3 A4 c4 nx3) (u4d1e a1 nx0 t1 t2 A1 c1 t3 A2 c2 A3 c3 A4 c4 nx3) [u4d1f nx0 t1 t2 A1 c1 nx3 0] (framesOk.cons (fun u => rfl) framesOk.nil) ?_ [] framesOk.nil ?_ ?_
    ·refine LoudsG.cons ?_ (LoudsG.nil)
     ·intro D u J w hp hJ hs hF
      refine (Does.makeL (T := 44) (e := 4) hs.im 1001 .i64 .i64 (.bool false) (false) Ty.bool 1 (by kernel_rfl) (by kernel_rfl) (by kernel_rfl) (by kernel_rfl) rfl hm1 (by omega) (by omega)).mono ?_
      rintro v w' ⟨rfl, hg, hp⟩
      exact ⟨fun _ => (_, _, _), J, rfl, hg, hp, trivial⟩
    ·refine Givens.nil
    intro u I10 nx6 hi10 hF
    have hf1 := ((hF.1 rfl).1)
    clear hF
    refine RL.norm (K' := [(11, i6 0), (108, .slice ((u 0 0).1) ((List.replicate (1001 : Int).toNat (false : Bool)).length) ((u 0 0).2.1)), (3, pt nx0 0), (5, .bool t1), (6, .slice A1 t2.length c1), (7, pt nx3 0)]) (X' := [orow 4 1 (u 0 0).1 ((List.replicate (1001 : Int).toNat (false : Bool)).length) (u 0 0).2.1 (u 0 0).2.2]) (by kernel_rfl) rfl rfl rfl ?_
    revert hf1
    generalize (u 0 0).1 = A5
    generalize (u 0 0).2.1 = c5
    generalize (u 0 0).2.2 = cs5
    intro hf1
    clear u
    refine RL.st 1 [(12, .slice A5 ((List.replicate (1001 : Int).toNat (false : Bool)).length) c5), (11, i6 0), (3, pt nx0 0), (5, .bool t1), (6, .slice A1 t2.length c1), (7, pt nx3 0)] ?_
    refine OK.sq ?_
    refine OK.sr ?_
    refine RL.st 1 [(13, i6 0), (12, .slice A5 ((List.replicate (1001 : Int).toNat (false : Bool)).length) c5), (11, i6 0), (3, pt nx0 0), (5, .bool t1), (6, .slice A1 t2.length c1), (7, pt nx3 0)] ?_
    refine OK.join (fun K' I' _ L' X' => ∃ (x2 : Int), K' = [(5, .bool t1), (6, .slice A1 t2.length c1), (7, pt nx3 0), (11, i6 x2)] ∧ L' = [⟨nx0, arrV (Value.int .u8) 0 12 a1, 41⟩, ⟨nx3, [.slice A2 t3.1.f0.length c2, .slice A3 t3.1.f1.length c3, .slice A4 t3.1.f2.length c4], 29⟩] ∧ X' = [] ∧ Imm.le I10 I' ∧ armillarylaw23_AuctionEfficient.k2 k t1 t2 t3 x2 = some r) ?_ ?_
    ·rintro _ I11 nx7 _ _ ⟨x2, rfl, rfl, rfl, hi11, H⟩
     rw [armillarylaw23_AuctionEfficient.k2] at H
     refine QN.then_ ?_
     refine OK.sq ?_
     refine OK.join (fun K' I' _ L' X' => ∃ (x3 : Bool), K' = [(4, .bool x3)] ∧ L' = [⟨nx0, arrV (Value.int .u8) 0 12 a1, 41⟩, ⟨nx3, [.slice A2 t3.1.f0.length c2, .slice A3 t3.1.f1.length c3, .slice A4 t3.1.f2.length c4], 29⟩] ∧ X' = [] ∧ Imm.le I11 I' ∧ armillarylaw23_AuctionEfficient.k1 x3 = some r) ?_ ?_
     ·rintro _ I12 nx8 _ _ ⟨x3, rfl, rfl, rfl, hi12, H⟩
      rw [armillarylaw23_AuctionEfficient.k1] at H
      refine QN.then_ ?_
      refine OK.re ?_
      obtain rfl := Option.some.inj H
      refine QN.body rfl [] (RFacts.nil _ _ _) (.no) (.bool x3) (by kernel_rfl) (by kernel_rfl) (by kernel_rfl) ?_ _ (.inr rfl)
      exact fun w' hs' => ⟨_, rfl, I12, rfl, hs'.got _ .slnil⟩
     ·intro Q_1 hJ4 hQ4
      obtain ⟨y4, H, HK4⟩ := bnd H
      refine OK.rg ?_
      refine RL.simK (K' := [(146, .agg #[.slice A2 t3.1.f0.length c2, .slice A3 t3.1.f1.length c3, .slice A4 t3.1.f2.length c4]), (145, .slice A1 t2.length c1), (144, i6 x2), (5, .bool t1)]) [] (RFacts.nil _ _ _) 3 [.no, .no, .l 1] (by kernel_rfl) (by kernel_rfl) ?_
      obtain ⟨t4, hA4, H⟩ := bnd H
      refine RL.callP 23 [.slice A1 t2.length c1, .agg #[.slice A2 t3.1.f0.length c2, .slice A3 t3.1.f1.length c3, .slice A4 t3.1.f2.length c4]] (some 147) (fun w => auction_Welfare.Post I11 w t4) (by kernel_rfl) (by kernel_rfl) (fun w hs => auction_Welfare.calls k I11 t2 A1 c1 t3.1 A2 c2 A3 c3 A4 c4 w hs.im hl1 (Rd.ext (Imm.le_trans (Imm.le_trans (Imm.le_trans (Imm.le_trans (Imm.le_trans (Imm.le_trans (Imm.le_trans hi4 hi5) hi6) hi7) hi8) hi9) hi10) hi11) hr1) hl2 (Rd.ext (Imm.le_trans (Imm.le_trans (Imm.le_trans (Imm.le_trans (Imm.le_trans hi6 hi7) hi8) hi9) hi10) hi11) hr2) hl3 (Rd.ext (Imm.le_trans (Imm.le_trans (Imm.le_trans (Imm.le_trans hi7 hi8) hi9) hi10) hi11) hr3) hl4 (Rd.ext (Imm.le_trans (Imm.le_trans (Imm.le_trans hi8 hi9) hi10) hi11) hr4) t4 hA4) ?_
      rintro w v w' hs ⟨I13, rfl, hg⟩
      have hi13 := hg.le
      refine RL.resume (X' := []) rfl (hs.call hg) ?_
      clear hs hg
      generalize w'.heap.size = nx9
      clear w w'
      refine RL.s 2 [(149, .bool (decide (x2 ≤ t4))), (5, .bool t1)] ?_
      refine RL.cases (decide (x2 ≤ t4)) (fun hb => ?_) (fun hb => ?_)
      ·have hc := (of_decide_eq_true hb)
       rw [hb]
       rw [if_pos hc] at H; clear hb
       refine RL.s 3 [(4, .bool t1)] ?_
       refine RL.nil (by kernel_rfl) ?_
       obtain rfl := Option.some.inj H
       exact QN.sb (hJ4 _ _ _ _ _ ⟨t1, rfl, rfl, rfl, hi13, HK4⟩) (.cons_cons _ (.cons_cons _ .slnil)) (.refl _)
      ·have hc := (of_decide_eq_false hb)
       rw [hb]
       rw [if_neg hc] at H; clear hb
       refine RL.s 3 [(4, .bool false)] ?_
       refine RL.nil (by kernel_rfl) ?_
       obtain rfl := Option.some.inj H
       exact QN.sb (hJ4 _ _ _ _ _ ⟨false, rfl, rfl, rfl, hi13, HK4⟩) (.cons_cons _ (.cons_cons _ .slnil)) (.refl _)
    ·intro Q_2 hJ3 hQ3
     obtain ⟨y3, H, HK3⟩ := bnd H
     refine OK.bk 4 ?_
     refine OK.sub (K' := [(3, pt nx0 0), (5, .bool t1), (6, .slice A1 t2.length c1), (7, pt nx3 0), (11, i6 0), (12, .slice A5 ((List.replicate (1001 : Int).toNat (false : Bool)).length) c5), (13, i6 0)]) (L' := [⟨nx0, arrV (Value.int .u8) 0 12 a1, 41⟩, ⟨nx3, [.slice A2 t3.1.f0.length c2, .slice A3 t3.1.f1.length c3, .slice A4 t3.1.f2.length c4], 29⟩]) (by kernel_rfl) (.cons_cons _ (.cons_cons _ .slnil)) (.refl _) ?_
     refine OK.lp (fun n_ K' I' _ L' X' => ∃ (x4 : Int) (x5 : List Bool) (x6 : Int) (A6 : Option Addr) (c6 : Nat) (cs6 : List Value), K' = [(3, pt nx0 0), (5, .bool t1), (6, .slice A1 t2.length c1), (7, pt nx3 0), (11, i6 x4), (12, .slice A6 x5.length c6), (13, i6 x6)] ∧ L' = [⟨nx0, arrV (Value.int .u8) 0 12 a1, 41⟩, ⟨nx3, [.slice A2 t3.1.f0.length c2, .slice A3 t3.1.f1.length c3, .slice A4 t3.1.f2.length c4], 29⟩] ∧ X' = [orow 4 1 A6 x5.length c6 cs6] ∧ Imm.le I10 I' ∧ Reps Ty.bool I' x5 cs6 ∧ armillarylaw23_AuctionEfficient.l1 a1 t2 t3 n_ x4 x5 x6 = some y3) k ⟨0, (List.replicate (1001 : Int).toNat (false : Bool)), 0, A5, c5, cs5, rfl, rfl, rfl, (Imm.le_refl _), hf1, H⟩ ?_ ?_
     ·rintro _ _ _ _ _ ⟨x4, x5, x6, A6, c6, cs6, rfl, rfl, rfl, _, hp5, H⟩
      cases H
     ·rintro kq1 _ I14 nx10 _ _ ⟨x4, x5, x6, A6, c6, cs6, rfl, rfl, rfl, hi14, hp5, H⟩ Q_l1 hJ5 hQ5
      rw [armillarylaw23_AuctionEfficient.l1] at H
      refine OK.sq ?_
      refine OK.sq ?_
      refine OK.join (fun K' I' _ L' X' => ∃ (x7 : Bool), K' = [(3, pt nx0 0), (5, .bool t1), (6, .slice A1 t2.length c1), (7, pt nx3 0), (11, i6 x4), (12, .slice A6 x5.length c6), (13, i6 x6), (117, .bool x7)] ∧ L' = [⟨nx0, arrV (Value.int .u8) 0 12 a1, 41⟩, ⟨nx3, [.slice A2 t3.1.f0.length c2, .slice A3 t3.1.f1.length c3, .slice A4 t3.1.f2.length c4], 29⟩] ∧ X' = [orow 4 1 A6 x5.length c6 cs6] ∧ Imm.le I14 I' ∧ (if x7 = true then (if 0 ≤ x6 then (if x6 < (12 : Int) then (if 0 ≤ (W .i64 ((W .i64 ((a1.getD ((x6).toNat) 0).tmod 7)) * 3)) then (if (W .i64 ((W .i64 ((a1.getD ((x6).toNat) 0).tmod 7)) * 3)) < (x5.length : Int) then ((if (x5.getD (W .i64 ((W .i64 ((a1.getD ((x6).toNat) 0).tmod 7)) * 3)).toNat false) = true then (some (x4, x5)) else (if 0 ≤ x6 then (if x6 < (t3.1.f0.length : Int) then ((armillaryref23_Value.f kq1 t2 (t3.1.f0.getD (x6).toNat 0) (W .i64 ((W .i64 ((a1.getD ((x6).toNat) 0).tmod 7)) * 3))).bind fun t5 => (if 0 ≤ (W .i64 ((W .i64 ((a1.getD ((x6).toNat) 0).tmod 7)) * 3)) then (if (W .i64 ((W .i64 ((a1.getD ((x6).toNat) 0).tmod 7)) * 3)) < (x5.length : Int) then (some (W .i64 (x4 + t5), x5.set (W .i64 ((W .i64 ((a1.getD ((x6).toNat) 0).tmod 7)) * 3)).toNat true)) else none) else none)) else none) else none)).bind (fun (x8, x9) => (armillarylaw23_AuctionEfficient.l1 a1 t2 t3 kq1 x8 x9 (W .i64 (x6 + 1))))) else none) else none) else none) else none) else (some x4)) = some y3) ?_ ?_
      ·rintro _ I15 nx11 _ _ ⟨x7, rfl, rfl, rfl, hi15, H⟩
       replace H : (if x7 = true then (if 0 ≤ x6 then (if x6 < (12 : Int) then (if 0 ≤ (W .i64 ((W .i64 ((a1.getD ((x6).toNat) 0).tmod 7)) * 3)) then (if (W .i64 ((W .i64 ((a1.getD ((x6).toNat) 0).tmod 7)) * 3)) < (x5.length : Int) then ((if (x5.getD (W .i64 ((W .i64 ((a1.getD ((x6).toNat) 0).tmod 7)) * 3)).toNat false) = true then (some (x4, x5)) else (if 0 ≤ x6 then (if x6 < (t3.1.f0.length : Int) then ((armillaryref23_Value.f kq1 t2 (t3.1.f0.getD (x6).toNat 0) (W .i64 ((W .i64 ((a1.getD ((x6).toNat) 0).tmod 7)) * 3))).bind fun t5 => (if 0 ≤ (W .i64 ((W .i64 ((a1.getD ((x6).toNat) 0).tmod 7)) * 3)) then (if (W .i64 ((W .i64 ((a1.getD ((x6).toNat) 0).tmod 7)) * 3)) < (x5.length : Int) then (some (W .i64 (x4 + t5), x5.set (W .i64 ((W .i64 ((a1.getD ((x6).toNat) 0).tmod 7)) * 3)).toNat true)) else none) else none)) else none) else none)).bind (fun (x8, x9) => (armillarylaw23_AuctionEfficient.l1 a1 t2 t3 kq1 x8 x9 (W .i64 (x6 + 1))))) else none) else none) else none) else none) else (some x4)) = some y3 := H
       refine QN.then_ ?_
       refine OK.cd x7 (fun hb => ?_) (fun hb => ?_)
       ·skip
        have hc := hb
        rw [if_pos hc] at H
        clear hb
        refine OK.skt ?_
        refine OK.sq ?_
        refine OK.bk 5 ?_
        refine OK.sr ?_
        refine RL.s 1 [(120, i6 x6), (3, pt nx0 0), (5, .bool t1), (6, .slice A1 t2.length c1), (7, pt nx3 0), (11, i6 x4), (12, .slice A6 x5.length c6), (13, i6 x6)] ?_
        obtain ⟨hib0, H⟩ := ifs H
        obtain ⟨hib1, H⟩ := ifs H
        have ha01 := hib0; have ha11 := hib1
        refine RL.idxArr (T := 41) (e := 5) 1 .i64 x6 nx0 (0) 12 (some 121) (by kernel_rfl) (by kernel_rfl) (by kernel_rfl) (by kernel_rfl) hib0 hib1 (K' := [(121, pt nx0 (0 + (x6).toNat * 1)), (120, i6 x6), (3, pt nx0 0), (5, .bool t1), (6, .slice A1 t2.length c1), (7, pt nx3 0), (11, i6 x4), (12, .slice A6 x5.length c6), (13, i6 x6)]) (by kernel_rfl) ?_
        refine RL.ldA (g := nx0) (ty := 41) (cs := arrV (Value.int .u8) 0 12 a1) (Value.int .u8) 0 12 a1 [] [] 0 ((x6).toNat) 0 (by kernel_rfl) (by kernel_rfl) (by kernel_rfl) (by omega) (0 + (x6).toNat * 1) (by omega) (some 122) (by kernel_rfl) (by kernel_rfl) (by kernel_rfl) (K' := [(122, .int .u8 (a1.getD ((x6).toNat) 0)), (121, pt nx0 (0 + (x6).toNat * 1)), (120, i6 x6), (3, pt nx0 0), (5, .bool t1), (6, .slice A1 t2.length c1), (7, pt nx3 0), (11, i6 x4), (12, .slice A6 x5.length c6), (13, i6 x6)]) (by kernel_rfl) ?_
        refine RL.st 4 [(14, i6 (W .i64 ((W .i64 ((a1.getD ((x6).toNat) 0).tmod 7)) * 3))), (3, pt nx0 0), (5, .bool t1), (6, .slice A1 t2.length c1), (7, pt nx3 0), (11, i6 x4), (12, .slice A6 x5.length c6), (13, i6 x6)] ?_
        refine OK.sr ?_
        refine RL.s 2 [(127, i6 (W .i64 ((W .i64 ((a1.getD ((x6).toNat) 0).tmod 7)) * 3))), (126, .slice A6 x5.length c6), (14, i6 (W .i64 ((W .i64 ((a1.getD ((x6).toNat) 0).tmod 7)) * 3))), (3, pt nx0 0), (5, .bool t1), (6, .slice A1 t2.length c1), (7, pt nx3 0), (11, i6 x4), (12, .slice A6 x5.length c6), (13, i6 x6)] ?_
        obtain ⟨hib0, H⟩ := ifs H
        obtain ⟨hib1, H⟩ := ifs H
        have hx02_ := hib0; have hx12_ := hib1
        refine RL.ownAddr (e := 4) (sz := 1) (S := A6) (n := x5.length) (cap := c6) (cs := cs6) 0 (by kernel_rfl) (by omega) (fun g2_ hA2_ => ?_)
        have hc2_ := Ty.bool_own (Reps.ext hi15 hp5) (W .i64 ((W .i64 ((a1.getD ((x6).toNat) 0).tmod 7)) * 3)) hib0 hib1
        refine RL.idx 1 .i64 (W .i64 ((W .i64 ((a1.getD ((x6).toNat) 0).tmod 7)) * 3)) hA2_ x5.length c6 (some 128) (by kernel_rfl) (by kernel_rfl) (T := 44) (e := 4) (by kernel_rfl) (by kernel_rfl) hib0 hib1 (K' := [(128, pt g2_ (0 + (W .i64 ((W .i64 ((a1.getD ((x6).toNat) 0).tmod 7)) * 3)).toNat * 1)), (127, i6 (W .i64 ((W .i64 ((a1.getD ((x6).toNat) 0).tmod 7)) * 3))), (126, .slice A6 x5.length c6), (14, i6 (W .i64 ((W .i64 ((a1.getD ((x6).toNat) 0).tmod 7)) * 3))), (3, pt nx0 0), (5, .bool t1), (6, .slice A1 t2.length c1), (7, pt nx3 0), (11, i6 x4), (12, .slice A6 x5.length c6), (13, i6 x6)]) (by kernel_rfl) ?_
        refine RL.simK (K' := [(130, .bool (!(x5.getD (W .i64 ((W .i64 ((a1.getD ((x6).toNat) 0).tmod 7)) * 3)).toNat false))), (14, i6 (W .i64 ((W .i64 ((a1.getD ((x6).toNat) 0).tmod 7)) * 3))), (3, pt nx0 0), (5, .bool t1), (6, .slice A1 t2.length c1), (7, pt nx3 0), (11, i6 x4), (12, .slice A6 x5.length c6), (13, i6 x6)]) [(⟨g2_, 0 + (W .i64 ((W .i64 ((a1.getD ((x6).toNat) 0).tmod 7)) * 3)).toNat * 1, none⟩, .bool (x5.getD (W .i64 ((W .i64 ((a1.getD ((x6).toNat) 0).tmod 7)) * 3)).toNat false))] (RFacts.ownQ (e := 4) (sz := 1) (S := A6) (n := x5.length) (cap := c6) (cs := cs6) 0 (by kernel_rfl) hA2_ (0 + (W .i64 ((W .i64 ((a1.getD ((x6).toNat) 0).tmod 7)) * 3)).toNat * 1) ((W .i64 ((W .i64 ((a1.getD ((x6).toNat) 0).tmod 7)) * 3)).toNat * 1 + 0) (by omega) (hc2_ 0 _ rfl) (RFacts.nil _ _ _)) 2 [.r 0, .no] (by kernel_rfl) (by kernel_rfl) ?_
        refine RL.nt ?_
        refine OK.join (fun K' I' _ L' X' => ∃ (x8 : Int) (x9 : List Bool) (A7 : Option Addr) (c7 : Nat) (cs7 : List Value), K' = [(3, pt nx0 0), (5, .bool t1), (6, .slice A1 t2.length c1), (7, pt nx3 0), (11, i6 x8), (12, .slice A7 x9.length c7), (13, i6 x6)] ∧ L' = [⟨nx0, arrV (Value.int .u8) 0 12 a1, 41⟩, ⟨nx3, [.slice A2 t3.1.f0.length c2, .slice A3 t3.1.f1.length c3, .slice A4 t3.1.f2.length c4], 29⟩] ∧ X' = [orow 4 1 A7 x9.length c7 cs7] ∧ Imm.le I15 I' ∧ Reps Ty.bool I' x9 cs7 ∧ (armillarylaw23_AuctionEfficient.l1 a1 t2 t3 kq1 x8 x9 (W .i64 (x6 + 1))) = some y3) ?_ ?_
        ·rintro _ I16 nx12 _ _ ⟨x8, x9, A7, c7, cs7, rfl, rfl, rfl, hi16, hp6, H⟩
         replace H : (armillarylaw23_AuctionEfficient.l1 a1 t2 t3 kq1 x8 x9 (W .i64 (x6 + 1))) = some y3 := H
         refine QN.blkN ?_
         refine QN.then_ ?_
         refine OK.rg ?_
         refine RL.s 3 [(13, i6 (W .i64 (x6 + 1))), (3, pt nx0 0), (5, .bool t1), (6, .slice A1 t2.length c1), (7, pt nx3 0), (11, i6 x8), (12, .slice A7 x9.length c7)] ?_
         refine RL.nil (by kernel_rfl) ?_
         exact QN.sb (hJ5 _ _ _ _ _ ⟨x8, x9, W .i64 (x6 + 1), A7, c7, cs7, rfl, rfl, rfl, (Imm.le_trans (Imm.le_trans hi14 hi15) hi16), hp6, H⟩) (.cons_cons _ (.cons_cons _ .slnil)) (.refl _)
        ·intro Q_3 hJ7 hQ7
         obtain ⟨y6, H, HK6⟩ := bnd H
         refine OK.cd (!(x5.getD (W .i64 ((W .i64 ((a1.getD ((x6).toNat) 0).tmod 7)) * 3)).toNat false)) (fun hb => ?_) (fun hb => ?_)
         ·have hb : (x5.getD (W .i64 ((W .i64 ((a1.getD ((x6).toNat) 0).tmod 7)) * 3)).toNat false) = false := by simpa using hb
          have hc := (Bool.eq_false_iff.1 hb)
          rw [if_neg hc] at H
          clear hb
          refine OK.sr ?_
          refine RL.simK (K' := [(135, i6 x6), (134, .slice A2 t3.1.f0.length c2), (132, .slice A1 t2.length c1), (131, i6 x4), (14, i6 (W .i64 ((W .i64 ((a1.getD ((x6).toNat) 0).tmod 7)) * 3))), (3, pt nx0 0), (5, .bool t1), (6, .slice A1 t2.length c1), (7, pt nx3 0), (11, i6 x4), (12, .slice A6 x5.length c6), (13, i6 x6)]) [] (RFacts.nil _ _ _) 5 [.no, .no, .no, .l 1, .no] (by kernel_rfl) (by kernel_rfl) ?_
          obtain ⟨hib0, H⟩ := ifs H
          obtain ⟨hib1, H⟩ := ifs H
          obtain ⟨g3_, o3_, hA3_, hc3_⟩ := Ty.int_at (Rd.ext (Imm.le_trans (Imm.le_trans (Imm.le_trans (Imm.le_trans (Imm.le_trans (Imm.le_trans hi6 hi7) hi8) hi9) hi10) hi14) hi15) hr2) x6 hib0 hib1
          refine RL.idx 1 .i64 x6 hA3_ t3.1.f0.length c2 (some 136) (by kernel_rfl) (by kernel_rfl) (T := 26) (e := 3) (by kernel_rfl) (by kernel_rfl) hib0 hib1 (K' := [(136, pt g3_ (o3_ + (x6).toNat * 1)), (135, i6 x6), (134, .slice A2 t3.1.f0.length c2), (132, .slice A1 t2.length c1), (131, i6 x4), (14, i6 (W .i64 ((W .i64 ((a1.getD ((x6).toNat) 0).tmod 7)) * 3))), (3, pt nx0 0), (5, .bool t1), (6, .slice A1 t2.length c1), (7, pt nx3 0), (11, i6 x4), (12, .slice A6 x5.length c6), (13, i6 x6)]) (by kernel_rfl) ?_
          refine RL.simK (K' := [(138, i6 (W .i64 ((W .i64 ((a1.getD ((x6).toNat) 0).tmod 7)) * 3))), (137, i6 (t3.1.f0.getD (x6).toNat 0)), (132, .slice A1 t2.length c1), (131, i6 x4), (14, i6 (W .i64 ((W .i64 ((a1.getD ((x6).toNat) 0).tmod 7)) * 3))), (3, pt nx0 0), (5, .bool t1), (6, .slice A1 t2.length c1), (7, pt nx3 0), (11, i6 x4), (12, .slice A6 x5.length c6), (13, i6 x6)]) [(⟨g3_, o3_ + (x6).toNat * 1, none⟩, i6 (t3.1.f0.getD (x6).toNat 0))] (RFacts.imm (hc3_ 0 _ rfl) (RFacts.nil _ _ _)) 2 [.r 0, .no] (by kernel_rfl) (by kernel_rfl) ?_
          obtain ⟨t5, hA5, H⟩ := bnd H
          refine RL.callP 26 [.slice A1 t2.length c1, i6 (t3.1.f0.getD (x6).toNat 0), i6 (W .i64 ((W .i64 ((a1.getD ((x6).toNat) 0).tmod 7)) * 3))] (some 139) (fun w => armillaryref23_Value.Post I15 w t5) (by kernel_rfl) (by kernel_rfl) (fun w hs => armillaryref23_Value.calls kq1 I15 t2 A1 c1 (t3.1.f0.getD (x6).toNat 0) (W .i64 ((W .i64 ((a1.getD ((x6).toNat) 0).tmod 7)) * 3)) w hs.im hl1 (Rd.ext (Imm.le_trans (Imm.le_trans (Imm.le_trans (Imm.le_trans (Imm.le_trans (Imm.le_trans (Imm.le_trans (Imm.le_trans hi4 hi5) hi6) hi7) hi8) hi9) hi10) hi14) hi15) hr1) t5 hA5) ?_
          rintro w v w' hs ⟨I17, rfl, hg⟩
          have hi17 := hg.le
          refine RL.resume (X' := [orow 4 1 A6 x5.length c6 cs6]) rfl (hs.call hg) ?_
          clear hs hg
          generalize w'.heap.size = nx13
          clear w w'
          refine RL.st 2 [(11, i6 (W .i64 (x4 + t5))), (14, i6 (W .i64 ((W .i64 ((a1.getD ((x6).toNat) 0).tmod 7)) * 3))), (3, pt nx0 0), (5, .bool t1), (6, .slice A1 t2.length c1), (7, pt nx3 0), (12, .slice A6 x5.length c6), (13, i6 x6)] ?_
          refine OK.rg ?_
          refine RL.s 2 [(142, i6 (W .i64 ((W .i64 ((a1.getD ((x6).toNat) 0).tmod 7)) * 3))), (141, .slice A6 x5.length c6), (11, i6 (W .i64 (x4 + t5))), (3, pt nx0 0), (5, .bool t1), (6, .slice A1 t2.length c1), (7, pt nx3 0), (12, .slice A6 x5.length c6), (13, i6 x6)] ?_
          obtain ⟨hib0, H⟩ := ifs H
          obtain ⟨hib1, H⟩ := ifs H
          have hx04_ := hib0; have hx14_ := hib1
          refine RL.ownAddr (e := 4) (sz := 1) (S := A6) (n := x5.length) (cap := c6) (cs := cs6) 0 (by kernel_rfl) (by omega) (fun g4_ hA4_ => ?_)
          have hc4_ := Ty.bool_own (Reps.ext (Imm.le_trans hi15 hi17) hp5) (W .i64 ((W .i64 ((a1.getD ((x6).toNat) 0).tmod 7)) * 3)) hib0 hib1
          refine RL.idx 1 .i64 (W .i64 ((W .i64 ((a1.getD ((x6).toNat) 0).tmod 7)) * 3)) hA4_ x5.length c6 (some 143) (by kernel_rfl) (by kernel_rfl) (T := 44) (e := 4) (by kernel_rfl) (by kernel_rfl) hib0 hib1 (K' := [(143, pt g4_ (0 + (W .i64 ((W .i64 ((a1.getD ((x6).toNat) 0).tmod 7)) * 3)).toNat * 1)), (142, i6 (W .i64 ((W .i64 ((a1.getD ((x6).toNat) 0).tmod 7)) * 3))), (141, .slice A6 x5.length c6), (11, i6 (W .i64 (x4 + t5))), (3, pt nx0 0), (5, .bool t1), (6, .slice A1 t2.length c1), (7, pt nx3 0), (12, .slice A6 x5.length c6), (13, i6 x6)]) (by kernel_rfl) ?_
          refine RL.storeL (T := 4) (e := 4) 1 0 hA4_ c6 (W .i64 ((W .i64 ((a1.getD ((x6).toNat) 0).tmod 7)) * 3)) cs6 [.bool true] (.bool true) Ty.bool x5 true (by kernel_rfl) (by kernel_rfl) (by kernel_rfl) (by kernel_rfl) (by kernel_rfl) rfl (by kernel_rfl) (Reps.ext (Imm.le_trans hi15 hi17) hp5) hx04_ hx14_ (fun cs8 hp7 => ?_)
          refine RL.sub (K' := [(142, i6 (W .i64 ((W .i64 ((a1.getD ((x6).toNat) 0).tmod 7)) * 3))), (141, .slice A6 x5.length c6), (11, i6 (W .i64 (x4 + t5))), (3, pt nx0 0), (5, .bool t1), (6, .slice A1 t2.length c1), (7, pt nx3 0), (12, .slice A6 x5.length c6), (13, i6 x6)]) (L' := [⟨nx0, arrV (Value.int .u8) 0 12 a1, 41⟩, ⟨nx3, [.slice A2 t3.1.f0.length c2, .slice A3 t3.1.f1.length c3, .slice A4 t3.1.f2.length c4], 29⟩]) (X' := [orow 4 1 A6 ((x5.set (W .i64 ((W .i64 ((a1.getD ((x6).toNat) 0).tmod 7)) * 3)).toNat true).length) c6 cs8]) (by kernel_rfl) (.refl _) (.refl _) ?_
          refine RL.norm (K' := [(142, i6 (W .i64 ((W .i64 ((a1.getD ((x6).toNat) 0).tmod 7)) * 3))), (141, .slice A6 ((x5.set (W .i64 ((W .i64 ((a1.getD ((x6).toNat) 0).tmod 7)) * 3)).toNat true).length) c6), (11, i6 (W .i64 (x4 + t5))), (3, pt nx0 0), (5, .bool t1), (6, .slice A1 t2.length c1), (7, pt nx3 0), (12, .slice A6 ((x5.set (W .i64 ((W .i64 ((a1.getD ((x6).toNat) 0).tmod 7)) * 3)).toNat true).length) c6), (13, i6 x6)]) (L' := [⟨nx0, arrV (Value.int .u8) 0 12 a1, 41⟩, ⟨nx3, [.slice A2 t3.1.f0.length c2, .slice A3 t3.1.f1.length c3, .slice A4 t3.1.f2.length c4], 29⟩]) (by simp only [List.length_set]) rfl (by first | rfl | simp only [List.length_set]) rfl ?_
          refine RL.nil (by kernel_rfl) ?_
          refine QN.sub (K' := [(11, i6 (W .i64 (x4 + t5))), (3, pt nx0 0), (5, .bool t1), (6, .slice A1 t2.length c1), (7, pt nx3 0), (12, .slice A6 ((x5.set (W .i64 ((W .i64 ((a1.getD ((x6).toNat) 0).tmod 7)) * 3)).toNat true).length) c6), (13, i6 x6)]) (L' := [⟨nx0, arrV (Value.int .u8) 0 12 a1, 41⟩, ⟨nx3, [.slice A2 t3.1.f0.length c2, .slice A3 t3.1.f1.length c3, .slice A4 t3.1.f2.length c4], 29⟩]) (by kernel_rfl) (.cons_cons _ (.cons_cons _ .slnil)) (.refl _) ?_
          obtain rfl := Option.some.inj H
          exact QN.sb (hJ7 _ _ _ _ _ ⟨W .i64 (x4 + t5), x5.set (W .i64 ((W .i64 ((a1.getD ((x6).toNat) 0).tmod 7)) * 3)).toNat true, A6, c6, cs8, rfl, rfl, rfl, hi17, hp7, HK6⟩) (.cons_cons _ (.cons_cons _ .slnil)) (.refl _)
         ·have hb : (x5.getD (W .i64 ((W .i64 ((a1.getD ((x6).toNat) 0).tmod 7)) * 3)).toNat false) = true := by simpa using hb
          have hc := hb
          rw [if_pos hc] at H
          clear hb
          refine OK.sk ?_
          obtain rfl := Option.some.inj H
          exact QN.sb (hJ7 _ _ _ _ _ ⟨x4, x5, A6, c6, cs6, rfl, rfl, rfl, (Imm.le_refl _), (Reps.ext hi15 hp5), HK6⟩) (.cons_cons _ (.cons_cons _ .slnil)) (.refl _)
       ·skip
        have hc := (Bool.eq_false_iff.1 hb)
        rw [if_neg hc] at H
        clear hb
        refine OK.ex 4 ?_
        refine QN.thenE ?_
        refine QN.outE hQ5 ?_
        refine QN.blkE ?_
        obtain rfl := Option.some.inj H
        refine QN.sel (K' := [(5, .bool t1), (6, .slice A1 t2.length c1), (7, pt nx3 0), (11, i6 x4)]) (L' := [⟨nx0, arrV (Value.int .u8) 0 12 a1, 41⟩, ⟨nx3, [.slice A2 t3.1.f0.length c2, .slice A3 t3.1.f1.length c3, .slice A4 t3.1.f2.length c4], 29⟩]) [] (by kernel_rfl) (by kernel_rfl) (.cons_cons _ (.cons_cons _ .slnil)) ?_
        refine QN.norm (X' := []) rfl rfl rfl (by kernel_rfl) ?_
        exact hJ3 _ _ _ _ _ ⟨x4, rfl, rfl, rfl, (Imm.le_trans hi14 hi15), HK3⟩
      ·intro Q_4 hJ6 hQ6
       obtain ⟨y5, H, HK5⟩ := bnd H
       refine OK.rg ?_
       refine RL.simK (K' := [(114, .bool (decide (x6 < (t3.1.f0.length : Int)))), (3, pt nx0 0), (5, .bool t1), (6, .slice A1 t2.length c1), (7, pt nx3 0), (11, i6 x4), (12, .slice A6 x5.length c6), (13, i6 x6)]) [] (RFacts.nil _ _ _) 6 [.no, .no, .l 1, .no, .no, .no] (by kernel_rfl) (by kernel_rfl) ?_
       refine RL.cases (decide (x6 < (t3.1.f0.length : Int))) (fun hb => ?_) (fun hb => ?_)
       ·have hc := (of_decide_eq_true hb)
        rw [hb]
        rw [if_pos hc] at H; clear hb
        refine RL.s 3 [(117, .bool (decide (x6 < 12))), (3, pt nx0 0), (5, .bool t1), (6, .slice A1 t2.length c1), (7, pt nx3 0), (11, i6 x4), (12, .slice A6 x5.length c6), (13, i6 x6)] ?_
        refine RL.nil (by kernel_rfl) ?_
        obtain rfl := Option.some.inj H
        exact QN.sb (hJ6 _ _ _ _ _ ⟨(decide (x6 < 12)), rfl, rfl, rfl, (Imm.le_refl _), HK5⟩) (.cons_cons _ (.cons_cons _ .slnil)) (.refl _)
       ·have hc := (of_decide_eq_false hb)
        rw [hb]
        rw [if_neg hc] at H; clear hb
        refine RL.s 3 [(117, .bool false), (3, pt nx0 0), (5, .bool t1), (6, .slice A1 t2.length c1), (7, pt nx3 0), (11, i6 x4), (12, .slice A6 x5.length c6), (13, i6 x6)] ?_
        refine RL.nil (by kernel_rfl) ?_
        obtain rfl := Option.some.inj H
        exact QN.sb (hJ6 _ _ _ _ _ ⟨false, rfl, rfl, rfl, (Imm.le_refl _), HK5⟩) (.cons_cons _ (.cons_cons _ .slnil)) (.refl _)
   ·intro Q_5 hJ2 hQ2
    obtain ⟨y2, H, HK2⟩ := bnd H
    refine OK.bk 0 ?_
    refine OK.sub (K' := [(3, pt nx0 0), (5, .bool t1), (6, .slice A1 t2.length c1), (7, pt nx3 0), (9, i6 0)]) (L' := [⟨nx0, arrV (Value.int .u8) 0 12 a1, 41⟩, ⟨nx3, [.slice A2 t3.1.f0.length c2, .slice A3 t3.1.f1.length c3, .slice A4 t3.1.f2.length c4], 29⟩]) (by kernel_rfl) (.cons_cons _ (.cons_cons _ .slnil)) (.refl _) ?_
    refine OK.lp (fun n_ K' I' _ L' X' => ∃ (x10 : Int), K' = [(3, pt nx0 0), (5, .bool t1), (6, .slice A1 t2.length c1), (7, pt nx3 0), (9, i6 x10)] ∧ L' = [⟨nx0, arrV (Value.int .u8) 0 12 a1, 41⟩, ⟨nx3, [.slice A2 t3.1.f0.length c2, .slice A3 t3.1.f1.length c3, .slice A4 t3.1.f2.length c4], 29⟩] ∧ X' = [] ∧ Imm.le I8 I' ∧ armillarylaw23_AuctionEfficient.l2 t2 t3 n_ x10 = some y2) k ⟨0, rfl, rfl, rfl, (Imm.le_refl _), H⟩ ?_ ?_
    ·rintro _ _ _ _ _ ⟨x10, rfl, rfl, rfl, _, H⟩
     cases H
    ·rintro kq2 _ I18 nx14 _ _ ⟨x10, rfl, rfl, rfl, hi18, H⟩ Q_l2 hJ8 hQ8
     rw [armillarylaw23_AuctionEfficient.l2] at H
     refine OK.sq ?_
     refine OK.sr ?_
     refine RL.simK (K' := [(34, .bool (decide (x10 < (t3.1.f0.length : Int)))), (3, pt nx0 0), (5, .bool t1), (6, .slice A1 t2.length c1), (7, pt nx3 0), (9, i6 x10)]) [] (RFacts.nil _ _ _) 5 [.no, .no, .l 1, .no, .no] (by kernel_rfl) (by kernel_rfl) ?_
     refine RL.nt ?_
     refine OK.cd (decide (x10 < (t3.1.f0.length : Int))) (fun hb => ?_) (fun hb => ?_)
     ·skip
      have hc := (of_decide_eq_true hb)
      rw [if_pos hc] at H
      clear hb
      refine OK.skt ?_
      refine OK.sq ?_
      refine OK.join (fun K' I' _ L' X' => K' = [(3, pt nx0 0), (5, .bool t1), (6, .slice A1 t2.length c1), (7, pt nx3 0), (9, i6 x10)] ∧ L' = [⟨nx0, arrV (Value.int .u8) 0 12 a1, 41⟩, ⟨nx3, [.slice A2 t3.1.f0.length c2, .slice A3 t3.1.f1.length c3, .slice A4 t3.1.f2.length c4], 29⟩] ∧ X' = [] ∧ Imm.le I18 I' ∧ (armillarylaw23_AuctionEfficient.l2 t2 t3 kq2 (W .i64 (x10 + 1))) = some y2) ?_ ?_
      ·rintro _ I19 nx15 _ _ ⟨rfl, rfl, rfl, hi19, H⟩
       replace H : (armillarylaw23_AuctionEfficient.l2 t2 t3 kq2 (W .i64 (x10 + 1))) = some y2 := H
       refine QN.then_ ?_
       refine OK.rg ?_
       refine RL.s 3 [(9, i6 (W .i64 (x10 + 1))), (3, pt nx0 0), (5, .bool t1), (6, .slice A1 t2.length c1), (7, pt nx3 0)] ?_
       refine RL.nil (by kernel_rfl) ?_
       exact QN.sb (hJ8 _ _ _ _ _ ⟨W .i64 (x10 + 1), rfl, rfl, rfl, (Imm.le_trans hi18 hi19), H⟩) (.cons_cons _ (.cons_cons _ .slnil)) (.refl _)
      ·intro Q_6 hJ9 hQ9
       obtain ⟨y7, H, HK7⟩ := bnd H
       refine OK.bk 1 ?_
       refine OK.sq ?_
       refine OK.sq ?_
       refine OK.join (fun K' I' _ L' X' => ∃ (x11 : Bool), K' = [(3, pt nx0 0), (5, .bool t1), (6, .slice A1 t2.length c1), (7, pt nx3 0), (9, i6 x10), (83, .bool x11)] ∧ L' = [⟨nx0, arrV (Value.int .u8) 0 12 a1, 41⟩, ⟨nx3, [.slice A2 t3.1.f0.length c2, .slice A3 t3.1.f1.length c3, .slice A4 t3.1.f2.length c4], 29⟩] ∧ X' = [] ∧ Imm.le I18 I' ∧ armillarylaw23_AuctionEfficient.k9 t3 x10 kq2 x11 = some y7) ?_ ?_
       ·rintro _ I20 nx16 _ _ ⟨x11, rfl, rfl, rfl, hi20, H⟩
        rw [armillarylaw23_AuctionEfficient.k9] at H
        refine QN.then_ ?_
        refine OK.cd x11 (fun hb => ?_) (fun hb => ?_)
        ·skip
         have hc := hb
         rw [if_pos hc] at H
         clear hb
         refine OK.sr ?_
         refine RL.st 1 [(4, .bool false)] ?_
         refine OK.re ?_
         refine QN.thenR ?_
         refine QN.blkR ?_
         refine QN.outR hQ9 ?_
         refine QN.thenR ?_
         refine QN.outR hQ8 ?_
         refine QN.blkR ?_
         refine QN.outR hQ2 ?_
         refine QN.thenR ?_
         obtain rfl := Option.some.inj H
         replace H : some (Sum.inr false) = some y2 := HK7
         obtain rfl := Option.some.inj H
         replace H : some false = some r := HK2
         obtain rfl := Option.some.inj H
         refine QN.body rfl [] (RFacts.nil _ _ _) (.no) (.bool false) (by kernel_rfl) (by kernel_rfl) (by kernel_rfl) ?_ _ (.inr rfl)
         exact fun w' hs' => ⟨_, rfl, I20, rfl, hs'.got _ .slnil⟩
        ·skip
         have hc := (Bool.eq_false_iff.1 hb)
         rw [if_neg hc] at H
         clear hb
         refine OK.skt ?_
         refine OK.sr ?_
         refine RL.st 1 [(10, i6 0), (3, pt nx0 0), (5, .bool t1), (6, .slice A1 t2.length c1), (7, pt nx3 0), (9, i6 x10)] ?_
         refine OK.join (fun K' I' _ L' X' => K' = [(3, pt nx0 0), (5, .bool t1), (6, .slice A1 t2.length c1), (7, pt nx3 0), (9, i6 x10)] ∧ L' = [⟨nx0, arrV (Value.int .u8) 0 12 a1, 41⟩, ⟨nx3, [.slice A2 t3.1.f0.length c2, .slice A3 t3.1.f1.length c3, .slice A4 t3.1.f2.length c4], 29⟩] ∧ X' = [] ∧ Imm.le I20 I' ∧ armillarylaw23_AuctionEfficient.k7 (Sum.inl ()) = some y7) ?_ ?_
         ·rintro _ I21 nx17 _ _ ⟨rfl, rfl, rfl, hi21, H⟩
          rw [armillarylaw23_AuctionEfficient.k7] at H
          refine QN.blkN ?_
          obtain rfl := Option.some.inj H
          exact QN.sb (hJ9 _ _ _ _ _ ⟨rfl, rfl, rfl, (Imm.le_trans hi20 hi21), HK7⟩) (.cons_cons _ (.cons_cons _ .slnil)) (.refl _)
         ·intro Q_7 hJ11 hQ11
          obtain ⟨y9, H, HK9⟩ := bnd H
          refine OK.bk 2 ?_
          refine OK.sub (K' := [(3, pt nx0 0), (5, .bool t1), (6, .slice A1 t2.length c1), (7, pt nx3 0), (9, i6 x10), (10, i6 0)]) (L' := [⟨nx0, arrV (Value.int .u8) 0 12 a1, 41⟩, ⟨nx3, [.slice A2 t3.1.f0.length c2, .slice A3 t3.1.f1.length c3, .slice A4 t3.1.f2.length c4], 29⟩]) (by kernel_rfl) (.cons_cons _ (.cons_cons _ .slnil)) (.refl _) ?_
          refine OK.lp (fun n_ K' I' _ L' X' => ∃ (x12 : Int), K' = [(3, pt nx0 0), (5, .bool t1), (6, .slice A1 t2.length c1), (7, pt nx3 0), (9, i6 x10), (10, i6 x12)] ∧ L' = [⟨nx0, arrV (Value.int .u8) 0 12 a1, 41⟩, ⟨nx3, [.slice A2 t3.1.f0.length c2, .slice A3 t3.1.f1.length c3, .slice A4 t3.1.f2.length c4], 29⟩] ∧ X' = [] ∧ Imm.le I20 I' ∧ armillarylaw23_AuctionEfficient.l3 t3 x10 n_ x12 = some y9) kq2 ⟨0, rfl, rfl, rfl, (Imm.le_refl _), H⟩ ?_ ?_
          ·rintro _ _ _ _ _ ⟨x12, rfl, rfl, rfl, _, H⟩
           cases H
          ·rintro kq3 _ I22 nx18 _ _ ⟨x12, rfl, rfl, rfl, hi22, H⟩ Q_l3 hJ12 hQ12
           rw [armillarylaw23_AuctionEfficient.l3] at H
           refine OK.sq ?_
           refine OK.sr ?_
           refine RL.st 3 [(86, .bool (decide (x12 < x10))), (3, pt nx0 0), (5, .bool t1), (6, .slice A1 t2.length c1), (7, pt nx3 0), (9, i6 x10), (10, i6 x12)] ?_
           refine OK.cd (decide (x12 < x10)) (fun hb => ?_) (fun hb => ?_)
           ·skip
            have hc := (of_decide_eq_true hb)
            rw [if_pos hc] at H
            clear hb
            refine OK.skt ?_
            refine OK.sq ?_
            refine OK.bk 3 ?_
            refine OK.sq ?_
            refine OK.join (fun K' I' _ L' X' => ∃ (x13 : Bool), K' = [(3, pt nx0 0), (5, .bool t1), (6, .slice A1 t2.length c1), (7, pt nx3 0), (9, i6 x10), (10, i6 x12), (107, .bool x13)] ∧ L' = [⟨nx0, arrV (Value.int .u8) 0 12 a1, 41⟩, ⟨nx3, [.slice A2 t3.1.f0.length c2, .slice A3 t3.1.f1.length c3, .slice A4 t3.1.f2.length c4], 29⟩] ∧ X' = [] ∧ Imm.le I22 I' ∧ (if x13 = true then (some (Sum.inr false)) else (armillarylaw23_AuctionEfficient.l3 t3 x10 kq3 (W .i64 (x12 + 1)))) = some y9) ?_ ?_
            ·rintro _ I23 nx19 _ _ ⟨x13, rfl, rfl, rfl, hi23, H⟩
             replace H : (if x13 = true then (some (Sum.inr false)) else (armillarylaw23_AuctionEfficient.l3 t3 x10 kq3 (W .i64 (x12 + 1)))) = some y9 := H
             refine QN.then_ ?_
             refine OK.cd x13 (fun hb => ?_) (fun hb => ?_)
             ·skip
              have hc := hb
              rw [if_pos hc] at H
              clear hb
              refine OK.sr ?_
              refine RL.st 1 [(4, .bool false)] ?_
              refine OK.re ?_
              refine QN.blkR ?_
              refine QN.thenR ?_
              refine QN.outR hQ12 ?_
              refine QN.blkR ?_
              refine QN.outR hQ11 ?_
              refine QN.blkR ?_
              refine QN.outR hQ9 ?_
              refine QN.thenR ?_
              refine QN.outR hQ8 ?_
              refine QN.blkR ?_
              refine QN.outR hQ2 ?_
              refine QN.thenR ?_
              obtain rfl := Option.some.inj H
              replace H : some (Sum.inr false) = some y7 := HK9
              obtain rfl := Option.some.inj H
              replace H : some (Sum.inr false) = some y2 := HK7
              obtain rfl := Option.some.inj H
              replace H : some false = some r := HK2
              obtain rfl := Option.some.inj H
              refine QN.body rfl [] (RFacts.nil _ _ _) (.no) (.bool false) (by kernel_rfl) (by kernel_rfl) (by kernel_rfl) ?_ _ (.inr rfl)
              exact fun w' hs' => ⟨_, rfl, I23, rfl, hs'.got _ .slnil⟩
             ·skip
              have hc := (Bool.eq_false_iff.1 hb)
              rw [if_neg hc] at H
              clear hb
              refine OK.sk ?_
              refine QN.blkN ?_
              refine QN.then_ ?_
              refine OK.rg ?_
              refine RL.s 3 [(10, i6 (W .i64 (x12 + 1))), (3, pt nx0 0), (5, .bool t1), (6, .slice A1 t2.length c1), (7, pt nx3 0), (9, i6 x10)] ?_
              refine RL.nil (by kernel_rfl) ?_
              exact QN.sb (hJ12 _ _ _ _ _ ⟨W .i64 (x12 + 1), rfl, rfl, rfl, (Imm.le_trans hi22 hi23), H⟩) (.cons_cons _ (.cons_cons _ .slnil)) (.refl _)
            ·intro Q_8 hJ13 hQ13
             obtain ⟨y10, H, HK10⟩ := bnd H
             obtain ⟨hi0_1, H⟩ := ifs H
             obtain ⟨hi1_1, H⟩ := ifs H
             obtain ⟨g5_, o5_, hA5_, hc5_⟩ := Ty.int_at (Rd.ext (Imm.le_trans (Imm.le_trans (Imm.le_trans (Imm.le_trans hi7 hi8) hi18) hi20) hi22) hr3) x10 hi0_1 hi1_1
             refine OK.cases (decide ((t3.1.f1.getD (x10).toNat 0) ≥ 0)) (fun hb1 => ?_) (fun hb1 => ?_)
             ·have hc1 := (of_decide_eq_true hb1)
              rw [if_pos hc1] at H
              obtain ⟨hi0_2, H⟩ := ifs H
              obtain ⟨hi1_2, H⟩ := ifs H
              obtain ⟨g6_, o6_, hA6_, hc6_⟩ := Ty.int_at (Rd.ext (Imm.le_trans (Imm.le_trans (Imm.le_trans (Imm.le_trans hi7 hi8) hi18) hi20) hi22) hr3) x12 hi0_2 hi1_2
              obtain ⟨hi0_3, H⟩ := ifs H
              obtain ⟨hi1_3, H⟩ := ifs H
              obtain ⟨g7_, o7_, hA7_, hc7_⟩ := Ty.int_at (Rd.ext (Imm.le_trans (Imm.le_trans (Imm.le_trans (Imm.le_trans hi7 hi8) hi18) hi20) hi22) hr3) x10 hi0_3 hi1_3
              refine OK.drawnC 14 17 O4_62 a4_62n (by kernel_rfl) (by kernel_rfl) u4d2l (u4d2g x10 x12 g5_ o5_ g6_ o6_ g7_ o7_) [(⟨g5_, o5_ + (x10).toNat * 1, none⟩, i6 (t3.1.f1.getD (x10).toNat 0)), (⟨g6_, o6_ + (x12).toNat * 1, none⟩, i6 (t3.1.f1.getD (x12).toNat 0)), (⟨g7_, o7_ + (x10).toNat * 1, none⟩, i6 (t3.1.f1.getD (x10).toNat 0))] (RI.cons (hc5_ 0 _ rfl) (RI.cons (hc6_ 0 _ rfl) (RI.cons (hc7_ 0 _ rfl) (RI.nil _)))) [.no, .l 1, .no, .no, .r 0, .no, .no, .no, .l 1, .no, .no, .r 1, .no, .l 1, .no, .no, .r 2] a4_62 a4_62o (by kernel_rfl) (by kernel_rfl) (u4d2s t3 A3 c3 nx3 x10 x12 g5_ o5_ g6_ o6_ g7_ o7_) (u4d2f nx0 t1 t2 A1 c1 t3 A3 c3 nx3 x10 x12 g5_ o5_ g6_ o6_ g7_ o7_ 17) (u4d2v a1 nx0 t1 t2 A1 c1 t3 A2 c2 A3 c3 A4 c4 nx3 x10 x12 g5_ o5_ g6_ o6_ g7_ o7_) (u4d2e a1 nx0 t1 t2 A1 c1 t3 A2 c2 A3 c3 A4 c4 nx3 x10 x12 g5_ o5_ g6_ o6_ g7_ o7_) [] framesOk.nil ?_ [u4d2f nx0 t1 t2 A1 c1 t3 A3 c3 nx3 x10 x12 g5_ o5_ g6_ o6_ g7_ o7_ 3, u4d2f nx0 t1 t2 A1 c1 t3 A3 c3 nx3 x10 x12 g5_ o5_ g6_ o6_ g7_ o7_ 6, u4d2f nx0 t1 t2 A1 c1 t3 A3 c3 nx3 x10 x12 g5_ o5_ g6_ o6_ g7_ o7_ 10, u4d2f nx0 t1 t2 A1 c1 t3 A3 c3 nx3 x10 x12 g5_ o5_ g6_ o6_ g7_ o7_ 15] (framesOk.cons (fun u => rfl) (framesOk.cons (fun u => rfl) (framesOk.cons (fun u => rfl) (framesOk.cons (fun u => rfl) framesOk.nil)))) ?_ ?_
              ·refine LoudsG.nil
              ·refine Givens.cons (fun u w =>  ?_) (fun _ _ _ => rfl) (Givens.cons (fun u w =>  ?_) (fun _ _ _ => rfl) (Givens.cons (fun u w =>  ?_) (fun _ _ _ => rfl) (Givens.cons (fun u w =>  ?_) (fun _ _ _ => rfl) (Givens.nil))))
               ·exact giv_idx (T := 26) (e := 3) 1 .i64 x10 hA5_ t3.1.f1.length c3 (by kernel_rfl) (by kernel_rfl) (by kernel_rfl) hi0_1 hi1_1 w
               ·exact giv_run (v := .bool (decide ((t3.1.f1.getD (x10).toNat 0) ≥ 0))) (by kernel_rfl) (by rw [hb1]; try rfl) w
               ·exact giv_idx (T := 26) (e := 3) 1 .i64 x12 hA6_ t3.1.f1.length c3 (by kernel_rfl) (by kernel_rfl) (by kernel_rfl) hi0_2 hi1_2 w
               ·exact giv_idx (T := 26) (e := 3) 1 .i64 x10 hA7_ t3.1.f1.length c3 (by kernel_rfl) (by kernel_rfl) (by kernel_rfl) hi0_3 hi1_3 w
              intro u I24 nx20 hi24 hF
              clear hF
              refine RL.norm (K' := [(105, i6 (t3.1.f1.getD (x10).toNat 0)), (104, pt g7_ (o7_ + (x10).toNat * 1)), (103, i6 x10), (102, .slice A3 t3.1.f1.length c3), (101, pt nx3 1), (100, i6 (t3.1.f1.getD (x12).toNat 0)), (99, pt g6_ (o6_ + (x12).toNat * 1)), (98, i6 x12), (97, .slice A3 t3.1.f1.length c3), (96, pt nx3 1), (95, .bool true), (94, .bool (decide ((t3.1.f1.getD (x10).toNat 0) ≥ 0))), (93, i6 (t3.1.f1.getD (x10).toNat 0)), (92, pt g5_ (o5_ + (x10).toNat * 1)), (91, i6 x10), (90, .slice A3 t3.1.f1.length c3), (89, pt nx3 1), (86, .bool (decide (x12 < x10))), (3, pt nx0 0), (5, .bool t1), (6, .slice A1 t2.length c1), (7, pt nx3 0), (9, i6 x10), (10, i6 x12)]) (X' := []) (by kernel_rfl) rfl rfl rfl ?_
              refine RL.s 2 [(107, .bool ((t3.1.f1.getD (x12).toNat 0) == (t3.1.f1.getD (x10).toNat 0))), (3, pt nx0 0), (5, .bool t1), (6, .slice A1 t2.length c1), (7, pt nx3 0), (9, i6 x10), (10, i6 x12)] ?_
              refine RL.nil (by kernel_rfl) ?_
              obtain rfl := Option.some.inj H
              exact QN.sb (hJ13 _ _ _ _ _ ⟨((t3.1.f1.getD (x12).toNat 0) == (t3.1.f1.getD (x10).toNat 0)), rfl, rfl, rfl, hi24, HK10⟩) (.cons_cons _ (.cons_cons _ .slnil)) (.refl _)
             ·have hc1 := (of_decide_eq_false hb1)
              rw [if_neg hc1] at H
              refine OK.drawnC 14 17 O4_62 a4_62n (by kernel_rfl) (by kernel_rfl) u4d3l (u4d3g x10 g5_ o5_) [(⟨g5_, o5_ + (x10).toNat * 1, none⟩, i6 (t3.1.f1.getD (x10).toNat 0))] (RI.cons (hc5_ 0 _ rfl) (RI.nil _)) [.no, .l 1, .no, .no, .r 0, .no, .no, .no, .no, .no, .no, .no, .no, .no, .no, .no, .no] a4_62 a4_62o (by kernel_rfl) (by kernel_rfl) (u4d3s t3 A3 c3 nx3 x10 g5_ o5_) (u4d3f nx0 t1 t2 A1 c1 t3 A3 c3 nx3 x10 x12 g5_ o5_ 17) (u4d3v a1 nx0 t1 t2 A1 c1 t3 A2 c2 A3 c3 A4 c4 nx3 x10 x12 g5_ o5_) (u4d3e a1 nx0 t1 t2 A1 c1 t3 A2 c2 A3 c3 A4 c4 nx3 x10 x12 g5_ o5_) [] framesOk.nil ?_ [u4d3f nx0 t1 t2 A1 c1 t3 A3 c3 nx3 x10 x12 g5_ o5_ 3, u4d3f nx0 t1 t2 A1 c1 t3 A3 c3 nx3 x10 x12 g5_ o5_ 6] (framesOk.cons (fun u => rfl) (framesOk.cons (fun u => rfl) framesOk.nil)) ?_ ?_
              ·refine LoudsG.nil
              ·refine Givens.cons (fun u w =>  ?_) (fun _ _ _ => rfl) (Givens.cons (fun u w =>  ?_) (fun _ _ _ => rfl) (Givens.nil))
               ·exact giv_idx (T := 26) (e := 3) 1 .i64 x10 hA5_ t3.1.f1.length c3 (by kernel_rfl) (by kernel_rfl) (by kernel_rfl) hi0_1 hi1_1 w
               ·exact giv_run (v := .bool (decide ((t3.1.f1.getD (x10).toNat 0) ≥ 0))) (by kernel_rfl) (by rw [hb1]; try rfl) w
              intro u I25 nx21 hi25 hF
              clear hF
              refine RL.norm (K' := [(105, undef), (104, undef), (103, undef), (102, undef), (101, undef), (100, undef), (99, undef), (98, undef), (97, undef), (96, undef), (95, .bool false), (94, .bool (decide ((t3.1.f1.getD (x10).toNat 0) ≥ 0))), (93, i6 (t3.1.f1.getD (x10).toNat 0)), (92, pt g5_ (o5_ + (x10).toNat * 1)), (91, i6 x10), (90, .slice A3 t3.1.f1.length c3), (89, pt nx3 1), (86, .bool (decide (x12 < x10))), (3, pt nx0 0), (5, .bool t1), (6, .slice A1 t2.length c1), (7, pt nx3 0), (9, i6 x10), (10, i6 x12)]) (X' := []) (by kernel_rfl) rfl rfl rfl ?_
              refine RL.s 2 [(107, .bool false), (3, pt nx0 0), (5, .bool t1), (6, .slice A1 t2.length c1), (7, pt nx3 0), (9, i6 x10), (10, i6 x12)] ?_
              refine RL.nil (by kernel_rfl) ?_
              obtain rfl := Option.some.inj H
              exact QN.sb (hJ13 _ _ _ _ _ ⟨false, rfl, rfl, rfl, hi25, HK10⟩) (.cons_cons _ (.cons_cons _ .slnil)) (.refl _)
           ·skip
            have hc := (of_decide_eq_false hb)
            rw [if_neg hc] at H
            clear hb
            refine OK.ex 2 ?_
            refine QN.thenE ?_
            refine QN.outE hQ12 ?_
            refine QN.blkE ?_
            obtain rfl := Option.some.inj H
            exact QN.sb (hJ11 _ _ _ _ _ ⟨rfl, rfl, rfl, hi22, HK9⟩) (.cons_cons _ (.cons_cons _ .slnil)) (.refl _)
       ·intro Q_9 hJ10 hQ10
        obtain ⟨y8, H, HK8⟩ := bnd H
        obtain ⟨hi0_4, H⟩ := ifs H
        obtain ⟨hi1_4, H⟩ := ifs H
        obtain ⟨g8_, o8_, hA8_, hc8_⟩ := Ty.int_at (Rd.ext (Imm.le_trans (Imm.le_trans hi7 hi8) hi18) hr3) x10 hi0_4 hi1_4
        refine OK.cases (decide ((t3.1.f1.getD (x10).toNat 0) < (-1))) (fun hb2 => ?_) (fun hb2 => ?_)
        ·have hc2 := (of_decide_eq_true hb2)
         rw [if_pos hc2] at H
         refine OK.drawnC 9 44 O4_39 a4_39n (by kernel_rfl) (by kernel_rfl) u4d4l (u4d4g x10 g8_ o8_) [(⟨g8_, o8_ + (x10).toNat * 1, none⟩, i6 (t3.1.f1.getD (x10).toNat 0))] (RI.cons (hc8_ 0 _ rfl) (RI.nil _)) (.no :: .l 1 :: .no :: .no :: .r 0 :: .no :: .no :: .no :: .no :: .no :: .no :: .no :: .no :: .no :: .no :: .no :: .no :: .no :: .no :: .no :: .no :: .no :: .no :: .no :: .no :: .no :: .no :: .no :: .no :: .no :: .no :: .no :: .no :: .no :: .no :: .no :: .no :: .no :: .no :: .no :: .no :: .no :: .no :: .no :: []) a4_39 a4_39o (by kernel_rfl) (by kernel_rfl) (u4d4s t3 A3 c3 nx3 x10 g8_ o8_) (u4d4f nx0 t1 t2 A1 c1 t3 A3 c3 nx3 x10 g8_ o8_ 44) (u4d4v a1 nx0 t1 t2 A1 c1 t3 A2 c2 A3 c3 A4 c4 nx3 x10 g8_ o8_) (u4d4e a1 nx0 t1 t2 A1 c1 t3 A2 c2 A3 c3 A4 c4 nx3 x10 g8_ o8_) [] framesOk.nil ?_ [u4d4f nx0 t1 t2 A1 c1 t3 A3 c3 nx3 x10 g8_ o8_ 3, u4d4f nx0 t1 t2 A1 c1 t3 A3 c3 nx3 x10 g8_ o8_ 6] (framesOk.cons (fun u => rfl) (framesOk.cons (fun u => rfl) framesOk.nil)) ?_ ?_
         ·refine LoudsG.nil
         ·refine Givens.cons (fun u w =>  ?_) (fun _ _ _ => rfl) (Givens.cons (fun u w =>  ?_) (fun _ _ _ => rfl) (Givens.nil))
          ·exact giv_idx (T := 26) (e := 3) 1 .i64 x10 hA8_ t3.1.f1.length c3 (by kernel_rfl) (by kernel_rfl) (by kernel_rfl) hi0_4 hi1_4 w
          ·exact giv_run (v := .bool (decide ((t3.1.f1.getD (x10).toNat 0) < (-1)))) (by kernel_rfl) (by rw [hb2]; try rfl) w
         intro u I26 nx22 hi26 hF
         clear hF
         refine RL.norm (K' := ((80, undef) :: (79, undef) :: (78, undef) :: (77, undef) :: (76, undef) :: (75, undef) :: (74, undef) :: (73, undef) :: (72, undef) :: (71, undef) :: (70, undef) :: (69, undef) :: (68, undef) :: (67, undef) :: (66, .bool true) :: (65, .bool true) :: (64, undef) :: (63, undef) :: (62, undef) :: (61, undef) :: (60, undef) :: (59, undef) :: (58, undef) :: (57, undef) :: (56, undef) :: (55, undef) :: (54, undef) :: (53, undef) :: (52, undef) :: (51, undef) :: (50, undef) :: (49, undef) :: (48, undef) :: (47, undef) :: (46, undef) :: (45, undef) :: (44, undef) :: (43, .bool true) :: (42, .bool (decide ((t3.1.f1.getD (x10).toNat 0) < (-1)))) :: (41, i6 (t3.1.f1.getD (x10).toNat 0)) :: (40, pt g8_ (o8_ + (x10).toNat * 1)) :: (39, i6 x10) :: (38, .slice A3 t3.1.f1.length c3) :: (37, pt nx3 1) :: (34, .bool (decide (x10 < (t3.1.f0.length : Int)))) :: (3, pt nx0 0) :: (5, .bool t1) :: (6, .slice A1 t2.length c1) :: (7, pt nx3 0) :: (9, i6 x10) :: [])) (X' := []) (by kernel_rfl) rfl rfl rfl ?_
         refine RL.s 3 [(83, .bool true), (3, pt nx0 0), (5, .bool t1), (6, .slice A1 t2.length c1), (7, pt nx3 0), (9, i6 x10)] ?_
         refine RL.nil (by kernel_rfl) ?_
         obtain rfl := Option.some.inj H
         exact QN.sb (hJ10 _ _ _ _ _ ⟨true, rfl, rfl, rfl, hi26, HK8⟩) (.cons_cons _ (.cons_cons _ .slnil)) (.refl _)
        ·have hc2 := (of_decide_eq_false hb2)
         rw [if_neg hc2] at H
         obtain ⟨hi0_5, H⟩ := ifs H
         obtain ⟨hi1_5, H⟩ := ifs H
         obtain ⟨g9_, o9_, hA9_, hc9_⟩ := Ty.int_at (Rd.ext (Imm.le_trans (Imm.le_trans hi7 hi8) hi18) hr3) x10 hi0_5 hi1_5
         refine OK.cases (decide ((t3.1.f1.getD (x10).toNat 0) ≥ 0)) (fun hb3 => ?_) (fun hb3 => ?_)
         ·have hc3 := (of_decide_eq_true hb3)
          rw [if_pos hc3] at H
          obtain ⟨hi0_6, H⟩ := ifs H
          obtain ⟨hi1_6, H⟩ := ifs H
          obtain ⟨g10_, o10_, hA10_, hc10_⟩ := Ty.int_at (Rd.ext (Imm.le_trans (Imm.le_trans (Imm.le_trans hi6 hi7) hi8) hi18) hr2) x10 hi0_6 hi1_6
          obtain ⟨hi0_7, H⟩ := ifs H
          obtain ⟨hi1_7, H⟩ := ifs H
          obtain ⟨g11_, o11_, hA11_, hc11_⟩ := Ty.int_at (Rd.ext (Imm.le_trans (Imm.le_trans hi7 hi8) hi18) hr3) x10 hi0_7 hi1_7
          obtain ⟨t6, hA6, H⟩ := bnd H
          refine OK.cases (decide (t6 < 1)) (fun hb4 => ?_) (fun hb4 => ?_)
          ·have hc4 := (of_decide_eq_true hb4)
           rw [if_pos hc4] at H
           refine OK.drawnC 9 44 O4_39 a4_39n (by kernel_rfl) (by kernel_rfl) (u4d5l t6) (u4d5g x10 g8_ o8_ g9_ o9_ g10_ o10_ g11_ o11_) [(⟨g8_, o8_ + (x10).toNat * 1, none⟩, i6 (t3.1.f1.getD (x10).toNat 0)), (⟨g9_, o9_ + (x10).toNat * 1, none⟩, i6 (t3.1.f1.getD (x10).toNat 0)), (⟨g10_, o10_ + (x10).toNat * 1, none⟩, i6 (t3.1.f0.getD (x10).toNat 0)), (⟨g11_, o11_ + (x10).toNat * 1, none⟩, i6 (t3.1.f1.getD (x10).toNat 0))] (RI.cons (hc8_ 0 _ rfl) (RI.cons (hc9_ 0 _ rfl) (RI.cons (hc10_ 0 _ rfl) (RI.cons (hc11_ 0 _ rfl) (RI.nil _))))) (.no :: .l 1 :: .no :: .no :: .r 0 :: .no :: .no :: .no :: .l 1 :: .no :: .no :: .r 1 :: .no :: .no :: .no :: .no :: .l 1 :: .no :: .no :: .r 2 :: .no :: .l 1 :: .no :: .no :: .r 3 :: .no :: .no :: .no :: .no :: .no :: .no :: .no :: .no :: .no :: .no :: .no :: .no :: .no :: .no :: .no :: .no :: .no :: .no :: .no :: []) a4_39 a4_39o (by kernel_rfl) (by kernel_rfl) (u4d5s t2 A1 c1 t3 A2 c2 A3 c3 nx3 x10 g8_ o8_ g9_ o9_ g10_ o10_ g11_ o11_ t6) (u4d5f nx0 t1 t2 A1 c1 t3 A2 c2 A3 c3 nx3 x10 g8_ o8_ g9_ o9_ g10_ o10_ g11_ o11_ t6 44) (u4d5v a1 nx0 t1 t2 A1 c1 t3 A2 c2 A3 c3 A4 c4 nx3 x10 g8_ o8_ g9_ o9_ g10_ o10_ g11_ o11_ t6) (u4d5e a1 nx0 t1 t2 A1 c1 t3 A2 c2 A3 c3 A4 c4 nx3 x10 g8_ o8_ g9_ o9_ g10_ o10_ g11_ o11_ t6) [u4d5f nx0 t1 t2 A1 c1 t3 A2 c2 A3 c3 nx3 x10 g8_ o8_ g9_ o9_ g10_ o10_ g11_ o11_ t6 25] (framesOk.cons (fun u => rfl) framesOk.nil) ?_ [u4d5f nx0 t1 t2 A1 c1 t3 A2 c2 A3 c3 nx3 x10 g8_ o8_ g9_ o9_ g10_ o10_ g11_ o11_ t6 3, u4d5f nx0 t1 t2 A1 c1 t3 A2 c2 A3 c3 nx3 x10 g8_ o8_ g9_ o9_ g10_ o10_ g11_ o11_ t6 6, u4d5f nx0 t1 t2 A1 c1 t3 A2 c2 A3 c3 nx3 x10 g8_ o8_ g9_ o9_ g10_ o10_ g11_ o11_ t6 10, u4d5f nx0 t1 t2 A1 c1 t3 A2 c2 A3 c3 nx3 x10 g8_ o8_ g9_ o9_ g10_ o10_ g11_ o11_ t6 13, u4d5f nx0 t1 t2 A1 c1 t3 A2 c2 A3 c3 nx3 x10 g8_ o8_ g9_ o9_ g10_ o10_ g11_ o11_ t6 18, u4d5f nx0 t1 t2 A1 c1 t3 A2 c2 A3 c3 nx3 x10 g8_ o8_ g9_ o9_ g10_ o10_ g11_ o11_ t6 23, u4d5f nx0 t1 t2 A1 c1 t3 A2 c2 A3 c3 nx3 x10 g8_ o8_ g9_ o9_ g10_ o10_ g11_ o11_ t6 29] (framesOk.cons (fun u => rfl) (framesOk.cons (fun u => rfl) (framesOk.cons (fun u => rfl) (framesOk.cons (fun u => rfl) (framesOk.cons (fun u => rfl) (framesOk.cons (fun u => rfl) (framesOk.cons (fun u => rfl) framesOk.nil))))))) ?_ ?_
           ·refine LoudsG.cons ?_ (LoudsG.nil)
            ·intro D u J w hp hJ hs hF
             refine Does.call 26 [.slice A1 t2.length c1, i6 (t3.1.f0.getD (x10).toNat 0), i6 (t3.1.f1.getD (x10).toNat 0)] (by kernel_rfl) ((armillaryref23_Value.calls kq2 J t2 A1 c1 (t3.1.f0.getD (x10).toNat 0) (t3.1.f1.getD (x10).toNat 0) w hs.im hl1 (Rd.ext (Imm.le_trans (Imm.le_trans (Imm.le_trans (Imm.le_trans (Imm.le_trans (Imm.le_trans hi4 hi5) hi6) hi7) hi8) hi18) hJ) hr1) t6 hA6).mono ?_)
             rintro e w' ⟨v, rfl, J2, rfl, hg⟩
             exact ⟨_, rfl, fun _ => (none, 0, []), J2, rfl, hg, trivial⟩
           ·refine Givens.cons (fun u w =>  ?_) (fun _ _ _ => rfl) (Givens.cons (fun u w =>  ?_) (fun _ _ _ => rfl) (Givens.cons (fun u w =>  ?_) (fun _ _ _ => rfl) (Givens.cons (fun u w =>  ?_) (fun _ _ _ => rfl) (Givens.cons (fun u w =>  ?_) (fun _ _ _ => rfl) (Givens.cons (fun u w =>  ?_) (fun _ _ _ => rfl) (Givens.cons (fun u w =>  ?_) (fun _ _ _ => rfl) (Givens.nil)))))))
            ·exact giv_idx (T := 26) (e := 3) 1 .i64 x10 hA8_ t3.1.f1.length c3 (by kernel_rfl) (by kernel_rfl) (by kernel_rfl) hi0_4 hi1_4 w
            ·exact giv_run (v := .bool (decide ((t3.1.f1.getD (x10).toNat 0) < (-1)))) (by kernel_rfl) (by rw [hb2]; try rfl) w
            ·exact giv_idx (T := 26) (e := 3) 1 .i64 x10 hA9_ t3.1.f1.length c3 (by kernel_rfl) (by kernel_rfl) (by kernel_rfl) hi0_5 hi1_5 w
            ·exact giv_run (v := .bool (decide ((t3.1.f1.getD (x10).toNat 0) ≥ 0))) (by kernel_rfl) (by rw [hb3]; try rfl) w
            ·exact giv_idx (T := 26) (e := 3) 1 .i64 x10 hA10_ t3.1.f0.length c2 (by kernel_rfl) (by kernel_rfl) (by kernel_rfl) hi0_6 hi1_6 w
            ·exact giv_idx (T := 26) (e := 3) 1 .i64 x10 hA11_ t3.1.f1.length c3 (by kernel_rfl) (by kernel_rfl) (by kernel_rfl) hi0_7 hi1_7 w
            ·exact giv_run (v := .bool (decide (t6 < 1))) (by kernel_rfl) (by rw [hb4]; try rfl) w
           intro u I27 nx23 hi27 hF
           clear hF
           refine RL.norm (K' := ((80, undef) :: (79, undef) :: (78, undef) :: (77, undef) :: (76, undef) :: (75, undef) :: (74, undef) :: (73, undef) :: (72, undef) :: (71, undef) :: (70, undef) :: (69, undef) :: (68, undef) :: (67, undef) :: (66, .bool true) :: (65, .bool (decide (t6 < 1))) :: (64, .bool (decide (t6 < 1))) :: (63, .bool (decide (t6 < 1))) :: (62, i6 t6) :: (61, i6 (t3.1.f1.getD (x10).toNat 0)) :: (60, pt g11_ (o11_ + (x10).toNat * 1)) :: (59, i6 x10) :: (58, .slice A3 t3.1.f1.length c3) :: (57, pt nx3 1) :: (56, i6 (t3.1.f0.getD (x10).toNat 0)) :: (55, pt g10_ (o10_ + (x10).toNat * 1)) :: (54, i6 x10) :: (53, .slice A2 t3.1.f0.length c2) :: (52, pt nx3 0) :: (51, .slice A1 t2.length c1) :: (50, .bool true) :: (49, .bool (decide ((t3.1.f1.getD (x10).toNat 0) ≥ 0))) :: (48, i6 (t3.1.f1.getD (x10).toNat 0)) :: (47, pt g9_ (o9_ + (x10).toNat * 1)) :: (46, i6 x10) :: (45, .slice A3 t3.1.f1.length c3) :: (44, pt nx3 1) :: (43, .bool false) :: (42, .bool (decide ((t3.1.f1.getD (x10).toNat 0) < (-1)))) :: (41, i6 (t3.1.f1.getD (x10).toNat 0)) :: (40, pt g8_ (o8_ + (x10).toNat * 1)) :: (39, i6 x10) :: (38, .slice A3 t3.1.f1.length c3) :: (37, pt nx3 1) :: (34, .bool (decide (x10 < (t3.1.f0.length : Int)))) :: (3, pt nx0 0) :: (5, .bool t1) :: (6, .slice A1 t2.length c1) :: (7, pt nx3 0) :: (9, i6 x10) :: [])) (X' := []) (by kernel_rfl) rfl rfl rfl ?_
           refine RL.s 3 [(83, .bool true), (3, pt nx0 0), (5, .bool t1), (6, .slice A1 t2.length c1), (7, pt nx3 0), (9, i6 x10)] ?_
           refine RL.nil (by kernel_rfl) ?_
           obtain rfl := Option.some.inj H
           exact QN.sb (hJ10 _ _ _ _ _ ⟨true, rfl, rfl, rfl, hi27, HK8⟩) (.cons_cons _ (.cons_cons _ .slnil)) (.refl _)
          ·have hc4 := (of_decide_eq_false hb4)
           rw [if_neg hc4] at H
           refine OK.cases (decide (x10 > 0)) (fun hb5 => ?_) (fun hb5 => ?_)
           ·have hc5 := (of_decide_eq_true hb5)
            rw [if_pos hc5] at H
            obtain ⟨hi0_8, H⟩ := ifs H
            obtain ⟨hi1_8, H⟩ := ifs H
            obtain ⟨g12_, o12_, hA12_, hc12_⟩ := Ty.int_at (Rd.ext (Imm.le_trans (Imm.le_trans (Imm.le_trans hi6 hi7) hi8) hi18) hr2) (W .i64 (x10 - 1)) hi0_8 hi1_8
            obtain ⟨hi0_9, H⟩ := ifs H
            obtain ⟨hi1_9, H⟩ := ifs H
            obtain ⟨g13_, o13_, hA13_, hc13_⟩ := Ty.int_at (Rd.ext (Imm.le_trans (Imm.le_trans (Imm.le_trans hi6 hi7) hi8) hi18) hr2) x10 hi0_9 hi1_9
            refine OK.drawnC 9 44 O4_39 a4_39n (by kernel_rfl) (by kernel_rfl) (u4d6l t6) (u4d6g x10 g8_ o8_ g9_ o9_ g10_ o10_ g11_ o11_ g12_ o12_ g13_ o13_) [(⟨g8_, o8_ + (x10).toNat * 1, none⟩, i6 (t3.1.f1.getD (x10).toNat 0)), (⟨g9_, o9_ + (x10).toNat * 1, none⟩, i6 (t3.1.f1.getD (x10).toNat 0)), (⟨g10_, o10_ + (x10).toNat * 1, none⟩, i6 (t3.1.f0.getD (x10).toNat 0)), (⟨g11_, o11_ + (x10).toNat * 1, none⟩, i6 (t3.1.f1.getD (x10).toNat 0)), (⟨g12_, o12_ + (W .i64 (x10 - 1)).toNat * 1, none⟩, i6 (t3.1.f0.getD (W .i64 (x10 - 1)).toNat 0)), (⟨g13_, o13_ + (x10).toNat * 1, none⟩, i6 (t3.1.f0.getD (x10).toNat 0))] (RI.cons (hc8_ 0 _ rfl) (RI.cons (hc9_ 0 _ rfl) (RI.cons (hc10_ 0 _ rfl) (RI.cons (hc11_ 0 _ rfl) (RI.cons (hc12_ 0 _ rfl) (RI.cons (hc13_ 0 _ rfl) (RI.nil _))))))) (.no :: .l 1 :: .no :: .no :: .r 0 :: .no :: .no :: .no :: .l 1 :: .no :: .no :: .r 1 :: .no :: .no :: .no :: .no :: .l 1 :: .no :: .no :: .r 2 :: .no :: .l 1 :: .no :: .no :: .r 3 :: .no :: .no :: .no :: .no :: .no :: .no :: .no :: .no :: .no :: .l 1 :: .no :: .no :: .no :: .r 4 :: .no :: .l 1 :: .no :: .no :: .r 5 :: []) a4_39 a4_39o (by kernel_rfl) (by kernel_rfl) (u4d6s t2 A1 c1 t3 A2 c2 A3 c3 nx3 x10 g8_ o8_ g9_ o9_ g10_ o10_ g11_ o11_ t6 g12_ o12_ g13_ o13_) (u4d6f nx0 t1 t2 A1 c1 t3 A2 c2 A3 c3 nx3 x10 g8_ o8_ g9_ o9_ g10_ o10_ g11_ o11_ t6 g12_ o12_ g13_ o13_ 44) (u4d6v a1 nx0 t1 t2 A1 c1 t3 A2 c2 A3 c3 A4 c4 nx3 x10 g8_ o8_ g9_ o9_ g10_ o10_ g11_ o11_ t6 g12_ o12_ g13_ o13_) (u4d6e a1 nx0 t1 t2 A1 c1 t3 A2 c2 A3 c3 A4 c4 nx3 x10 g8_ o8_ g9_ o9_ g10_ o10_ g11_ o11_ t6 g12_ o12_ g13_ o13_) [u4d6f nx0 t1 t2 A1 c1 t3 A2 c2 A3 c3 nx3 x10 g8_ o8_ g9_ o9_ g10_ o10_ g11_ o11_ t6 g12_ o12_ g13_ o13_ 25] (framesOk.cons (fun u => rfl) framesOk.nil) ?_ [u4d6f nx0 t1 t2 A1 c1 t3 A2 c2 A3 c3 nx3 x10 g8_ o8_ g9_ o9_ g10_ o10_ g11_ o11_ t6 g12_ o12_ g13_ o13_ 3, u4d6f nx0 t1 t2 A1 c1 t3 A2 c2 A3 c3 nx3 x10 g8_ o8_ g9_ o9_ g10_ o10_ g11_ o11_ t6 g12_ o12_ g13_ o13_ 6, u4d6f nx0 t1 t2 A1 c1 t3 A2 c2 A3 c3 nx3 x10 g8_ o8_ g9_ o9_ g10_ o10_ g11_ o11_ t6 g12_ o12_ g13_ o13_ 10, u4d6f nx0 t1 t2 A1 c1 t3 A2 c2 A3 c3 nx3 x10 g8_ o8_ g9_ o9_ g10_ o10_ g11_ o11_ t6 g12_ o12_ g13_ o13_ 13, u4d6f nx0 t1 t2 A1 c1 t3 A2 c2 A3 c3 nx3 x10 g8_ o8_ g9_ o9_ g10_ o10_ g11_ o11_ t6 g12_ o12_ g13_ o13_ 18, u4d6f nx0 t1 t2 A1 c1 t3 A2 c2 A3 c3 nx3 x10 g8_ o8_ g9_ o9_ g10_ o10_ g11_ o11_ t6 g12_ o12_ g13_ o13_ 23, u4d6f nx0 t1 t2 A1 c1 t3 A2 c2 A3 c3 nx3 x10 g8_ o8_ g9_ o9_ g10_ o10_ g11_ o11_ t6 g12_ o12_ g13_ o13_ 29, u4d6f nx0 t1 t2 A1 c1 t3 A2 c2 A3 c3 nx3 x10 g8_ o8_ g9_ o9_ g10_ o10_ g11_ o11_ t6 g12_ o12_ g13_ o13_ 32, u4d6f nx0 t1 t2 A1 c1 t3 A2 c2 A3 c3 nx3 x10 g8_ o8_ g9_ o9_ g10_ o10_ g11_ o11_ t6 g12_ o12_ g13_ o13_ 37, u4d6f nx0 t1 t2 A1 c1 t3 A2 c2 A3 c3 nx3 x10 g8_ o8_ g9_ o9_ g10_ o10_ g11_ o11_ t6 g12_ o12_ g13_ o13_ 42] (framesOk.cons (fun u => rfl) (framesOk.cons (fun u => rfl) (framesOk.cons (fun u => rfl) (framesOk.cons (fun u => rfl) (framesOk.cons (fun u => rfl) (framesOk.cons (fun u => rfl) (framesOk.cons (fun u => rfl) (framesOk.cons (fun u => rfl) (framesOk.cons (fun u => rfl) (framesOk.cons (fun u => rfl) framesOk.nil)))))))))) ?_ ?_
            ·refine LoudsG.cons ?_ (LoudsG.nil)
             ·intro D u J w hp hJ hs hF
              refine Does.call 26 [.slice A1 t2.length c1, i6 (t3.1.f0.getD (x10).toNat 0), i6 (t3.1.f1.getD (x10).toNat 0)] (by kernel_rfl) ((armillaryref23_Value.calls kq2 J t2 A1 c1 (t3.1.f0.getD (x10).toNat 0) (t3.1.f1.getD (x10).toNat 0) w hs.im hl1 (Rd.ext (Imm.le_trans (Imm.le_trans (Imm.le_trans (Imm.le_trans (Imm.le_trans (Imm.le_trans hi4 hi5) hi6) hi7) hi8) hi18) hJ) hr1) t6 hA6).mono ?_)
              rintro e w' ⟨v, rfl, J2, rfl, hg⟩
              exact ⟨_, rfl, fun _ => (none, 0, []), J2, rfl, hg, trivial⟩
            ·refine Givens.cons (fun u w =>  ?_) (fun _ _ _ => rfl) (Givens.cons (fun u w =>  ?_) (fun _ _ _ => rfl) (Givens.cons (fun u w =>  ?_) (fun _ _ _ => rfl) (Givens.cons (fun u w =>  ?_) (fun _ _ _ => rfl) (Givens.cons (fun u w =>  ?_) (fun _ _ _ => rfl) (Givens.cons (fun u w =>  ?_) (fun _ _ _ => rfl) (Givens.cons (fun u w =>  ?_) (fun _ _ _ => rfl) (Givens.cons (fun u w =>  ?_) (fun _ _ _ => rfl) (Givens.cons (fun u w =>  ?_) (fun _ _ _ => rfl) (Givens.cons (fun u w =>  ?_) (fun _ _ _ => rfl) (Givens.nil))))))))))
             ·exact giv_idx (T := 26) (e := 3) 1 .i64 x10 hA8_ t3.1.f1.length c3 (by kernel_rfl) (by kernel_rfl) (by kernel_rfl) hi0_4 hi1_4 w
             ·exact giv_run (v := .bool (decide ((t3.1.f1.getD (x10).toNat 0) < (-1)))) (by kernel_rfl) (by rw [hb2]; try rfl) w
             ·exact giv_idx (T := 26) (e := 3) 1 .i64 x10 hA9_ t3.1.f1.length c3 (by kernel_rfl) (by kernel_rfl) (by kernel_rfl) hi0_5 hi1_5 w
             ·exact giv_run (v := .bool (decide ((t3.1.f1.getD (x10).toNat 0) ≥ 0))) (by kernel_rfl) (by rw [hb3]; try rfl) w
             ·exact giv_idx (T := 26) (e := 3) 1 .i64 x10 hA10_ t3.1.f0.length c2 (by kernel_rfl) (by kernel_rfl) (by kernel_rfl) hi0_6 hi1_6 w
             ·exact giv_idx (T := 26) (e := 3) 1 .i64 x10 hA11_ t3.1.f1.length c3 (by kernel_rfl) (by kernel_rfl) (by kernel_rfl) hi0_7 hi1_7 w
             ·exact giv_run (v := .bool (decide (t6 < 1))) (by kernel_rfl) (by rw [hb4]; try rfl) w
             ·exact giv_run (v := .bool (decide (x10 > 0))) (by kernel_rfl) (by rw [hb5]; try rfl) w
             ·exact giv_idx (T := 26) (e := 3) 1 .i64 (W .i64 (x10 - 1)) hA12_ t3.1.f0.length c2 (by kernel_rfl) (by kernel_rfl) (by kernel_rfl) hi0_8 hi1_8 w
             ·exact giv_idx (T := 26) (e := 3) 1 .i64 x10 hA13_ t3.1.f0.length c2 (by kernel_rfl) (by kernel_rfl) (by kernel_rfl) hi0_9 hi1_9 w
            intro u I28 nx24 hi28 hF
            clear hF
            refine RL.norm (K' := ((80, i6 (t3.1.f0.getD (x10).toNat 0)) :: (79, pt g13_ (o13_ + (x10).toNat * 1)) :: (78, i6 x10) :: (77, .slice A2 t3.1.f0.length c2) :: (76, pt nx3 0) :: (75, i6 (t3.1.f0.getD (W .i64 (x10 - 1)).toNat 0)) :: (74, pt g12_ (o12_ + (W .i64 (x10 - 1)).toNat * 1)) :: (73, i6 (W .i64 (x10 - 1))) :: (72, i6 x10) :: (71, .slice A2 t3.1.f0.length c2) :: (70, pt nx3 0) :: (69, .bool true) :: (68, .bool (decide (x10 > 0))) :: (67, i6 x10) :: (66, .bool false) :: (65, .bool (decide (t6 < 1))) :: (64, .bool (decide (t6 < 1))) :: (63, .bool (decide (t6 < 1))) :: (62, i6 t6) :: (61, i6 (t3.1.f1.getD (x10).toNat 0)) :: (60, pt g11_ (o11_ + (x10).toNat * 1)) :: (59, i6 x10) :: (58, .slice A3 t3.1.f1.length c3) :: (57, pt nx3 1) :: (56, i6 (t3.1.f0.getD (x10).toNat 0)) :: (55, pt g10_ (o10_ + (x10).toNat * 1)) :: (54, i6 x10) :: (53, .slice A2 t3.1.f0.length c2) :: (52, pt nx3 0) :: (51, .slice A1 t2.length c1) :: (50, .bool true) :: (49, .bool (decide ((t3.1.f1.getD (x10).toNat 0) ≥ 0))) :: (48, i6 (t3.1.f1.getD (x10).toNat 0)) :: (47, pt g9_ (o9_ + (x10).toNat * 1)) :: (46, i6 x10) :: (45, .slice A3 t3.1.f1.length c3) :: (44, pt nx3 1) :: (43, .bool false) :: (42, .bool (decide ((t3.1.f1.getD (x10).toNat 0) < (-1)))) :: (41, i6 (t3.1.f1.getD (x10).toNat 0)) :: (40, pt g8_ (o8_ + (x10).toNat * 1)) :: (39, i6 x10) :: (38, .slice A3 t3.1.f1.length c3) :: (37, pt nx3 1) :: (34, .bool (decide (x10 < (t3.1.f0.length : Int)))) :: (3, pt nx0 0) :: (5, .bool t1) :: (6, .slice A1 t2.length c1) :: (7, pt nx3 0) :: (9, i6 x10) :: [])) (X' := []) (by kernel_rfl) rfl rfl rfl ?_
            refine RL.s 3 [(83, .bool (decide ((t3.1.f0.getD (W .i64 (x10 - 1)).toNat 0) ≥ (t3.1.f0.getD (x10).toNat 0)))), (3, pt nx0 0), (5, .bool t1), (6, .slice A1 t2.length c1), (7, pt nx3 0), (9, i6 x10)] ?_
            refine RL.nil (by kernel_rfl) ?_
            obtain rfl := Option.some.inj H
            exact QN.sb (hJ10 _ _ _ _ _ ⟨(decide ((t3.1.f0.getD (W .i64 (x10 - 1)).toNat 0) ≥ (t3.1.f0.getD (x10).toNat 0))), rfl, rfl, rfl, hi28, HK8⟩) (.cons_cons _ (.cons_cons _ .slnil)) (.refl _)
           ·have hc5 := (of_decide_eq_false hb5)
            rw [if_neg hc5] at H
            refine OK.drawnC 9 44 O4_39 a4_39n (by kernel_rfl) (by kernel_rfl) (u4d7l t6) (u4d7g x10 g8_ o8_ g9_ o9_ g10_ o10_ g11_ o11_) [(⟨g8_, o8_ + (x10).toNat * 1, none⟩, i6 (t3.1.f1.getD (x10).toNat 0)), (⟨g9_, o9_ + (x10).toNat * 1, none⟩, i6 (t3.1.f1.getD (x10).toNat 0)), (⟨g10_, o10_ + (x10).toNat * 1, none⟩, i6 (t3.1.f0.getD (x10).toNat 0)), (⟨g11_, o11_ + (x10).toNat * 1, none⟩, i6 (t3.1.f1.getD (x10).toNat 0))] (RI.cons (hc8_ 0 _ rfl) (RI.cons (hc9_ 0 _ rfl) (RI.cons (hc10_ 0 _ rfl) (RI.cons (hc11_ 0 _ rfl) (RI.nil _))))) (.no :: .l 1 :: .no :: .no :: .r 0 :: .no :: .no :: .no :: .l 1 :: .no :: .no :: .r 1 :: .no :: .no :: .no :: .no :: .l 1 :: .no :: .no :: .r 2 :: .no :: .l 1 :: .no :: .no :: .r 3 :: .no :: .no :: .no :: .no :: .no :: .no :: .no :: .no :: .no :: .no :: .no :: .no :: .no :: .no :: .no :: .no :: .no :: .no :: .no :: []) a4_39 a4_39o (by kernel_rfl) (by kernel_rfl) (u4d7s t2 A1 c1 t3 A2 c2 A3 c3 nx3 x10 g8_ o8_ g9_ o9_ g10_ o10_ g11_ o11_ t6) (u4d7f nx0 t1 t2 A1 c1 t3 A2 c2 A3 c3 nx3 x10 g8_ o8_ g9_ o9_ g10_ o10_ g11_ o11_ t6 44) (u4d7v a1 nx0 t1 t2 A1 c1 t3 A2 c2 A3 c3 A4 c4 nx3 x10 g8_ o8_ g9_ o9_ g10_ o10_ g11_ o11_ t6) (u4d7e a1 nx0 t1 t2 A1 c1 t3 A2 c2 A3 c3 A4 c4 nx3 x10 g8_ o8_ g9_ o9_ g10_ o10_ g11_ o11_ t6) [u4d7f nx0 t1 t2 A1 c1 t3 A2 c2 A3 c3 nx3 x10 g8_ o8_ g9_ o9_ g10_ o10_ g11_ o11_ t6 25] (framesOk.cons (fun u => rfl) framesOk.nil) ?_ [u4d7f nx0 t1 t2 A1 c1 t3 A2 c2 A3 c3 nx3 x10 g8_ o8_ g9_ o9_ g10_ o10_ g11_ o11_ t6 3, u4d7f nx0 t1 t2 A1 c1 t3 A2 c2 A3 c3 nx3 x10 g8_ o8_ g9_ o9_ g10_ o10_ g11_ o11_ t6 6, u4d7f nx0 t1 t2 A1 c1 t3 A2 c2 A3 c3 nx3 x10 g8_ o8_ g9_ o9_ g10_ o10_ g11_ o11_ t6 10, u4d7f nx0 t1 t2 A1 c1 t3 A2 c2 A3 c3 nx3 x10 g8_ o8_ g9_ o9_ g10_ o10_ g11_ o11_ t6 13, u4d7f nx0 t1 t2 A1 c1 t3 A2 c2 A3 c3 nx3 x10 g8_ o8_ g9_ o9_ g10_ o10_ g11_ o11_ t6 18, u4d7f nx0 t1 t2 A1 c1 t3 A2 c2 A3 c3 nx3 x10 g8_ o8_ g9_ o9_ g10_ o10_ g11_ o11_ t6 23, u4d7f nx0 t1 t2 A1 c1 t3 A2 c2 A3 c3 nx3 x10 g8_ o8_ g9_ o9_ g10_ o10_ g11_ o11_ t6 29, u4d7f nx0 t1 t2 A1 c1 t3 A2 c2 A3 c3 nx3 x10 g8_ o8_ g9_ o9_ g10_ o10_ g11_ o11_ t6 32] (framesOk.cons (fun u => rfl) (framesOk.cons (fun u => rfl) (framesOk.cons (fun u => rfl) (framesOk.cons (fun u => rfl) (framesOk.cons (fun u => rfl) (framesOk.cons (fun u => rfl) (framesOk.cons (fun u => rfl) (framesOk.cons (fun u => rfl) framesOk.nil)))))))) ?_ ?_
            ·refine LoudsG.cons ?_ (LoudsG.nil)
             ·intro D u J w hp hJ hs hF
              refine Does.call 26 [.slice A1 t2.length c1, i6 (t3.1.f0.getD (x10).toNat 0), i6 (t3.1.f1.getD (x10).toNat 0)] (by kernel_rfl) ((armillaryref23_Value.calls kq2 J t2 A1 c1 (t3.1.f0.getD (x10).toNat 0) (t3.1.f1.getD (x10).toNat 0) w hs.im hl1 (Rd.ext (Imm.le_trans (Imm.le_trans (Imm.le_trans (Imm.le_trans (Imm.le_trans (Imm.le_trans hi4 hi5) hi6) hi7) hi8) hi18) hJ) hr1) t6 hA6).mono ?_)
              rintro e w' ⟨v, rfl, J2, rfl, hg⟩
              exact ⟨_, rfl, fun _ => (none, 0, []), J2, rfl, hg, trivial⟩
            ·refine Givens.cons (fun u w =>  ?_) (fun _ _ _ => rfl) (Givens.cons (fun u w =>  ?_) (fun _ _ _ => rfl) (Givens.cons (fun u w =>  ?_) (fun _ _ _ => rfl) (Givens.cons (fun u w =>  ?_) (fun _ _ _ => rfl) (Givens.cons (fun u w =>  ?_) (fun _ _ _ => rfl) (Givens.cons (fun u w =>  ?_) (fun _ _ _ => rfl) (Givens.cons (fun u w =>  ?_) (fun _ _ _ => rfl) (Givens.cons (fun u w =>  ?_) (fun _ _ _ => rfl) (Givens.nil))))))))
             ·exact giv_idx (T := 26) (e := 3) 1 .i64 x10 hA8_ t3.1.f1.length c3 (by kernel_rfl) (by kernel_rfl) (by kernel_rfl) hi0_4 hi1_4 w
             ·exact giv_run (v := .bool (decide ((t3.1.f1.getD (x10).toNat 0) < (-1)))) (by kernel_rfl) (by rw [hb2]; try rfl) w
             ·exact giv_idx (T := 26) (e := 3) 1 .i64 x10 hA9_ t3.1.f1.length c3 (by kernel_rfl) (by kernel_rfl) (by kernel_rfl) hi0_5 hi1_5 w
             ·exact giv_run (v := .bool (decide ((t3.1.f1.getD (x10).toNat 0) ≥ 0))) (by kernel_rfl) (by rw [hb3]; try rfl) w
             ·exact giv_idx (T := 26) (e := 3) 1 .i64 x10 hA10_ t3.1.f0.length c2 (by kernel_rfl) (by kernel_rfl) (by kernel_rfl) hi0_6 hi1_6 w
             ·exact giv_idx (T := 26) (e := 3) 1 .i64 x10 hA11_ t3.1.f1.length c3 (by kernel_rfl) (by kernel_rfl) (by kernel_rfl) hi0_7 hi1_7 w
             ·exact giv_run (v := .bool (decide (t6 < 1))) (by kernel_rfl) (by rw [hb4]; try rfl) w
             ·exact giv_run (v := .bool (decide (x10 > 0))) (by kernel_rfl) (by rw [hb5]; try rfl) w
            intro u I29 nx25 hi29 hF
            clear hF
            refine RL.norm (K' := ((80, undef) :: (79, undef) :: (78, undef) :: (77, undef) :: (76, undef) :: (75, undef) :: (74, undef) :: (73, undef) :: (72, undef) :: (71, undef) :: (70, undef) :: (69, .bool false) :: (68, .bool (decide (x10 > 0))) :: (67, i6 x10) :: (66, .bool false) :: (65, .bool (decide (t6 < 1))) :: (64, .bool (decide (t6 < 1))) :: (63, .bool (decide (t6 < 1))) :: (62, i6 t6) :: (61, i6 (t3.1.f1.getD (x10).toNat 0)) :: (60, pt g11_ (o11_ + (x10).toNat * 1)) :: (59, i6 x10) :: (58, .slice A3 t3.1.f1.length c3) :: (57, pt nx3 1) :: (56, i6 (t3.1.f0.getD (x10).toNat 0)) :: (55, pt g10_ (o10_ + (x10).toNat * 1)) :: (54, i6 x10) :: (53, .slice A2 t3.1.f0.length c2) :: (52, pt nx3 0) :: (51, .slice A1 t2.length c1) :: (50, .bool true) :: (49, .bool (decide ((t3.1.f1.getD (x10).toNat 0) ≥ 0))) :: (48, i6 (t3.1.f1.getD (x10).toNat 0)) :: (47, pt g9_ (o9_ + (x10).toNat * 1)) :: (46, i6 x10) :: (45, .slice A3 t3.1.f1.length c3) :: (44, pt nx3 1) :: (43, .bool false) :: (42, .bool (decide ((t3.1.f1.getD (x10).toNat 0) < (-1)))) :: (41, i6 (t3.1.f1.getD (x10).toNat 0)) :: (40, pt g8_ (o8_ + (x10).toNat * 1)) :: (39, i6 x10) :: (38, .slice A3 t3.1.f1.length c3) :: (37, pt nx3 1) :: (34, .bool (decide (x10 < (t3.1.f0.length : Int)))) :: (3, pt nx0 0) :: (5, .bool t1) :: (6, .slice A1 t2.length c1) :: (7, pt nx3 0) :: (9, i6 x10) :: [])) (X' := []) (by kernel_rfl) rfl rfl rfl ?_
            refine RL.s 3 [(83, .bool false), (3, pt nx0 0), (5, .bool t1), (6, .slice A1 t2.length c1), (7, pt nx3 0), (9, i6 x10)] ?_
            refine RL.nil (by kernel_rfl) ?_
            obtain rfl := Option.some.inj H
            exact QN.sb (hJ10 _ _ _ _ _ ⟨false, rfl, rfl, rfl, hi29, HK8⟩) (.cons_cons _ (.cons_cons _ .slnil)) (.refl _)
         ·have hc3 := (of_decide_eq_false hb3)
          rw [if_neg hc3] at H
          refine OK.cases (decide (x10 > 0)) (fun hb6 => ?_) (fun hb6 => ?_)
          ·have hc6 := (of_decide_eq_true hb6)
           rw [if_pos hc6] at H
           obtain ⟨hi0_10, H⟩ := ifs H
           obtain ⟨hi1_10, H⟩ := ifs H
           obtain ⟨g14_, o14_, hA14_, hc14_⟩ := Ty.int_at (Rd.ext (Imm.le_trans (Imm.le_trans (Imm.le_trans hi6 hi7) hi8) hi18) hr2) (W .i64 (x10 - 1)) hi0_10 hi1_10
           obtain ⟨hi0_11, H⟩ := ifs H
           obtain ⟨hi1_11, H⟩ := ifs H
           obtain ⟨g15_, o15_, hA15_, hc15_⟩ := Ty.int_at (Rd.ext (Imm.le_trans (Imm.le_trans (Imm.le_trans hi6 hi7) hi8) hi18) hr2) x10 hi0_11 hi1_11
           refine OK.drawnC 9 44 O4_39 a4_39n (by kernel_rfl) (by kernel_rfl) u4d8l (u4d8g x10 g8_ o8_ g9_ o9_ g14_ o14_ g15_ o15_) [(⟨g8_, o8_ + (x10).toNat * 1, none⟩, i6 (t3.1.f1.getD (x10).toNat 0)), (⟨g9_, o9_ + (x10).toNat * 1, none⟩, i6 (t3.1.f1.getD (x10).toNat 0)), (⟨g14_, o14_ + (W .i64 (x10 - 1)).toNat * 1, none⟩, i6 (t3.1.f0.getD (W .i64 (x10 - 1)).toNat 0)), (⟨g15_, o15_ + (x10).toNat * 1, none⟩, i6 (t3.1.f0.getD (x10).toNat 0))] (RI.cons (hc8_ 0 _ rfl) (RI.cons (hc9_ 0 _ rfl) (RI.cons (hc14_ 0 _ rfl) (RI.cons (hc15_ 0 _ rfl) (RI.nil _))))) (.no :: .l 1 :: .no :: .no :: .r 0 :: .no :: .no :: .no :: .l 1 :: .no :: .no :: .r 1 :: .no :: .no :: .no :: .no :: .no :: .no :: .no :: .no :: .no :: .no :: .no :: .no :: .no :: .no :: .no :: .no :: .no :: .no :: .no :: .no :: .no :: .no :: .l 1 :: .no :: .no :: .no :: .r 2 :: .no :: .l 1 :: .no :: .no :: .r 3 :: []) a4_39 a4_39o (by kernel_rfl) (by kernel_rfl) (u4d8s t3 A2 c2 A3 c3 nx3 x10 g8_ o8_ g9_ o9_ g14_ o14_ g15_ o15_) (u4d8f nx0 t1 t2 A1 c1 t3 A2 c2 A3 c3 nx3 x10 g8_ o8_ g9_ o9_ g14_ o14_ g15_ o15_ 44) (u4d8v a1 nx0 t1 t2 A1 c1 t3 A2 c2 A3 c3 A4 c4 nx3 x10 g8_ o8_ g9_ o9_ g14_ o14_ g15_ o15_) (u4d8e a1 nx0 t1 t2 A1 c1 t3 A2 c2 A3 c3 A4 c4 nx3 x10 g8_ o8_ g9_ o9_ g14_ o14_ g15_ o15_) [] framesOk.nil ?_ [u4d8f nx0 t1 t2 A1 c1 t3 A2 c2 A3 c3 nx3 x10 g8_ o8_ g9_ o9_ g14_ o14_ g15_ o15_ 3, u4d8f nx0 t1 t2 A1 c1 t3 A2 c2 A3 c3 nx3 x10 g8_ o8_ g9_ o9_ g14_ o14_ g15_ o15_ 6, u4d8f nx0 t1 t2 A1 c1 t3 A2 c2 A3 c3 nx3 x10 g8_ o8_ g9_ o9_ g14_ o14_ g15_ o15_ 10, u4d8f nx0 t1 t2 A1 c1 t3 A2 c2 A3 c3 nx3 x10 g8_ o8_ g9_ o9_ g14_ o14_ g15_ o15_ 13, u4d8f nx0 t1 t2 A1 c1 t3 A2 c2 A3 c3 nx3 x10 g8_ o8_ g9_ o9_ g14_ o14_ g15_ o15_ 32, u4d8f nx0 t1 t2 A1 c1 t3 A2 c2 A3 c3 nx3 x10 g8_ o8_ g9_ o9_ g14_ o14_ g15_ o15_ 37, u4d8f nx0 t1 t2 A1 c1 t3 A2 c2 A3 c3 nx3 x10 g8_ o8_ g9_ o9_ g14_ o14_ g15_ o15_ 42] (framesOk.cons (fun u => rfl) (framesOk.cons (fun u => rfl) (framesOk.cons (fun u => rfl) (framesOk.cons (fun u => rfl) (framesOk.cons (fun u => rfl) (framesOk.cons (fun u => rfl) (framesOk.cons (fun u => rfl) framesOk.nil))))))) ?_ ?_
           ·refine LoudsG.nil
           ·refine Givens.cons (fun u w =>  ?_) (fun _ _ _ => rfl) (Givens.cons (fun u w =>  ?_) (fun _ _ _ => rfl) (Givens.cons (fun u w =>  ?_) (fun _ _ _ => rfl) (Givens.cons (fun u w =>  ?_) (fun _ _ _ => rfl) (Givens.cons (fun u w =>  ?_) (fun _ _ _ => rfl) (Givens.cons (fun u w =>  ?_) (fun _ _ _ => rfl) (Givens.cons (fun u w =>  ?_) (fun _ _ _ => rfl) (Givens.nil)))))))
            ·exact giv_idx (T := 26) (e := 3) 1 .i64 x10 hA8_ t3.1.f1.length c3 (by kernel_rfl) (by kernel_rfl) (by kernel_rfl) hi0_4 hi1_4 w
            ·exact giv_run (v := .bool (decide ((t3.1.f1.getD (x10).toNat 0) < (-1)))) (by kernel_rfl) (by rw [hb2]; try rfl) w
            ·exact giv_idx (T := 26) (e := 3) 1 .i64 x10 hA9_ t3.1.f1.length c3 (by kernel_rfl) (by kernel_rfl) (by kernel_rfl) hi0_5 hi1_5 w
            ·exact giv_run (v := .bool (decide ((t3.1.f1.getD (x10).toNat 0) ≥ 0))) (by kernel_rfl) (by rw [hb3]; try rfl) w
            ·exact giv_run (v := .bool (decide (x10 > 0))) (by kernel_rfl) (by rw [hb6]; try rfl) w
            ·exact giv_idx (T := 26) (e := 3) 1 .i64 (W .i64 (x10 - 1)) hA14_ t3.1.f0.length c2 (by kernel_rfl) (by kernel_rfl) (by kernel_rfl) hi0_10 hi1_10 w
            ·exact giv_idx (T := 26) (e := 3) 1 .i64 x10 hA15_ t3.1.f0.length c2 (by kernel_rfl) (by kernel_rfl) (by kernel_rfl) hi0_11 hi1_11 w
           intro u I30 nx26 hi30 hF
           clear hF
           refine RL.norm (K' := ((80, i6 (t3.1.f0.getD (x10).toNat 0)) :: (79, pt g15_ (o15_ + (x10).toNat * 1)) :: (78, i6 x10) :: (77, .slice A2 t3.1.f0.length c2) :: (76, pt nx3 0) :: (75, i6 (t3.1.f0.getD (W .i64 (x10 - 1)).toNat 0)) :: (74, pt g14_ (o14_ + (W .i64 (x10 - 1)).toNat * 1)) :: (73, i6 (W .i64 (x10 - 1))) :: (72, i6 x10) :: (71, .slice A2 t3.1.f0.length c2) :: (70, pt nx3 0) :: (69, .bool true) :: (68, .bool (decide (x10 > 0))) :: (67, i6 x10) :: (66, .bool false) :: (65, .bool false) :: (64, .bool false) :: (63, undef) :: (62, undef) :: (61, undef) :: (60, undef) :: (59, undef) :: (58, undef) :: (57, undef) :: (56, undef) :: (55, undef) :: (54, undef) :: (53, undef) :: (52, undef) :: (51, undef) :: (50, .bool false) :: (49, .bool (decide ((t3.1.f1.getD (x10).toNat 0) ≥ 0))) :: (48, i6 (t3.1.f1.getD (x10).toNat 0)) :: (47, pt g9_ (o9_ + (x10).toNat * 1)) :: (46, i6 x10) :: (45, .slice A3 t3.1.f1.length c3) :: (44, pt nx3 1) :: (43, .bool false) :: (42, .bool (decide ((t3.1.f1.getD (x10).toNat 0) < (-1)))) :: (41, i6 (t3.1.f1.getD (x10).toNat 0)) :: (40, pt g8_ (o8_ + (x10).toNat * 1)) :: (39, i6 x10) :: (38, .slice A3 t3.1.f1.length c3) :: (37, pt nx3 1) :: (34, .bool (decide (x10 < (t3.1.f0.length : Int)))) :: (3, pt nx0 0) :: (5, .bool t1) :: (6, .slice A1 t2.length c1) :: (7, pt nx3 0) :: (9, i6 x10) :: [])) (X' := []) (by kernel_rfl) rfl rfl rfl ?_
           refine RL.s 3 [(83, .bool (decide ((t3.1.f0.getD (W .i64 (x10 - 1)).toNat 0) ≥ (t3.1.f0.getD (x10).toNat 0)))), (3, pt nx0 0), (5, .bool t1), (6, .slice A1 t2.length c1), (7, pt nx3 0), (9, i6 x10)] ?_
           refine RL.nil (by kernel_rfl) ?_
           obtain rfl := Option.some.inj H
           exact QN.sb (hJ10 _ _ _ _ _ ⟨(decide ((t3.1.f0.getD (W .i64 (x10 - 1)).toNat 0) ≥ (t3.1.f0.getD (x10).toNat 0))), rfl, rfl, rfl, hi30, HK8⟩) (.cons_cons _ (.cons_cons _ .slnil)) (.refl _)
          ·have hc6 := (of_decide_eq_false hb6)
           rw [if_neg hc6] at H
           refine OK.drawnC 9 44 O4_39 a4_39n (by kernel_rfl) (by kernel_rfl) u4d9l (u4d9g x10 g8_ o8_ g9_ o9_) [(⟨g8_, o8_ + (x10).toNat * 1, none⟩, i6 (t3.1.f1.getD (x10).toNat 0)), (⟨g9_, o9_ + (x10).toNat * 1, none⟩, i6 (t3.1.f1.getD (x10).toNat 0))] (RI.cons (hc8_ 0 _ rfl) (RI.cons (hc9_ 0 _ rfl) (RI.nil _))) (.no :: .l 1 :: .no :: .no :: .r 0 :: .no :: .no :: .no :: .l 1 :: .no :: .no :: .r 1 :: .no :: .no :: .no :: .no :: .no :: .no :: .no :: .no :: .no :: .no :: .no :: .no :: .no :: .no :: .no :: .no :: .no :: .no :: .no :: .no :: .no :: .no :: .no :: .no :: .no :: .no :: .no :: .no :: .no :: .no :: .no :: .no :: []) a4_39 a4_39o (by kernel_rfl) (by kernel_rfl) (u4d9s t3 A3 c3 nx3 x10 g8_ o8_ g9_ o9_) (u4d9f nx0 t1 t2 A1 c1 t3 A3 c3 nx3 x10 g8_ o8_ g9_ o9_ 44) (u4d9v a1 nx0 t1 t2 A1 c1 t3 A2 c2 A3 c3 A4 c4 nx3 x10 g8_ o8_ g9_ o9_) (u4d9e a1 nx0 t1 t2 A1 c1 t3 A2 c2 A3 c3 A4 c4 nx3 x10 g8_ o8_ g9_ o9_) [] framesOk.nil ?_ [u4d9f nx0 t1 t2 A1 c1 t3 A3 c3 nx3 x10 g8_ o8_ g9_ o9_ 3, u4d9f nx0 t1 t2 A1 c1 t3 A3 c3 nx3 x10 g8_ o8_ g9_ o9_ 6, u4d9f nx0 t1 t2 A1 c1 t3 A3 c3 nx3 x10 g8_ o8_ g9_ o9_ 10, u4d9f nx0 t1 t2 A1 c1 t3 A3 c3 nx3 x10 g8_ o8_ g9_ o9_ 13, u4d9f nx0 t1 t2 A1 c1 t3 A3 c3 nx3 x10 g8_ o8_ g9_ o9_ 32] (framesOk.cons (fun u => rfl) (framesOk.cons (fun u => rfl) (framesOk.cons (fun u => rfl) (framesOk.cons (fun u => rfl) (framesOk.cons (fun u => rfl) framesOk.nil))))) ?_ ?_
           ·refine LoudsG.nil
           ·refine Givens.cons (fun u w =>  ?_) (fun _ _ _ => rfl) (Givens.cons (fun u w =>  ?_) (fun _ _ _ => rfl) (Givens.cons (fun u w =>  ?_) (fun _ _ _ => rfl) (Givens.cons (fun u w =>  ?_) (fun _ _ _ => rfl) (Givens.cons (fun u w =>  ?_) (fun _ _ _ => rfl) (Givens.nil)))))
            ·exact giv_idx (T := 26) (e := 3) 1 .i64 x10 hA8_ t3.1.f1.length c3 (by kernel_rfl) (by kernel_rfl) (by kernel_rfl) hi0_4 hi1_4 w
            ·exact giv_run (v := .bool (decide ((t3.1.f1.getD (x10).toNat 0) < (-1)))) (by kernel_rfl) (by rw [hb2]; try rfl) w
            ·exact giv_idx (T := 26) (e := 3) 1 .i64 x10 hA9_ t3.1.f1.length c3 (by kernel_rfl) (by kernel_rfl) (by kernel_rfl) hi0_5 hi1_5 w
            ·exact giv_run (v := .bool (decide ((t3.1.f1.getD (x10).toNat 0) ≥ 0))) (by kernel_rfl) (by rw [hb3]; try rfl) w
            ·exact giv_run (v := .bool (decide (x10 > 0))) (by kernel_rfl) (by rw [hb6]; try rfl) w
           intro u I31 nx27 hi31 hF
           clear hF
           refine RL.norm (K' := ((80, undef) :: (79, undef) :: (78, undef) :: (77, undef) :: (76, undef) :: (75, undef) :: (74, undef) :: (73, undef) :: (72, undef) :: (71, undef) :: (70, undef) :: (69, .bool false) :: (68, .bool (decide (x10 > 0))) :: (67, i6 x10) :: (66, .bool false) :: (65, .bool false) :: (64, .bool false) :: (63, undef) :: (62, undef) :: (61, undef) :: (60, undef) :: (59, undef) :: (58, undef) :: (57, undef) :: (56, undef) :: (55, undef) :: (54, undef) :: (53, undef) :: (52, undef) :: (51, undef) :: (50, .bool false) :: (49, .bool (decide ((t3.1.f1.getD (x10).toNat 0) ≥ 0))) :: (48, i6 (t3.1.f1.getD (x10).toNat 0)) :: (47, pt g9_ (o9_ + (x10).toNat * 1)) :: (46, i6 x10) :: (45, .slice A3 t3.1.f1.length c3) :: (44, pt nx3 1) :: (43, .bool false) :: (42, .bool (decide ((t3.1.f1.getD (x10).toNat 0) < (-1)))) :: (41, i6 (t3.1.f1.getD (x10).toNat 0)) :: (40, pt g8_ (o8_ + (x10).toNat * 1)) :: (39, i6 x10) :: (38, .slice A3 t3.1.f1.length c3) :: (37, pt nx3 1) :: (34, .bool (decide (x10 < (t3.1.f0.length : Int)))) :: (3, pt nx0 0) :: (5, .bool t1) :: (6, .slice A1 t2.length c1) :: (7, pt nx3 0) :: (9, i6 x10) :: [])) (X' := []) (by kernel_rfl) rfl rfl rfl ?_
           refine RL.s 3 [(83, .bool false), (3, pt nx0 0), (5, .bool t1), (6, .slice A1 t2.length c1), (7, pt nx3 0), (9, i6 x10)] ?_
           refine RL.nil (by kernel_rfl) ?_
           obtain rfl := Option.some.inj H
           exact QN.sb (hJ10 _ _ _ _ _ ⟨false, rfl, rfl, rfl, hi31, HK8⟩) (.cons_cons _ (.cons_cons _ .slnil)) (.refl _)
     ·skip
      have hc := (of_decide_eq_false hb)
      rw [if_neg hc] at H
      clear hb
      refine OK.ex 0 ?_
      refine QN.thenE ?_
      refine QN.outE hQ8 ?_
      refine QN.blkE ?_
      obtain rfl := Option.some.inj H
      exact QN.sb (hJ2 _ _ _ _ _ ⟨rfl, rfl, rfl, hi18, HK2⟩) (.cons_cons _ (.cons_cons _ .slnil)) (.refl _)
 ·intro Q_10 hJ1 hQ1
  obtain ⟨y1, H, HK1⟩ := bnd H
  refine OK.rg ?_
  refine RL.s 3 [(25, .bool (t3.2 != 0)), (7, pt nx3 0), (6, .slice A1 t2.length c1), (5, .bool t1), (3, pt nx0 0)] ?_
  refine RL.cases (t3.2 != 0) (fun hb => ?_) (fun hb => ?_)
  ·have hc := (bne_iff_ne.1 hb)
   rw [hb]
   rw [if_pos hc] at H; clear hb
   refine RL.s 4 [(29, .bool true), (7, pt nx3 0), (6, .slice A1 t2.length c1), (5, .bool t1), (3, pt nx0 0)] ?_
   refine RL.nil (by kernel_rfl) ?_
   obtain rfl := Option.some.inj H
   exact QN.sb (hJ1 _ _ _ _ _ ⟨true, rfl, rfl, rfl, (Imm.le_refl _), HK1⟩) (.cons_cons _ (.cons_cons _ .slnil)) (.refl _)
  ·have hc := (not_not_intro (bne_eq_false_iff_eq.1 hb))
   rw [hb]
   rw [if_neg hc] at H; clear hb
   refine RL.simK (K' := [(26, .agg #[.slice A2 t3.1.f0.length c2, .slice A3 t3.1.f1.length c3, .slice A4 t3.1.f2.length c4]), (25, .bool false), (7, pt nx3 0), (6, .slice A1 t2.length c1), (5, .bool t1), (3, pt nx0 0)]) [] (RFacts.nil _ _ _) 1 [.l 1] (by kernel_rfl) (by kernel_rfl) ?_
   obtain ⟨t7, hA7, H⟩ := bnd H
   refine RL.callP 25 [.agg #[.slice A2 t3.1.f0.length c2, .slice A3 t3.1.f1.length c3, .slice A4 t3.1.f2.length c4]] (some 27) (fun w => armillarylaw23_shaped.Post I7 w t7) (by kernel_rfl) (by kernel_rfl) (fun w hs => armillarylaw23_shaped.calls I7 t3.1 A2 c2 A3 c3 A4 c4 w hs.im hl2 (Rd.ext (Imm.le_trans hi6 hi7) hr2) hl3 (Rd.ext hi7 hr3) hl4 hr4 t7 hA7) ?_
   rintro w v w' hs ⟨I32, rfl, hg⟩
   have hi32 := hg.le
   refine RL.resume (X' := []) rfl (hs.call hg) ?_
   clear hs hg
   generalize w'.heap.size = nx28
   clear w w'
   refine RL.s 2 [(29, .bool (!t7)), (7, pt nx3 0), (6, .slice A1 t2.length c1), (5, .bool t1), (3, pt nx0 0)] ?_
   refine RL.nil (by kernel_rfl) ?_
   obtain rfl := Option.some.inj H
   exact QN.sb (hJ1 _ _ _ _ _ ⟨(!t7), rfl, rfl, rfl, hi32, HK1⟩) (.cons_cons _ (.cons_cons _ .slnil)) (.refl _)

end Go.Proofs.Ytihmbmeelheinaa
namespace Go.Proofs.Ytihmbmeelheinaa
open Go Go.Proofs.Ytihmbmeelheinaa.RW Go.Proofs.Ytihmbmeelheinaa.auc
open Go.Proofs.Ytihmbmeelheinaa.hun (g sm Solved)
set_option linter.unusedVariables false
theorem efficient_l3 {t : S29 × Int} {i : Nat} {m : Nat} (hm : m ≤ 100) (h1 : t.1.f1.length = m) (hi : i < m) (hd : ∀ j, j < i → g t.1.f1 i ≥ 0 → g t.1.f1 j ≠ g t.1.f1 i) : ∀ (q n : Nat), q + n = i → Ev (fun f => armillarylaw23_AuctionEfficient.l3 t (i : Int) f (n : Int)) (.inl ())
 | 0, n, e => Ev.succ (g := fun _ => some _) (fun f => by rw [armillarylaw23_AuctionEfficient.l3, if_neg (by omega)]) (Ev.const rfl)
 | q + 1, n, e => by
  have ih := efficient_l3 hm h1 hi hd q (n + 1) (by omega)
  have cp : (0 : Int) ≤ (n : Int) := by omega
  have ci : (0 : Int) ≤ (i : Int) := by omega
  have c1 : (n : Int) < (t.1.f1.length : Int) := by omega
  have c2 : (i : Int) < (t.1.f1.length : Int) := by omega
  refine Ev.succ (fun f => by rw [armillarylaw23_AuctionEfficient.l3, if_pos (by omega), Wn (by omega), tn, tn]) ?_
  refine Ev.bind1 (r := false) ?_ (Ev.congr (fun f => if_neg (by decide)) ih)
  rw [if_pos ci, if_pos c2]
  by_cases h0 : t.1.f1.getD i 0 ≥ 0
  ·rw [if_pos h0, if_pos cp, if_pos c1, if_pos ci, if_pos c2]
   have := hd n (by omega) h0
   simpa using this
  ·rw [if_neg h0]
theorem efficient_l2 {l : List S48} {d : S29} {σ : Int → Option Int} {X : Int} {Y : Int → Int} (k : Cl l d σ X Y) (h : okB l) : ∀ (q n : Nat), q + n = (ws l).length → Ev (fun f => armillarylaw23_AuctionEfficient.l2 l (d, 0) f (n : Int)) (.inl ())
 | 0, n, e => by
  obtain ⟨n0, n1, n2, n3⟩ := k.len0 h
  exact Ev.succ (g := fun _ => some _) (fun f => by rw [armillarylaw23_AuctionEfficient.l2, if_neg (by show ¬ (n : Int) < (d.f0.length : Int); omega)]) (Ev.const rfl)
 | q + 1, n, e => by
  obtain ⟨n0, n1, n2, n3⟩ := k.len0 h
  have hn : n < (ws l).length := by omega
  have ih := efficient_l2 k h q (n + 1) (by omega)
  have c0 : (n : Int) < (((d, (0 : Int)).1.f0.length : Nat) : Int) := by show (n : Int) < (d.f0.length : Int); omega
  have c1 : (n : Int) < (((d, (0 : Int)).1.f1.length : Nat) : Int) := by show (n : Int) < (d.f1.length : Int); omega
  have cp : (0 : Int) ≤ (n : Int) := by omega
  have hsl := k.slot_neg h hn
  have hval := value_ev l (g d.f0 n) (g d.f1 n) (by have := h.n64; omega)
  have hasc : Ev (fun _ => if (n : Int) > 0 then (if 0 ≤ (W .i64 ((n : Int) - 1)) then (if (W .i64 ((n : Int) - 1)) < (((d, (0 : Int)).1.f0.length : Nat) : Int) then (if 0 ≤ (n : Int) then (if (n : Int) < (((d, (0 : Int)).1.f0.length : Nat) : Int) then (some (decide (((d, (0 : Int)).1.f0.getD (W .i64 ((n : Int) - 1)).toNat 0) ≥ ((d, (0 : Int)).1.f0.getD n 0)))) else none) else none) else none) else none) else (some false)) false := by
   refine Ev.const ?_
   by_cases h0 : (n : Int) > 0
   ·obtain ⟨p, rfl⟩ : ∃ p, n = p + 1 := ⟨n - 1, by omega⟩
    have e1 : W .i64 (((p + 1 : Nat) : Int) - 1) = (p : Int) := by rw [W64 (by omega) (by omega)]; omega
    rw [if_pos h0, e1, if_pos (by omega), if_pos (by show (p : Int) < (d.f0.length : Int); omega), if_pos cp, if_pos c0, tn]
    show some (decide (g d.f0 p ≥ g d.f0 (p + 1))) = some false
    have h2 := List.pairwise_iff_getElem.1 (dist_lt (l.map (·.f0))) p (p + 1) (by show p < (ws l).length; omega) hn (by omega)
    have e2 : g d.f0 p = (ws l)[p]'(by omega) := by rw [k.who]; exact gD (by omega) 0
    have e3 : g d.f0 (p + 1) = (ws l)[p + 1] := by rw [k.who]; exact gD hn 0
    rw [e2, e3, decide_eq_false (by show ¬ _ ≥ _; exact Int.not_le.2 h2)]
   ·rw [if_neg h0]
  have h3 := efficient_l3 (t := (d, (0 : Int))) (i := n) (m := (ws l).length) (by omega) n1 hn (fun j hj hge => by
   intro he
   have he' : g d.f1 j = g d.f1 n := he
   have hge' : g d.f1 n ≥ 0 := hge
   rcases hsl with ⟨_, s2⟩ | ⟨s, s1, s2, _, _⟩
   ·omega
   ·rcases k.slot_neg h (show j < (ws l).length by omega) with ⟨_, u2⟩ | ⟨u, u1, u2, _, _⟩
    ·omega
    ·have : s = u := by omega
     subst this
     have := k.inj _ (g_mem (show j < (ws l).length by omega)) _ (g_mem hn) _ u1 s1
     have := g_inj (dist_nodup _) (show j < (ws l).length by omega) hn this
     omega) n 0 rfl
  refine Ev.succ (fun f => by rw [armillarylaw23_AuctionEfficient.l2, if_pos c0, Wn (by omega), tn]) ?_
  refine Ev.bind (r := (Sum.inl () : Unit ⊕ Bool)) (Ev.bind (r := false) ?_ (Ev.congr (fun f => if_neg (by decide)) (Ev.bind h3 (Ev.const rfl)))) ih
  refine Ev.congr (fun f => if_pos cp) (Ev.congr (fun f => if_pos c1) ?_)
  rcases hsl with ⟨s1, s2⟩ | ⟨s, s1, s2, s3, s4⟩
  ·refine Ev.congr (fun f => if_neg (by show ¬ g d.f1 n < -1; omega)) (Ev.congr (fun f => if_pos cp) (Ev.congr (fun f => if_pos c1) (Ev.congr (fun f => if_neg (by show ¬ g d.f1 n ≥ 0; omega)) hasc)))
  ·refine Ev.congr (fun f => if_neg (by show ¬ g d.f1 n < -1; omega)) (Ev.congr (fun f => if_pos cp) (Ev.congr (fun f => if_pos c1) (Ev.congr (fun f => if_pos (by show g d.f1 n ≥ 0; omega)) ?_)))
   refine Ev.congr (fun f => if_pos cp) (Ev.congr (fun f => if_pos c0) (Ev.congr (fun f => if_pos cp) (Ev.congr (fun f => if_pos c1) (Ev.bind hval (Ev.congr (fun f => if_neg ?_) hasc)))))
   rw [k.who, s2]
   omega
def Pk (l : List S48) (n : Nat) (x : Int) (b : List Bool) : Prop :=
 b.length = 1001 ∧ ∃ τ : Int → Option Int, Inj (ws l) τ ∧ (∀ i, n ≤ i → i < (ws l).length → τ (g (ws l) i) = none) ∧ (∀ v s, τ v = some s → 0 ≤ s ∧ b.getD s.toNat false = true) ∧ tot (Vv l) τ (ws l) = x ∧ 0 ≤ x ∧ x ≤ 1073741824 * (n : Int)
theorem Pk.skip {l : List S48} {n : Nat} {x : Int} {b : List Bool} (h : Pk l n x b) : Pk l (n + 1) x b := by
 obtain ⟨h0, τ, h1, h2, h3, h4, h5, h6⟩ := h
 exact ⟨h0, τ, h1, fun i hi hi2 => h2 i (by omega) hi2, h3, h4, h5, by omega⟩
theorem Pk.put {l : List S48} (hk : okB l) {n : Nat} {x : Int} {b : List Bool} (hn : n < (ws l).length) (h : Pk l n x b) {s : Nat} (hs : s < 1001) (hb : b.getD s false = false) : Pk l (n + 1) (x + Vv l (g (ws l) n) (s : Int)) (b.set s true) := by
 obtain ⟨h0, τ, h1, h2, h3, h4, h5, h6⟩ := h
 have hnd : (ws l).Nodup := dist_nodup _
 have hw := g_mem hn
 obtain ⟨w, hww⟩ : ∃ w, g (ws l) n = w := ⟨_, rfl⟩
 have hτn := h2 n (Nat.le_refl _) hn
 rw [hww] at hw hτn ⊢
 have hv := hk.vb w (s : Int)
 have hfree : ∀ v t, τ v = some t → t ≠ (s : Int) := fun v t e1 e2 => by
  have := (h3 v t e1).2
  rw [e2, tn, hb] at this
  cases this
 refine ⟨by rw [List.length_set]; exact h0, fun v => if v = w then some (s : Int) else τ v, ?_, ?_, ?_, ?_, by omega, by omega⟩
 ·intro v hv v' hv' t e1 e2
  simp only at e1 e2
  by_cases a1 : v = w
  ·by_cases a2 : v' = w
   ·rw [a1, a2]
   ·rw [if_pos a1] at e1
    rw [if_neg a2] at e2
    exact absurd (Option.some.inj e1).symm (hfree v' t e2)
  ·by_cases a2 : v' = w
   ·rw [if_neg a1] at e1
    rw [if_pos a2] at e2
    exact absurd (Option.some.inj e2).symm (hfree v t e1)
   ·rw [if_neg a1] at e1
    rw [if_neg a2] at e2
    exact h1 v hv v' hv' t e1 e2
 ·intro i hi hi2
  have : g (ws l) i ≠ w := fun e => by
   have := g_inj hnd hi2 hn (e.trans hww.symm)
   omega
  show (if g (ws l) i = w then some (s : Int) else τ (g (ws l) i)) = none
  rw [if_neg this]
  exact h2 i (by omega) hi2
 ·intro v t e1
  simp only at e1
  by_cases a1 : v = w
  ·rw [if_pos a1] at e1
   obtain rfl := Option.some.inj e1
   refine ⟨by omega, ?_⟩
   rw [tn, List.getD_eq_getElem?_getD, List.getElem?_set_self (by omega)]
   rfl
  ·rw [if_neg a1] at e1
   obtain ⟨z1, z2⟩ := h3 v t e1
   refine ⟨z1, ?_⟩
   have z3 := hfree v t e1
   rw [List.getD_eq_getElem?_getD, List.getElem?_set_ne (by omega), ← List.getD_eq_getElem?_getD]
   exact z2
 ·obtain ⟨τ', hτ'⟩ : ∃ τ' : Int → Option Int, τ' = fun v => if v = w then some (s : Int) else τ v := ⟨_, rfl⟩
  rw [← hτ']
  have t1 : tot (Vv l) τ' (ws l) = pay (Vv l) τ' w + tot (Vv l) τ' (but (ws l) w) := sum_but hnd hw
  have t2 : tot (Vv l) τ (ws l) = pay (Vv l) τ w + tot (Vv l) τ (but (ws l) w) := sum_but hnd hw
  have t3 : tot (Vv l) τ' (but (ws l) w) = tot (Vv l) τ (but (ws l) w) := sum_congr (fun v hv => by
   have := (but_mem.1 hv).2
   unfold pay
   rw [hτ']
   simp only [if_neg this])
  have t4 : pay (Vv l) τ w = 0 := by unfold pay; rw [hτn]
  have t5 : pay (Vv l) τ' w = Vv l w (s : Int) := by unfold pay; rw [hτ']; simp
  omega
theorem efficient_l1 {l : List S48} {d : S29} {σ : Int → Option Int} {X : Int} {Y : Int → Int} (k : Cl l d σ X Y) (h : okB l) {a : List Int} (ha : ∀ i, 0 ≤ g a i ∧ g a i < 256) : ∀ (q n : Nat) (x : Int) (b : List Bool), q + n = (ws l).length → Pk l n x b → ∃ r, r ≤ X ∧ Ev (fun f => armillarylaw23_AuctionEfficient.l1 a l (d, 0) f x b (n : Int)) r
 | 0, n, x, b, e, hp => by
  obtain ⟨n0, n1, n2, n3⟩ := k.len0 h
  obtain ⟨_, τ, h1, _, _, h4, _, _⟩ := hp
  refine ⟨x, by rw [← h4]; exact k.om.1 τ h1, Ev.succ (g := fun _ => some _) (fun f => by rw [armillarylaw23_AuctionEfficient.l1, if_neg (by show ¬ (n : Int) < (d.f0.length : Int); omega), Option.bind_some, if_neg (by decide)]) (Ev.const rfl)⟩
 | q + 1, n, x, b, e, hp => by
  obtain ⟨n0, n1, n2, n3⟩ := k.len0 h
  have hn : n < (ws l).length := by omega
  have c0 : (n : Int) < (((d, (0 : Int)).1.f0.length : Nat) : Int) := by show (n : Int) < (d.f0.length : Int); omega
  have cp : (0 : Int) ≤ (n : Int) := by omega
  have c12 : (n : Int) < (12 : Int) := by omega
  obtain ⟨s, hs, es⟩ : ∃ s : Nat, s < 1001 ∧ W .i64 (W .i64 ((a.getD n 0).tmod 7) * 3) = (s : Int) := by
   have h1 := ha n
   refine ⟨((g a n % 7) * 3).toNat, by omega, ?_⟩
   show W .i64 (W .i64 ((g a n).tmod 7) * 3) = _
   rw [Int.tmod_eq_emod_of_nonneg h1.1, W64 (x := g a n % 7) (by omega) (by omega), W64 (by omega) (by omega)]
   omega
  have hlen := hp.1
  have cs : (0 : Int) ≤ (s : Int) := by omega
  have cb : (s : Int) < (b.length : Int) := by omega
  by_cases hb : b.getD s false = true
  ·obtain ⟨r, r1, r2⟩ := efficient_l1 k h ha q (n + 1) x b (by omega) hp.skip
   refine ⟨r, r1, ?_⟩
   refine Ev.succ (fun f => by rw [armillarylaw23_AuctionEfficient.l1, if_pos c0, Option.bind_some, if_pos (by simpa using c12), if_pos cp, if_pos c12, tn, es, if_pos cs, if_pos cb, tn, Wn (by omega)]) ?_
   exact Ev.bind (r := (x, b)) (Ev.congr (fun f => if_pos hb) (Ev.const rfl)) r2
  ·have hb' : b.getD s false = false := by simpa using hb
   obtain ⟨r, r1, r2⟩ := efficient_l1 k h ha q (n + 1) _ _ (by omega) (hp.put h hn hs hb')
   refine ⟨r, r1, ?_⟩
   have hval := value_ev l (g d.f0 n) (s : Int) (by have := h.n64; omega)
   have hv := h.vb (g (ws l) n) (s : Int)
   obtain ⟨_, τ, _, _, _, _, p5, p6⟩ := hp
   refine Ev.succ (fun f => by rw [armillarylaw23_AuctionEfficient.l1, if_pos c0, Option.bind_some, if_pos (by simpa using c12), if_pos cp, if_pos c12, tn, es, if_pos cs, if_pos cb, tn, Wn (by omega)]) ?_
   refine Ev.bind (r := (x + Vv l (g (ws l) n) (s : Int), b.set s true)) ?_ r2
   refine Ev.congr (fun f => if_neg hb) (Ev.congr (fun f => if_pos cp) (Ev.congr (fun f => if_pos c0) (Ev.bind hval (Ev.congr (fun f => if_pos cs) (Ev.congr (fun f => if_pos cb) (Ev.const ?_))))))
   rw [k.who, W64 (by omega) (by omega)]
theorem armillarylaw23_AuctionEfficient_holds (a0 : List S48) (a1 : S41) (hp0 : ∀ x ∈ a0, p48 x) (h0 : a0.length ≤ 9223372036854775807) (hp1 : p41 a1) : ∃ k, armillarylaw23_AuctionEfficient.f k a0 [a1.f0, a1.f1, a1.f2, a1.f3, a1.f4, a1.f5, a1.f6, a1.f7, a1.f8, a1.f9, a1.f10, a1.f11] = some true := by
 obtain ⟨l, hg, hm⟩ := made_ev h0
 have h := hg.ok (by decide) (by decide)
 obtain ⟨d, cols, X, Y, hc, ⟨e, hs⟩, k⟩ := clear_ev h
 have ha : ∀ i, 0 ≤ g [a1.f0, a1.f1, a1.f2, a1.f3, a1.f4, a1.f5, a1.f6, a1.f7, a1.f8, a1.f9, a1.f10, a1.f11] i ∧ g [a1.f0, a1.f1, a1.f2, a1.f3, a1.f4, a1.f5, a1.f6, a1.f7, a1.f8, a1.f9, a1.f10, a1.f11] i < 256 := fun i => by
  obtain ⟨w0, w1, w2, w3, w4, w5, w6, w7, w8, w9, w10, w11⟩ := hp1
  match i with
  | 0 => exact u8_wf w0
  | 1 => exact u8_wf w1
  | 2 => exact u8_wf w2
  | 3 => exact u8_wf w3
  | 4 => exact u8_wf w4
  | 5 => exact u8_wf w5
  | 6 => exact u8_wf w6
  | 7 => exact u8_wf w7
  | 8 => exact u8_wf w8
  | 9 => exact u8_wf w9
  | 10 => exact u8_wf w10
  | 11 => exact u8_wf w11
  | n + 12 => show 0 ≤ (0 : Int) ∧ (0 : Int) < 256; decide
 have hp : Pk l 0 0 (List.replicate (1001 : Int).toNat (false : Bool)) := ⟨by rw [List.length_replicate]; rfl, fun _ => none, (fun v hv v' hv' t e1 e2 => by cases e1), (fun i _ _ => rfl), (fun v s e1 => by cases e1), by
  have : ∀ W : List Int, tot (Vv l) (fun _ => none) W = 0 := fun W => by
   unfold tot
   induction W with
   | nil => rfl
   | cons w W ih =>
    rw [List.map_cons, List.sum_cons, ih]
    rfl
  exact this _, Int.le_refl _, by decide⟩
 obtain ⟨r, r1, r2⟩ := efficient_l1 k h ha (ws l).length 0 0 _ rfl hp
 refine Ev.get (Ev.bind sanity_ev (Ev.bind hm (Ev.bind hc (Ev.bind1 (r := false) ?_ (Ev.congr (fun f => if_neg (by decide)) (Ev.bind (efficient_l2 k h (ws l).length 0 rfl) ?_))))))
 ·rw [if_neg (by simp), k.shaped]
  rfl
 ·obtain ⟨aa, haa⟩ : ∃ aa : List Int, [a1.f0, a1.f1, a1.f2, a1.f3, a1.f4, a1.f5, a1.f6, a1.f7, a1.f8, a1.f9, a1.f10, a1.f11] = aa := ⟨_, rfl⟩
  rw [haa] at r2 ⊢
  refine Ev.congr (g := fun f => (armillarylaw23_AuctionEfficient.l1 aa l (d, 0) f 0 (List.replicate (1001 : Int).toNat (false : Bool)) 0).bind (armillarylaw23_AuctionEfficient.k2 f true l (d, 0))) (fun f => ?_) (Ev.bind r2 (Ev.bind (r := true) ?_ (Ev.const rfl)))
  ·unfold armillarylaw23_AuctionEfficient.k5
   simp only [if_pos (show (0 : Int) ≤ 1001 by decide), if_pos (show (1001 : Int) ≤ 281474976710656 by decide)]
  ·exact Ev.bind (k.welfare h) (Ev.congr (fun f => if_pos r1) (Ev.const rfl))
end Go.Proofs.Ytihmbmeelheinaa
namespace Go.Proofs.Ytihmbmeelheinaa.auctionEfficient
open Go.ChangeShapes Go.WideShapes Go.ChangeAt Go.RowKit Go.Proofs.Ytihmbmeelheinaa Go.Proofs.Ytihmbmeelheinaa.RW
open Go.ChangeMaps (open_string shut_string)
set_option linter.unusedVariables false
set_option maxRecDepth 1000000
set_option maxHeartbeats 8000000

theorem own : ownKnob Try.prog.godebug = none := by kernel_rfl
theorem laidOut : laidOutB Try.prog = true := by kernel_rfl
theorem lifted (os : Os) (started : os.Started) (H : Type) (enc : TypeId × Value → H) :
  ReturnsInHanded {} Try.checked os 4 .any (Rows.auctionEfficientSpec.pre6 enc Try.prog Try.f4 Rows.auctionEfficientRow.domain false) (Rows.auctionEfficientSpec.post enc Try.prog Try.f4 false true false false) := by
 refine returnsInHanded_of_change (C := Try.checked) own started (by kernel_rfl) Try.func4
  (ChangeSpec.witness6 (enc := enc) (C := Try.checked) false ⟨#[], #[.slice none 0 0, .agg (arrV (Value.int .u8) 0 12 (List.replicate 12 0)).toArray], []⟩ 8 (by kernel_rfl) (by kernel_rfl) (by kernel_rfl) (by kernel_rfl)) ?_
 intro W base args ds gs before hval0 hW hcnd _
 have hval : ∀ (j : Nat) t v, Try.f4.params[j]? = some t → args[j]? = some v → Value.okWide Try.prog W .any base t v := hval0
 have hW' := hW
 obtain ⟨p, q, hA0, hV, rfl, hfz, hnd⟩ := hW
 have hA : DataW.TrodAll enc Try.prog W 0 (fun _ => true) true Try.f4.params.toList args.toList ds p := hA0
 rw [Try.params4] at hA hval
 obtain ⟨v0, vs0, d0, ds0, p0, q0, hargs, rfl, rfl, h0, z0⟩ := trodAll_cons hA
 obtain ⟨v1, vs1, d1, ds1, p1, q1, rfl, rfl, rfl, h1, z1⟩ := trodAll_cons z0
 obtain ⟨rfl, rfl, rfl⟩ := trodAll_nil z1
 obtain rfl : args = #[v0, v1] := by cases args; simp_all
 obtain ⟨rfl, rfl⟩ := trodVars_none hV
 have k0 := h0
 have lt0 : ∀ x ∈ p0, x.block < W.heap.size := by obtain ⟨m, hm⟩ := k0; exact DataW.trod_lt m _ _ _ hm
 obtain ⟨b0, len0, cap0, rfl⟩ := okWide_slice Try.underlying22 (hval 0 22 v0 rfl rfl)
 obtain ⟨fuel0, hf0⟩ := h0
 obtain ⟨a0, ⟨A0, c0, e0, l0, r0⟩, hp0⟩ := (opens_slice (e := 48) o48 (by kernel_rfl) (by kernel_rfl) (Nat.le_of_ble_eq_true (by kernel_rfl)) : Opens Try.prog (Ty.slice t48) 22 (fun l => ∀ x ∈ l, p48 x)) W 0 _ _ _ _ _ hf0
 obtain ⟨rfl, rfl, rfl⟩ : b0 = A0 ∧ len0 = a0.length ∧ cap0 = c0 := by simpa [Value.cells] using e0
 have k1 := h1
 have lt1 : ∀ x ∈ p1, x.block < W.heap.size := by obtain ⟨m, hm⟩ := k1; exact DataW.trod_lt m _ _ _ hm
 obtain ⟨cs1, rfl⟩ : ∃ cs, v1 = .agg cs := by
  have hv := (hval 1 41 v1 rfl rfl)
  simp only [Value.okWide, Try.underlying41] at hv
  obtain ⟨cs, e, _⟩ := hv
  exact ⟨cs, e⟩
 obtain ⟨fuel1, hf1⟩ := h1
 obtain ⟨a1, hk1, hp1⟩ := o41 W 0 _ _ _ _ _ hf1
 obtain ⟨_, e1⟩ := t41_open hk1
 obtain rfl : cs1 = #[.int .u8 a1.f0, .int .u8 a1.f1, .int .u8 a1.f2, .int .u8 a1.f3, .int .u8 a1.f4, .int .u8 a1.f5, .int .u8 a1.f6, .int .u8 a1.f7, .int .u8 a1.f8, .int .u8 a1.f9, .int .u8 a1.f10, .int .u8 a1.f11] := by simpa [Value.cells] using congrArg List.toArray e1
 clear hA0 hval0
 obtain ⟨k, hk⟩ := armillarylaw23_AuctionEfficient_holds a0 a1 hp0 r0.1 hp1
 refine (armillarylaw23_AuctionEfficient.calls k (wImm W) a0 b0 cap0 [a1.f0, a1.f1, a1.f2, a1.f3, a1.f4, a1.f5, a1.f6, a1.f7, a1.f8, a1.f9, a1.f10, a1.f11] W (wImm_at W) l0 r0 (Nat.le_of_ble_eq_true rfl) true hk).mono ?_
 rintro e W' ⟨v, rfl, J, rfl, hg⟩
 have bel : Below W.heap.size W W' := ⟨hg.evo.os, hg.evo.tape, hg.evo.output, hg.evo.size, fun k hk => hg.evo.blk k hk (fun h => h)⟩
 exact ⟨_, rfl, _, _, _, [], _, [], hW', trodAll_mk1 (shut_bool Try.underlying4 _), (trodAll_cons_mk (Below.trod laidOut (by kernel_rfl) (of_decide_eq_true (by kernel_rfl)) k0 bel lt0) (trodAll_cons_mk (Below.trod laidOut (by kernel_rfl) (of_decide_eq_true (by kernel_rfl)) k1 bel lt1) trodAll_mk0)), rfl, bel.frame _, fun h => by cases h⟩

theorem over : Rows.auctionEfficientRow.holds Try.pinned (OpenSpec.ofChange Rows.auctionEfficientSpec) :=
 OpenClaim.holds_of_wide 4 Try.f4 rfl rfl rfl rfl rfl rfl rfl ⟨rfl, rfl, rfl, rfl, rfl⟩ rfl rfl rfl rfl rfl (by kernel_rfl) Try.func4 (by kernel_rfl)
  (of_decide_eq_true (by kernel_rfl)) (by unfold Func.isWrapper; first | (rw [if_pos (by decide +kernel)]; kernel_rfl) | (rw [if_neg (by decide +kernel)]; exact ⟨rfl, rfl⟩))
  (fun os started H enc _ => lifted os started H enc)
theorem proved : Rows.AuctionEfficientSaid := over
#print axioms proved
end Go.Proofs.Ytihmbmeelheinaa.auctionEfficient
