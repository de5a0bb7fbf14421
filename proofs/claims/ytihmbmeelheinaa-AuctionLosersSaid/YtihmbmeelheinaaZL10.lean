/- What a function of the program computes, and the walk that shows it; made by a program of the session's out of the translation; no conditions beyond those that the theorems name. -/
import Derived.Test.YtihmbmeelheinaaZ2
import Derived.Test.YtihmbmeelheinaaZ6
import Derived.Test.YtihmbmeelheinaaZ5
import Derived.Test.YtihmbmeelheinaaZ7
import Derived.Test.YtihmbmeelheinaaRows
import Derived.WalkKit
import Derived.ProofKit
import Derived.OpenShut
import Derived.ShutString
import Derived.ChangeOld
import Derived.Below
import Derived.Carry
import Derived.WideShapes
namespace Go.Proofs.Ytihmbmeelheinaa
open Go Go.Proofs.Ytihmbmeelheinaa.RW
set_option linter.unusedVariables false
set_option maxRecDepth 100000
set_option maxHeartbeats 8000000

/-! ### armillarylaw23_AuctionLosers: function 10, armillary/armillarylaw23.AuctionLosers -/
noncomputable def K10_0 : Code := cBody Try.f10
noncomputable def O10_49 : List Oper := cOps (cL (cL (cR (cR (cR (cR (cR (cR (cR (cR K10_0))))))))))
noncomputable def O10_58 : List Oper := cOps (cL (cR (cR (cR (cR (cR (cR (cR (cR (cR K10_0))))))))))
noncomputable def O10_64 : List Oper := cOps (cL (cR (cR (cR (cR (cR (cR (cR (cR (cR (cR (cR K10_0))))))))))))
def armillarylaw23_AuctionLosers.k1  (x4 : Bool) : Option (Bool) := (some x4)
def armillarylaw23_AuctionLosers.k2 (k : Nat) (a1 : Int) (t1 : Bool) (t2 : List S48) (t3 : S29 × Int) (x3 : Bool) : Option (Bool) := (if x3 = true then (some t1) else (if (t3.1.f0.length : Int) = 0 then none else (if 0 ≤ ((W .i64 (a1)).tmod (t3.1.f0.length : Int)) then (if ((W .i64 (a1)).tmod (t3.1.f0.length : Int)) < (t3.1.f0.length : Int) then ((armillaryref23_Except.f k t2 (t3.1.f0.getD ((W .i64 (a1)).tmod (t3.1.f0.length : Int)).toNat 0)).bind fun t5 => ((auction_Clear.f k t5).bind fun t6 => ((if t6.2 = 0 then ((auction_Welfare.f k t5 t6.1).bind fun t7 => ((auction_Welfare.f k t2 t3.1).bind fun t8 => (if t7 = t8 then (some t1) else (some false)))) else (some false)).bind (armillarylaw23_AuctionLosers.k1)))) else none) else none)))
def armillarylaw23_AuctionLosers.k3 (k : Nat) (a1 : Int) (t1 : Bool) (t2 : List S48) (t3 : S29 × Int) (x2 : Bool) : Option (Bool) := (if x2 = true then (some false) else ((if (t3.1.f0.length : Int) = 0 then (some true) else (if (t3.1.f0.length : Int) = 0 then none else (if 0 ≤ ((W .i64 (a1)).tmod (t3.1.f0.length : Int)) then (if ((W .i64 (a1)).tmod (t3.1.f0.length : Int)) < (t3.1.f1.length : Int) then (some (decide ((t3.1.f1.getD ((W .i64 (a1)).tmod (t3.1.f0.length : Int)).toNat 0) ≥ 0))) else none) else none))).bind (armillarylaw23_AuctionLosers.k2 k a1 t1 t2 t3)))
def armillarylaw23_AuctionLosers.k4 (k : Nat) (a1 : Int) (t1 : Bool) (t2 : List S48) (t3 : S29 × Int) (x1 : List S48) : Option (Bool) := ((auction_Clear.f k x1).bind fun t4 => ((if t3.2 ≠ 0 then (some true) else (if t4.2 ≠ 0 then (some true) else ((armillarylaw23_shaped.f t3.1).bind fun t9 => (if t9 = true then ((armillaryref23_Same.f k t3.1 t4.1).bind fun t10 => (some (!t10))) else (some true))))).bind (armillarylaw23_AuctionLosers.k3 k a1 t1 t2 t3)))
def armillarylaw23_AuctionLosers.l1 (t2 : List S48) : Nat → (List S48) → Int → Option (List S48)
 | 0, _, _ => none
 | k + 1, x5, x6 => (if x6 ≥ 0 then (if 0 ≤ x6 then (if x6 < (t2.length : Int) then (if (x5.length + [(t2.getD (x6).toNat z48)].length) * 24 ≤ 140737488355328 then (armillarylaw23_AuctionLosers.l1 t2 k (x5 ++ [(t2.getD (x6).toNat z48)]) (W .i64 (x6 - 1))) else none) else none) else none) else (some x5))
def armillarylaw23_AuctionLosers.f (k : Nat) (a0 : List S48) (a1 : Int) : Option (Bool) := ((armillarylaw23_sanity.f k ).bind fun t1 => ((armillaryref23_Made.f k a0).bind fun t2 => ((auction_Clear.f k t2).bind fun t3 => ((armillarylaw23_AuctionLosers.l1 t2 k ([] : List S48) (W .i64 ((t2.length : Int) - 1))).bind (armillarylaw23_AuctionLosers.k4 k a1 t1 t2 t3)))))
def armillarylaw23_AuctionLosers.Post (I : Imm) (w : World) (r : Bool) (v : Value) (w' : World) : Prop :=
 ∃ (J : Imm), v = .bool r ∧ Got w w' I J []
noncomputable def a10_58n : List Nat := [0, 0, 2, 0, 8, 0, 32, 96, 248, 510, 1022, 2047, 4095]
theorem a10_58 : ancs O10_58 [] = a10_58n := by kernel_rfl
theorem a10_58o : drawOk O10_58 a10_58n 11 = true := by kernel_rfl
noncomputable def u10d1l  : List Ld :=
 []
noncomputable def u10d1g (a1 : Int) (t3 : S29 × Int) (g1_ : Nat) (o1_ : Nat) : List (Nat × ((Nat → Wt) → Value)) := [(8, fun u => i6 ((W .i64 (a1)).tmod (t3.1.f0.length : Int))), (9, fun u => pt g1_ (o1_ + ((W .i64 (a1)).tmod (t3.1.f0.length : Int)).toNat * 1))]
noncomputable def u10d1q (a1 : Int) (t1 : Bool) (t2 : List S48) (A1 : Option Addr) (c1 : Nat) (t3 : S29 × Int) (A2 : Option Addr) (c2 : Nat) (A3 : Option Addr) (c3 : Nat) (A4 : Option Addr) (c4 : Nat) (nx3 : Nat) (t4 : S29 × Int) (A6 : Option Addr) (c6 : Nat) (A7 : Option Addr) (c7 : Nat) (A8 : Option Addr) (c8 : Nat) (nx5 : Nat) (x3 : Bool) (g1_ : Nat) (o1_ : Nat) (u : Nat → Wt) : Option (List Value × List (Nat × Value) × List (Nat × Nat)) := qSim Try.prog [(⟨g1_, o1_ + ((W .i64 (a1)).tmod (t3.1.f0.length : Int)).toNat * 1, none⟩, i6 (t3.1.f0.getD ((W .i64 (a1)).tmod (t3.1.f0.length : Int)).toNat 0))] [⟨nx3, [.slice A2 t3.1.f0.length c2, .slice A3 t3.1.f1.length c3, .slice A4 t3.1.f2.length c4], 29⟩, ⟨nx5, [.slice A6 t4.1.f0.length c6, .slice A7 t4.1.f1.length c7, .slice A8 t4.1.f2.length c8], 29⟩] O10_58 ⟨110, []⟩ (Ld.vl u10d1l) (u10d1g a1 t3 g1_ o1_) u [.no, .no, .l 0, .no, .no, .no, .l 0, .no, .no, .no, .r 0] 0 (O10_58.take 11) [(1, .int .u8 a1), (5, .bool t1), (6, .slice A1 t2.length c1), (7, pt nx3 0), (77, .bool x3)]
noncomputable def u10d1s (a1 : Int) (t2 : List S48) (A1 : Option Addr) (c1 : Nat) (t3 : S29 × Int) (A2 : Option Addr) (c2 : Nat) (nx3 : Nat) (g1_ : Nat) (o1_ : Nat) (u : Nat → Wt) : List Value := [.slice A1 t2.length c1, pt nx3 0, .slice A2 t3.1.f0.length c2, .int .u8 a1, i6 (W .i64 (a1)), pt nx3 0, .slice A2 t3.1.f0.length c2, i6 (t3.1.f0.length : Int), i6 ((W .i64 (a1)).tmod (t3.1.f0.length : Int)), pt g1_ (o1_ + ((W .i64 (a1)).tmod (t3.1.f0.length : Int)).toNat * 1), i6 (t3.1.f0.getD ((W .i64 (a1)).tmod (t3.1.f0.length : Int)).toNat 0)]
noncomputable def u10d1f (a1 : Int) (t1 : Bool) (t2 : List S48) (A1 : Option Addr) (c1 : Nat) (t3 : S29 × Int) (A2 : Option Addr) (c2 : Nat) (nx3 : Nat) (x3 : Bool) (g1_ : Nat) (o1_ : Nat) (i : Nat) (u : Nat → Wt) : List (Nat × Value) := foldPut ⟨110, []⟩ [(1, .int .u8 a1), (5, .bool t1), (6, .slice A1 t2.length c1), (7, pt nx3 0), (77, .bool x3)] (O10_58.take i) (((u10d1s a1 t2 A1 c1 t3 A2 c2 nx3 g1_ o1_) u).take i)
theorem u10d1v (a1 : Int) (t1 : Bool) (t2 : List S48) (A1 : Option Addr) (c1 : Nat) (t3 : S29 × Int) (A2 : Option Addr) (c2 : Nat) (A3 : Option Addr) (c3 : Nat) (A4 : Option Addr) (c4 : Nat) (nx3 : Nat) (t4 : S29 × Int) (A6 : Option Addr) (c6 : Nat) (A7 : Option Addr) (c7 : Nat) (A8 : Option Addr) (c8 : Nat) (nx5 : Nat) (x3 : Bool) (g1_ : Nat) (o1_ : Nat) (u : Nat → Wt) : (u10d1q a1 t1 t2 A1 c1 t3 A2 c2 A3 c3 A4 c4 nx3 t4 A6 c6 A7 c7 A8 c8 nx5 x3 g1_ o1_ u).map (fun x => (x.1, x.2.1)) = some ((u10d1s a1 t2 A1 c1 t3 A2 c2 nx3 g1_ o1_) u, (u10d1f a1 t1 t2 A1 c1 t3 A2 c2 nx3 x3 g1_ o1_ 11) u) := by kernel_rfl
theorem u10d1e (a1 : Int) (t1 : Bool) (t2 : List S48) (A1 : Option Addr) (c1 : Nat) (t3 : S29 × Int) (A2 : Option Addr) (c2 : Nat) (A3 : Option Addr) (c3 : Nat) (A4 : Option Addr) (c4 : Nat) (nx3 : Nat) (t4 : S29 × Int) (A6 : Option Addr) (c6 : Nat) (A7 : Option Addr) (c7 : Nat) (A8 : Option Addr) (c8 : Nat) (nx5 : Nat) (x3 : Bool) (g1_ : Nat) (o1_ : Nat) (u : Nat → Wt) : (u10d1q a1 t1 t2 A1 c1 t3 A2 c2 A3 c3 A4 c4 nx3 t4 A6 c6 A7 c7 A8 c8 nx5 x3 g1_ o1_ u).map (fun x => x.2.2.map (·.1)) = (u10d1q a1 t1 t2 A1 c1 t3 A2 c2 A3 c3 A4 c4 nx3 t4 A6 c6 A7 c7 A8 c8 nx5 x3 g1_ o1_ u).map (fun x => x.2.2.map (·.2)) := by kernel_rfl
noncomputable def a10_64n : List Nat := [0, 1, 3, 7, 7, 31, 7, 7, 255, 511, 1023, 2047, 4095, 8191, 16383]
theorem a10_64 : ancs O10_64 [] = a10_64n := by kernel_rfl
theorem a10_64o : drawOk O10_64 a10_64n 8 = true := by kernel_rfl
noncomputable def u10d2l (t7 : Int) : List Ld :=
 [⟨5, fun x => i6 t7, fun x => [], fun x J => True, fun x J J' h f => trivial⟩]
noncomputable def u10d2g  : List (Nat × ((Nat → Wt) → Value)) := [(2, fun u => .bool true)]
noncomputable def u10d2q (t1 : Bool) (t2 : List S48) (A1 : Option Addr) (c1 : Nat) (t3 : S29 × Int) (A2 : Option Addr) (c2 : Nat) (A3 : Option Addr) (c3 : Nat) (A4 : Option Addr) (c4 : Nat) (nx3 : Nat) (t4 : S29 × Int) (A6 : Option Addr) (c6 : Nat) (A7 : Option Addr) (c7 : Nat) (A8 : Option Addr) (c8 : Nat) (nx5 : Nat) (t5 : List S48) (A9 : Option Addr) (c9 : Nat) (t6 : S29 × Int) (A10 : Option Addr) (c10 : Nat) (A11 : Option Addr) (c11 : Nat) (A12 : Option Addr) (c12 : Nat) (nx10 : Nat) (t7 : Int) (u : Nat → Wt) : Option (List Value × List (Nat × Value) × List (Nat × Nat)) := qSim Try.prog [] [⟨nx3, [.slice A2 t3.1.f0.length c2, .slice A3 t3.1.f1.length c3, .slice A4 t3.1.f2.length c4], 29⟩, ⟨nx5, [.slice A6 t4.1.f0.length c6, .slice A7 t4.1.f1.length c7, .slice A8 t4.1.f2.length c8], 29⟩, ⟨nx10, [.slice A10 t6.1.f0.length c10, .slice A11 t6.1.f1.length c11, .slice A12 t6.1.f2.length c12], 29⟩] O10_64 ⟨110, []⟩ (Ld.vl (u10d2l t7)) u10d2g u [.no, .no, .no, .no, .l 2, .no, .no, .l 0] 0 (O10_64.take 8) [(15, i6 t6.2), (14, pt nx10 0), (13, .slice A9 t5.length c9), (5, .bool t1), (6, .slice A1 t2.length c1), (7, pt nx3 0)]
noncomputable def u10d2s (t2 : List S48) (A1 : Option Addr) (c1 : Nat) (t3 : S29 × Int) (A2 : Option Addr) (c2 : Nat) (A3 : Option Addr) (c3 : Nat) (A4 : Option Addr) (c4 : Nat) (t5 : List S48) (A9 : Option Addr) (c9 : Nat) (t6 : S29 × Int) (A10 : Option Addr) (c10 : Nat) (A11 : Option Addr) (c11 : Nat) (A12 : Option Addr) (c12 : Nat) (t7 : Int) (u : Nat → Wt) : List Value := [i6 t6.2, .bool (t6.2 == 0), .bool true, .slice A9 t5.length c9, .agg #[.slice A10 t6.1.f0.length c10, .slice A11 t6.1.f1.length c11, .slice A12 t6.1.f2.length c12], i6 t7, .slice A1 t2.length c1, .agg #[.slice A2 t3.1.f0.length c2, .slice A3 t3.1.f1.length c3, .slice A4 t3.1.f2.length c4]]
noncomputable def u10d2f (t1 : Bool) (t2 : List S48) (A1 : Option Addr) (c1 : Nat) (t3 : S29 × Int) (A2 : Option Addr) (c2 : Nat) (A3 : Option Addr) (c3 : Nat) (A4 : Option Addr) (c4 : Nat) (nx3 : Nat) (t5 : List S48) (A9 : Option Addr) (c9 : Nat) (t6 : S29 × Int) (A10 : Option Addr) (c10 : Nat) (A11 : Option Addr) (c11 : Nat) (A12 : Option Addr) (c12 : Nat) (nx10 : Nat) (t7 : Int) (i : Nat) (u : Nat → Wt) : List (Nat × Value) := foldPut ⟨110, []⟩ [(15, i6 t6.2), (14, pt nx10 0), (13, .slice A9 t5.length c9), (5, .bool t1), (6, .slice A1 t2.length c1), (7, pt nx3 0)] (O10_64.take i) (((u10d2s t2 A1 c1 t3 A2 c2 A3 c3 A4 c4 t5 A9 c9 t6 A10 c10 A11 c11 A12 c12 t7) u).take i)
theorem u10d2v (t1 : Bool) (t2 : List S48) (A1 : Option Addr) (c1 : Nat) (t3 : S29 × Int) (A2 : Option Addr) (c2 : Nat) (A3 : Option Addr) (c3 : Nat) (A4 : Option Addr) (c4 : Nat) (nx3 : Nat) (t4 : S29 × Int) (A6 : Option Addr) (c6 : Nat) (A7 : Option Addr) (c7 : Nat) (A8 : Option Addr) (c8 : Nat) (nx5 : Nat) (t5 : List S48) (A9 : Option Addr) (c9 : Nat) (t6 : S29 × Int) (A10 : Option Addr) (c10 : Nat) (A11 : Option Addr) (c11 : Nat) (A12 : Option Addr) (c12 : Nat) (nx10 : Nat) (t7 : Int) (u : Nat → Wt) : (u10d2q t1 t2 A1 c1 t3 A2 c2 A3 c3 A4 c4 nx3 t4 A6 c6 A7 c7 A8 c8 nx5 t5 A9 c9 t6 A10 c10 A11 c11 A12 c12 nx10 t7 u).map (fun x => (x.1, x.2.1)) = some ((u10d2s t2 A1 c1 t3 A2 c2 A3 c3 A4 c4 t5 A9 c9 t6 A10 c10 A11 c11 A12 c12 t7) u, (u10d2f t1 t2 A1 c1 t3 A2 c2 A3 c3 A4 c4 nx3 t5 A9 c9 t6 A10 c10 A11 c11 A12 c12 nx10 t7 8) u) := by kernel_rfl
theorem u10d2e (t1 : Bool) (t2 : List S48) (A1 : Option Addr) (c1 : Nat) (t3 : S29 × Int) (A2 : Option Addr) (c2 : Nat) (A3 : Option Addr) (c3 : Nat) (A4 : Option Addr) (c4 : Nat) (nx3 : Nat) (t4 : S29 × Int) (A6 : Option Addr) (c6 : Nat) (A7 : Option Addr) (c7 : Nat) (A8 : Option Addr) (c8 : Nat) (nx5 : Nat) (t5 : List S48) (A9 : Option Addr) (c9 : Nat) (t6 : S29 × Int) (A10 : Option Addr) (c10 : Nat) (A11 : Option Addr) (c11 : Nat) (A12 : Option Addr) (c12 : Nat) (nx10 : Nat) (t7 : Int) (u : Nat → Wt) : (u10d2q t1 t2 A1 c1 t3 A2 c2 A3 c3 A4 c4 nx3 t4 A6 c6 A7 c7 A8 c8 nx5 t5 A9 c9 t6 A10 c10 A11 c11 A12 c12 nx10 t7 u).map (fun x => x.2.2.map (·.1)) = (u10d2q t1 t2 A1 c1 t3 A2 c2 A3 c3 A4 c4 nx3 t4 A6 c6 A7 c7 A8 c8 nx5 t5 A9 c9 t6 A10 c10 A11 c11 A12 c12 nx10 t7 u).map (fun x => x.2.2.map (·.2)) := by kernel_rfl
noncomputable def u10d3l  : List Ld :=
 []
noncomputable def u10d3g  : List (Nat × ((Nat → Wt) → Value)) := [(2, fun u => .bool false)]
noncomputable def u10d3q (t1 : Bool) (t2 : List S48) (A1 : Option Addr) (c1 : Nat) (t3 : S29 × Int) (A2 : Option Addr) (c2 : Nat) (A3 : Option Addr) (c3 : Nat) (A4 : Option Addr) (c4 : Nat) (nx3 : Nat) (t4 : S29 × Int) (A6 : Option Addr) (c6 : Nat) (A7 : Option Addr) (c7 : Nat) (A8 : Option Addr) (c8 : Nat) (nx5 : Nat) (t5 : List S48) (A9 : Option Addr) (c9 : Nat) (t6 : S29 × Int) (A10 : Option Addr) (c10 : Nat) (A11 : Option Addr) (c11 : Nat) (A12 : Option Addr) (c12 : Nat) (nx10 : Nat) (u : Nat → Wt) : Option (List Value × List (Nat × Value) × List (Nat × Nat)) := qSim Try.prog [] [⟨nx3, [.slice A2 t3.1.f0.length c2, .slice A3 t3.1.f1.length c3, .slice A4 t3.1.f2.length c4], 29⟩, ⟨nx5, [.slice A6 t4.1.f0.length c6, .slice A7 t4.1.f1.length c7, .slice A8 t4.1.f2.length c8], 29⟩, ⟨nx10, [.slice A10 t6.1.f0.length c10, .slice A11 t6.1.f1.length c11, .slice A12 t6.1.f2.length c12], 29⟩] O10_64 ⟨110, []⟩ (Ld.vl u10d3l) u10d3g u [.no, .no, .no, .no, .no, .no, .no, .no] 0 (O10_64.take 8) [(15, i6 t6.2), (14, pt nx10 0), (13, .slice A9 t5.length c9), (5, .bool t1), (6, .slice A1 t2.length c1), (7, pt nx3 0)]
noncomputable def u10d3s (t6 : S29 × Int) (u : Nat → Wt) : List Value := [i6 t6.2, .bool (t6.2 == 0), .bool false, undef, undef, undef, undef, undef]
noncomputable def u10d3f (t1 : Bool) (t2 : List S48) (A1 : Option Addr) (c1 : Nat) (nx3 : Nat) (t5 : List S48) (A9 : Option Addr) (c9 : Nat) (t6 : S29 × Int) (nx10 : Nat) (i : Nat) (u : Nat → Wt) : List (Nat × Value) := foldPut ⟨110, []⟩ [(15, i6 t6.2), (14, pt nx10 0), (13, .slice A9 t5.length c9), (5, .bool t1), (6, .slice A1 t2.length c1), (7, pt nx3 0)] (O10_64.take i) (((u10d3s t6) u).take i)
theorem u10d3v (t1 : Bool) (t2 : List S48) (A1 : Option Addr) (c1 : Nat) (t3 : S29 × Int) (A2 : Option Addr) (c2 : Nat) (A3 : Option Addr) (c3 : Nat) (A4 : Option Addr) (c4 : Nat) (nx3 : Nat) (t4 : S29 × Int) (A6 : Option Addr) (c6 : Nat) (A7 : Option Addr) (c7 : Nat) (A8 : Option Addr) (c8 : Nat) (nx5 : Nat) (t5 : List S48) (A9 : Option Addr) (c9 : Nat) (t6 : S29 × Int) (A10 : Option Addr) (c10 : Nat) (A11 : Option Addr) (c11 : Nat) (A12 : Option Addr) (c12 : Nat) (nx10 : Nat) (u : Nat → Wt) : (u10d3q t1 t2 A1 c1 t3 A2 c2 A3 c3 A4 c4 nx3 t4 A6 c6 A7 c7 A8 c8 nx5 t5 A9 c9 t6 A10 c10 A11 c11 A12 c12 nx10 u).map (fun x => (x.1, x.2.1)) = some ((u10d3s t6) u, (u10d3f t1 t2 A1 c1 nx3 t5 A9 c9 t6 nx10 8) u) := by kernel_rfl
theorem u10d3e (t1 : Bool) (t2 : List S48) (A1 : Option Addr) (c1 : Nat) (t3 : S29 × Int) (A2 : Option Addr) (c2 : Nat) (A3 : Option Addr) (c3 : Nat) (A4 : Option Addr) (c4 : Nat) (nx3 : Nat) (t4 : S29 × Int) (A6 : Option Addr) (c6 : Nat) (A7 : Option Addr) (c7 : Nat) (A8 : Option Addr) (c8 : Nat) (nx5 : Nat) (t5 : List S48) (A9 : Option Addr) (c9 : Nat) (t6 : S29 × Int) (A10 : Option Addr) (c10 : Nat) (A11 : Option Addr) (c11 : Nat) (A12 : Option Addr) (c12 : Nat) (nx10 : Nat) (u : Nat → Wt) : (u10d3q t1 t2 A1 c1 t3 A2 c2 A3 c3 A4 c4 nx3 t4 A6 c6 A7 c7 A8 c8 nx5 t5 A9 c9 t6 A10 c10 A11 c11 A12 c12 nx10 u).map (fun x => x.2.2.map (·.1)) = (u10d3q t1 t2 A1 c1 t3 A2 c2 A3 c3 A4 c4 nx3 t4 A6 c6 A7 c7 A8 c8 nx5 t5 A9 c9 t6 A10 c10 A11 c11 A12 c12 nx10 u).map (fun x => x.2.2.map (·.2)) := by kernel_rfl
noncomputable def a10_49n : List Nat := [0, 1, 3, 7, 15, 31, 63, 31, 159, 31, 543, 1567, 3999, 8191, 16383, 32767, 65535]
theorem a10_49 : ancs O10_49 [] = a10_49n := by kernel_rfl
theorem a10_49o : drawOk O10_49 a10_49n 13 = true := by kernel_rfl
noncomputable def u10d4l  : List Ld :=
 []
noncomputable def u10d4g  : List (Nat × ((Nat → Wt) → Value)) := [(4, fun u => .bool true)]
noncomputable def u10d4q (a1 : Int) (t1 : Bool) (t2 : List S48) (A1 : Option Addr) (c1 : Nat) (t3 : S29 × Int) (A2 : Option Addr) (c2 : Nat) (A3 : Option Addr) (c3 : Nat) (A4 : Option Addr) (c4 : Nat) (nx3 : Nat) (t4 : S29 × Int) (A6 : Option Addr) (c6 : Nat) (A7 : Option Addr) (c7 : Nat) (A8 : Option Addr) (c8 : Nat) (nx5 : Nat) (x2 : Bool) (u : Nat → Wt) : Option (List Value × List (Nat × Value) × List (Nat × Nat)) := qSim Try.prog [] [⟨nx3, [.slice A2 t3.1.f0.length c2, .slice A3 t3.1.f1.length c3, .slice A4 t3.1.f2.length c4], 29⟩, ⟨nx5, [.slice A6 t4.1.f0.length c6, .slice A7 t4.1.f1.length c7, .slice A8 t4.1.f2.length c8], 29⟩] O10_49 ⟨110, []⟩ (Ld.vl u10d4l) u10d4g u [.no, .l 0, .no, .no, .no, .no, .no, .no, .no, .no, .no, .no, .no] 0 (O10_49.take 13) [(1, .int .u8 a1), (5, .bool t1), (6, .slice A1 t2.length c1), (7, pt nx3 0), (60, .bool x2)]
noncomputable def u10d4s (t3 : S29 × Int) (A2 : Option Addr) (c2 : Nat) (nx3 : Nat) (u : Nat → Wt) : List Value := [pt nx3 0, .slice A2 t3.1.f0.length c2, i6 (t3.1.f0.length : Int), .bool ((t3.1.f0.length : Int) == 0), .bool true, undef, undef, undef, undef, undef, undef, undef, undef]
noncomputable def u10d4f (a1 : Int) (t1 : Bool) (t2 : List S48) (A1 : Option Addr) (c1 : Nat) (t3 : S29 × Int) (A2 : Option Addr) (c2 : Nat) (nx3 : Nat) (x2 : Bool) (i : Nat) (u : Nat → Wt) : List (Nat × Value) := foldPut ⟨110, []⟩ [(1, .int .u8 a1), (5, .bool t1), (6, .slice A1 t2.length c1), (7, pt nx3 0), (60, .bool x2)] (O10_49.take i) (((u10d4s t3 A2 c2 nx3) u).take i)
theorem u10d4v (a1 : Int) (t1 : Bool) (t2 : List S48) (A1 : Option Addr) (c1 : Nat) (t3 : S29 × Int) (A2 : Option Addr) (c2 : Nat) (A3 : Option Addr) (c3 : Nat) (A4 : Option Addr) (c4 : Nat) (nx3 : Nat) (t4 : S29 × Int) (A6 : Option Addr) (c6 : Nat) (A7 : Option Addr) (c7 : Nat) (A8 : Option Addr) (c8 : Nat) (nx5 : Nat) (x2 : Bool) (u : Nat → Wt) : (u10d4q a1 t1 t2 A1 c1 t3 A2 c2 A3 c3 A4 c4 nx3 t4 A6 c6 A7 c7 A8 c8 nx5 x2 u).map (fun x => (x.1, x.2.1)) = some ((u10d4s t3 A2 c2 nx3) u, (u10d4f a1 t1 t2 A1 c1 t3 A2 c2 nx3 x2 13) u) := by kernel_rfl
theorem u10d4e (a1 : Int) (t1 : Bool) (t2 : List S48) (A1 : Option Addr) (c1 : Nat) (t3 : S29 × Int) (A2 : Option Addr) (c2 : Nat) (A3 : Option Addr) (c3 : Nat) (A4 : Option Addr) (c4 : Nat) (nx3 : Nat) (t4 : S29 × Int) (A6 : Option Addr) (c6 : Nat) (A7 : Option Addr) (c7 : Nat) (A8 : Option Addr) (c8 : Nat) (nx5 : Nat) (x2 : Bool) (u : Nat → Wt) : (u10d4q a1 t1 t2 A1 c1 t3 A2 c2 A3 c3 A4 c4 nx3 t4 A6 c6 A7 c7 A8 c8 nx5 x2 u).map (fun x => x.2.2.map (·.1)) = (u10d4q a1 t1 t2 A1 c1 t3 A2 c2 A3 c3 A4 c4 nx3 t4 A6 c6 A7 c7 A8 c8 nx5 x2 u).map (fun x => x.2.2.map (·.2)) := by kernel_rfl
noncomputable def u10d5l  : List Ld :=
 []
noncomputable def u10d5g (a1 : Int) (t3 : S29 × Int) : List (Nat × ((Nat → Wt) → Value)) := [(4, fun u => .bool false), (12, fun u => i6 ((W .i64 (a1)).tmod (t3.1.f0.length : Int)))]
noncomputable def u10d5q (a1 : Int) (t1 : Bool) (t2 : List S48) (A1 : Option Addr) (c1 : Nat) (t3 : S29 × Int) (A2 : Option Addr) (c2 : Nat) (A3 : Option Addr) (c3 : Nat) (A4 : Option Addr) (c4 : Nat) (nx3 : Nat) (t4 : S29 × Int) (A6 : Option Addr) (c6 : Nat) (A7 : Option Addr) (c7 : Nat) (A8 : Option Addr) (c8 : Nat) (nx5 : Nat) (x2 : Bool) (u : Nat → Wt) : Option (List Value × List (Nat × Value) × List (Nat × Nat)) := qSim Try.prog [] [⟨nx3, [.slice A2 t3.1.f0.length c2, .slice A3 t3.1.f1.length c3, .slice A4 t3.1.f2.length c4], 29⟩, ⟨nx5, [.slice A6 t4.1.f0.length c6, .slice A7 t4.1.f1.length c7, .slice A8 t4.1.f2.length c8], 29⟩] O10_49 ⟨110, []⟩ (Ld.vl u10d5l) (u10d5g a1 t3) u [.no, .l 0, .no, .no, .no, .no, .l 0, .no, .no, .no, .l 0, .no, .no] 0 (O10_49.take 13) [(1, .int .u8 a1), (5, .bool t1), (6, .slice A1 t2.length c1), (7, pt nx3 0), (60, .bool x2)]
noncomputable def u10d5s (a1 : Int) (t3 : S29 × Int) (A2 : Option Addr) (c2 : Nat) (A3 : Option Addr) (c3 : Nat) (nx3 : Nat) (u : Nat → Wt) : List Value := [pt nx3 0, .slice A2 t3.1.f0.length c2, i6 (t3.1.f0.length : Int), .bool ((t3.1.f0.length : Int) == 0), .bool false, pt nx3 1, .slice A3 t3.1.f1.length c3, .int .u8 a1, i6 (W .i64 (a1)), pt nx3 0, .slice A2 t3.1.f0.length c2, i6 (t3.1.f0.length : Int), i6 ((W .i64 (a1)).tmod (t3.1.f0.length : Int))]
noncomputable def u10d5f (a1 : Int) (t1 : Bool) (t2 : List S48) (A1 : Option Addr) (c1 : Nat) (t3 : S29 × Int) (A2 : Option Addr) (c2 : Nat) (A3 : Option Addr) (c3 : Nat) (nx3 : Nat) (x2 : Bool) (i : Nat) (u : Nat → Wt) : List (Nat × Value) := foldPut ⟨110, []⟩ [(1, .int .u8 a1), (5, .bool t1), (6, .slice A1 t2.length c1), (7, pt nx3 0), (60, .bool x2)] (O10_49.take i) (((u10d5s a1 t3 A2 c2 A3 c3 nx3) u).take i)
theorem u10d5v (a1 : Int) (t1 : Bool) (t2 : List S48) (A1 : Option Addr) (c1 : Nat) (t3 : S29 × Int) (A2 : Option Addr) (c2 : Nat) (A3 : Option Addr) (c3 : Nat) (A4 : Option Addr) (c4 : Nat) (nx3 : Nat) (t4 : S29 × Int) (A6 : Option Addr) (c6 : Nat) (A7 : Option Addr) (c7 : Nat) (A8 : Option Addr) (c8 : Nat) (nx5 : Nat) (x2 : Bool) (u : Nat → Wt) : (u10d5q a1 t1 t2 A1 c1 t3 A2 c2 A3 c3 A4 c4 nx3 t4 A6 c6 A7 c7 A8 c8 nx5 x2 u).map (fun x => (x.1, x.2.1)) = some ((u10d5s a1 t3 A2 c2 A3 c3 nx3) u, (u10d5f a1 t1 t2 A1 c1 t3 A2 c2 A3 c3 nx3 x2 13) u) := by kernel_rfl
theorem u10d5e (a1 : Int) (t1 : Bool) (t2 : List S48) (A1 : Option Addr) (c1 : Nat) (t3 : S29 × Int) (A2 : Option Addr) (c2 : Nat) (A3 : Option Addr) (c3 : Nat) (A4 : Option Addr) (c4 : Nat) (nx3 : Nat) (t4 : S29 × Int) (A6 : Option Addr) (c6 : Nat) (A7 : Option Addr) (c7 : Nat) (A8 : Option Addr) (c8 : Nat) (nx5 : Nat) (x2 : Bool) (u : Nat → Wt) : (u10d5q a1 t1 t2 A1 c1 t3 A2 c2 A3 c3 A4 c4 nx3 t4 A6 c6 A7 c7 A8 c8 nx5 x2 u).map (fun x => x.2.2.map (·.1)) = (u10d5q a1 t1 t2 A1 c1 t3 A2 c2 A3 c3 A4 c4 nx3 t4 A6 c6 A7 c7 A8 c8 nx5 x2 u).map (fun x => x.2.2.map (·.2)) := by kernel_rfl
theorem armillarylaw23_AuctionLosers.calls (k : Nat) (I0 : Imm) (a0 : List S48) (Ap0 : Option Addr) (cp0 : Nat) (a1 : Int) (w : World) (hI : I0.at_ w) (hlp0 : a0.length ≤ cp0) (hrp0 : Rd t48 I0 Ap0 a0) (r : Bool) (h : armillarylaw23_AuctionLosers.f k a0 a1 = some r) :
  Calls Try.prog 10 [.slice Ap0 a0.length cp0, .int .u8 a1].toArray w fun e w' => ∃ v, e = .returned v ∧ armillarylaw23_AuctionLosers.Post I0 w r v w' := by
 have H : ((armillarylaw23_sanity.f k ).bind fun t1 => ((armillaryref23_Made.f k a0).bind fun t2 => ((auction_Clear.f k t2).bind fun t3 => ((armillarylaw23_AuctionLosers.l1 t2 k ([] : List S48) (W .i64 ((t2.length : Int) - 1))).bind (armillarylaw23_AuctionLosers.k4 k a1 t1 t2 t3))))) = some r := h
 clear h
 refine calls_body Try.func10 (by kernel_rfl) 110 (by kernel_rfl) (by kernel_rfl) ⟨w, fun _ => False, I0⟩ I0 [] [(0, .slice Ap0 a0.length cp0), (1, .int .u8 a1)] (by kernel_rfl) (Sat.start w _ I0 hI) ?_
 generalize w.heap.size = nx0
 show OK _ K10_0 _ _ _ _ _ _ _ _
 refine OK.sr ?_
 refine RL.st 1 [(0, .slice Ap0 a0.length cp0), (1, .int .u8 a1)] ?_
 refine OK.sr ?_
 obtain ⟨t1, hA1, H⟩ := bnd H
 refine RL.callP 11 [] (some 16) (fun w => armillarylaw23_sanity.Post I0 w t1) (by kernel_rfl) (by kernel_rfl) (fun w hs => armillarylaw23_sanity.calls k I0  w hs.im  t1 hA1) ?_
 rintro w v w' hs ⟨I1, rfl, hg⟩
 have hi1 := hg.le
 refine RL.resume (X' := []) rfl (hs.call hg) ?_
 clear hs hg
 generalize w'.heap.size = nx1
 clear w w'
 refine RL.st 1 [(5, .bool t1), (0, .slice Ap0 a0.length cp0), (1, .int .u8 a1)] ?_
 refine OK.sr ?_
 refine RL.s 1 [(17, .slice Ap0 a0.length cp0), (5, .bool t1), (1, .int .u8 a1)] ?_
 obtain ⟨t2, hA2, H⟩ := bnd H
 refine RL.callP 14 [.slice Ap0 a0.length cp0] (some 18) (fun w => armillaryref23_Made.Post I1 w t2) (by kernel_rfl) (by kernel_rfl) (fun w hs => armillaryref23_Made.calls k I1 a0 Ap0 cp0 w hs.im hlp0 (Rd.ext hi1 hrp0) t2 hA2) ?_
 rintro w v w' hs ⟨I2, A1, c1, cs1, rfl, hg, hp1⟩
 have hi2 := hg.le
 refine RL.resume (X' := [orow 48 3 A1 t2.length c1 cs1]) rfl (hs.call hg) ?_
 clear hs hg
 generalize w'.heap.size = nx2
 clear w w'
 refine RL.st 1 [(6, .slice A1 t2.length c1), (5, .bool t1), (1, .int .u8 a1)] ?_
 refine OK.sr ?_
 refine RL.s 1 [(20, .slice A1 t2.length c1), (6, .slice A1 t2.length c1), (5, .bool t1), (1, .int .u8 a1)] ?_
 refine RL.freeze (e := 48) (sz := 3) (S := A1) (n := t2.length) (cap := c1) 0 (by kernel_rfl) hp1 rfl (fun I3 hi3 hl1 hr1 => ?_)
 skip
 obtain ⟨t3, hA3, H⟩ := bnd H
 refine RL.callP 15 [.slice A1 t2.length c1] (some 21) (fun w => auction_Clear.Post I3 w t3) (by kernel_rfl) (by kernel_rfl) (fun w hs => auction_Clear.calls k I3 t2 A1 c1 w hs.im hl1 hr1 t3 hA3) ?_
 rintro w v w' hs ⟨I4, A2, c2, cs2, A3, c3, cs3, A4, c4, cs4, rfl, hg, hp2, hp3, hp4⟩
 have hi4 := hg.le
 refine RL.resume (X' := [orow 3 1 A2 t3.1.f0.length c2 cs2, orow 3 1 A3 t3.1.f1.length c3 cs3, orow 2 1 A4 t3.1.f2.length c4 cs4]) rfl (hs.call hg) ?_
 clear hs hg
 generalize w'.heap.size = nx3
 clear w w'
 refine RL.freeze (e := 3) (sz := 1) (S := A2) (n := t3.1.f0.length) (cap := c2) 0 (by kernel_rfl) hp2 rfl (fun I5 hi5 hl2 hr2 => ?_)
 skip
 refine RL.freeze (e := 3) (sz := 1) (S := A3) (n := t3.1.f1.length) (cap := c3) 0 (by kernel_rfl) (Reps.ext hi5 hp3) rfl (fun I6 hi6 hl3 hr3 => ?_)
 skip
 refine RL.freeze (e := 2) (sz := 1) (S := A4) (n := t3.1.f2.length) (cap := c4) 0 (by kernel_rfl) (Reps.ext (Imm.le_trans hi5 hi6) hp4) rfl (fun I7 hi7 hl4 hr4 => ?_)
 skip
 refine RL.simP (K' := [(8, i6 t3.2), (7, pt nx3 0), (6, .slice A1 t2.length c1), (5, .bool t1), (1, .int .u8 a1)]) (nx' := nx3 + 1) (L' := [⟨nx3, [.slice A2 t3.1.f0.length c2, .slice A3 t3.1.f1.length c3, .slice A4 t3.1.f2.length c4], 29⟩]) [] (RFacts.nil _ _ _) 6 [.no, .no, .no, .no, .l 0, .no] (by kernel_rfl) (by kernel_rfl) ?_
 refine RL.nt ?_
 refine OK.sr ?_
 refine RL.spt 2 [(9, .slice (some ⟨nx3 + 1, 0, none⟩) 0 0), (8, i6 t3.2), (7, pt nx3 0), (6, .slice A1 t2.length c1), (5, .bool t1), (1, .int .u8 a1)] (nx3 + 2) [⟨nx3, [.slice A2 t3.1.f0.length c2, .slice A3 t3.1.f1.length c3, .slice A4 t3.1.f2.length c4], 29⟩, ⟨nx3 + 1, [], 48⟩] ?_
 refine OK.sq ?_
 refine OK.sr ?_
 refine RL.st 4 [(10, i6 (W .i64 ((t2.length : Int) - 1))), (9, .slice (some ⟨nx3 + 1, 0, none⟩) 0 0), (8, i6 t3.2), (7, pt nx3 0), (6, .slice A1 t2.length c1), (5, .bool t1), (1, .int .u8 a1)] ?_
 refine OK.join (fun K' I' _ L' X' => ∃ (x1 : List S48) (A5 : Option Addr) (c5 : Nat) (cs5 : List Value), K' = [(1, .int .u8 a1), (5, .bool t1), (6, .slice A1 t2.length c1), (7, pt nx3 0), (8, i6 t3.2), (9, .slice A5 x1.length c5)] ∧ L' = [⟨nx3, [.slice A2 t3.1.f0.length c2, .slice A3 t3.1.f1.length c3, .slice A4 t3.1.f2.length c4], 29⟩] ∧ X' = [orow 48 3 A5 x1.length c5 cs5] ∧ Imm.le I7 I' ∧ Reps t48 I' x1 cs5 ∧ armillarylaw23_AuctionLosers.k4 k a1 t1 t2 t3 x1 = some r) ?_ ?_
 ·rintro _ I8 nx4 _ _ ⟨x1, A5, c5, cs5, rfl, rfl, rfl, hi8, hp5, H⟩
  rw [armillarylaw23_AuctionLosers.k4] at H
  refine QN.then_ ?_
  refine OK.sr ?_
  refine RL.s 1 [(40, .slice A5 x1.length c5), (1, .int .u8 a1), (5, .bool t1), (6, .slice A1 t2.length c1), (7, pt nx3 0), (8, i6 t3.2)] ?_
  refine RL.freeze (e := 48) (sz := 3) (S := A5) (n := x1.length) (cap := c5) 0 (by kernel_rfl) hp5 rfl (fun I9 hi9 hl5 hr5 => ?_)
  skip
  obtain ⟨t4, hA4, H⟩ := bnd H
  refine RL.callP 15 [.slice A5 x1.length c5] (some 41) (fun w => auction_Clear.Post I9 w t4) (by kernel_rfl) (by kernel_rfl) (fun w hs => auction_Clear.calls k I9 x1 A5 c5 w hs.im hl5 hr5 t4 hA4) ?_
  rintro w v w' hs ⟨I10, A6, c6, cs6, A7, c7, cs7, A8, c8, cs8, rfl, hg, hp6, hp7, hp8⟩
  have hi10 := hg.le
  refine RL.resume (X' := [orow 3 1 A6 t4.1.f0.length c6 cs6, orow 3 1 A7 t4.1.f1.length c7 cs7, orow 2 1 A8 t4.1.f2.length c8 cs8]) rfl (hs.call hg) ?_
  clear hs hg
  generalize w'.heap.size = nx5
  clear w w'
  refine RL.freeze (e := 3) (sz := 1) (S := A6) (n := t4.1.f0.length) (cap := c6) 0 (by kernel_rfl) hp6 rfl (fun I11 hi11 hl6 hr6 => ?_)
  skip
  refine RL.freeze (e := 3) (sz := 1) (S := A7) (n := t4.1.f1.length) (cap := c7) 0 (by kernel_rfl) (Reps.ext hi11 hp7) rfl (fun I12 hi12 hl7 hr7 => ?_)
  skip
  refine RL.freeze (e := 2) (sz := 1) (S := A8) (n := t4.1.f2.length) (cap := c8) 0 (by kernel_rfl) (Reps.ext (Imm.le_trans hi11 hi12) hp8) rfl (fun I13 hi13 hl8 hr8 => ?_)
  skip
  refine RL.simP (K' := [(12, i6 t4.2), (11, pt nx5 0), (1, .int .u8 a1), (5, .bool t1), (6, .slice A1 t2.length c1), (7, pt nx3 0), (8, i6 t3.2)]) (nx' := nx5 + 1) (L' := [⟨nx3, [.slice A2 t3.1.f0.length c2, .slice A3 t3.1.f1.length c3, .slice A4 t3.1.f2.length c4], 29⟩, ⟨nx5, [.slice A6 t4.1.f0.length c6, .slice A7 t4.1.f1.length c7, .slice A8 t4.1.f2.length c8], 29⟩]) [] (RFacts.nil _ _ _) 6 [.no, .no, .no, .no, .l 1, .no] (by kernel_rfl) (by kernel_rfl) ?_
  refine RL.nt ?_
  refine OK.sq ?_
  refine OK.sq ?_
  refine OK.join (fun K' I' _ L' X' => ∃ (x2 : Bool), K' = [(1, .int .u8 a1), (5, .bool t1), (6, .slice A1 t2.length c1), (7, pt nx3 0), (60, .bool x2)] ∧ L' = [⟨nx3, [.slice A2 t3.1.f0.length c2, .slice A3 t3.1.f1.length c3, .slice A4 t3.1.f2.length c4], 29⟩, ⟨nx5, [.slice A6 t4.1.f0.length c6, .slice A7 t4.1.f1.length c7, .slice A8 t4.1.f2.length c8], 29⟩] ∧ X' = [] ∧ Imm.le I13 I' ∧ armillarylaw23_AuctionLosers.k3 k a1 t1 t2 t3 x2 = some r) ?_ ?_
  ·rintro _ I14 nx6 _ _ ⟨x2, rfl, rfl, rfl, hi14, H⟩
   rw [armillarylaw23_AuctionLosers.k3] at H
   refine QN.then_ ?_
   refine OK.cd x2 (fun hb => ?_) (fun hb => ?_)
   ·skip
    have hc := hb
    rw [if_pos hc] at H
    clear hb
    refine OK.sr ?_
    refine RL.st 1 [(4, .bool false)] ?_
    refine OK.re ?_
    refine QN.thenR ?_
    obtain rfl := Option.some.inj H
    refine QN.body rfl [] (RFacts.nil _ _ _) (.no) (.bool false) (by kernel_rfl) (by kernel_rfl) (by kernel_rfl) ?_ _ (.inr rfl)
    exact fun w' hs' => ⟨_, rfl, I14, rfl, hs'.got _ .slnil⟩
   ·skip
    have hc := (Bool.eq_false_iff.1 hb)
    rw [if_neg hc] at H
    clear hb
    refine OK.skt ?_
    refine OK.sq ?_
    refine OK.sq ?_
    refine OK.join (fun K' I' _ L' X' => ∃ (x3 : Bool), K' = [(1, .int .u8 a1), (5, .bool t1), (6, .slice A1 t2.length c1), (7, pt nx3 0), (77, .bool x3)] ∧ L' = [⟨nx3, [.slice A2 t3.1.f0.length c2, .slice A3 t3.1.f1.length c3, .slice A4 t3.1.f2.length c4], 29⟩, ⟨nx5, [.slice A6 t4.1.f0.length c6, .slice A7 t4.1.f1.length c7, .slice A8 t4.1.f2.length c8], 29⟩] ∧ X' = [] ∧ Imm.le I14 I' ∧ armillarylaw23_AuctionLosers.k2 k a1 t1 t2 t3 x3 = some r) ?_ ?_
    ·rintro _ I15 nx7 _ _ ⟨x3, rfl, rfl, rfl, hi15, H⟩
     rw [armillarylaw23_AuctionLosers.k2] at H
     refine QN.then_ ?_
     refine OK.cd x3 (fun hb => ?_) (fun hb => ?_)
     ·skip
      have hc := hb
      rw [if_pos hc] at H
      clear hb
      refine OK.sr ?_
      refine RL.st 2 [(4, .bool t1)] ?_
      refine OK.re ?_
      refine QN.thenR ?_
      obtain rfl := Option.some.inj H
      refine QN.body rfl [] (RFacts.nil _ _ _) (.no) (.bool t1) (by kernel_rfl) (by kernel_rfl) (by kernel_rfl) ?_ _ (.inr rfl)
      exact fun w' hs' => ⟨_, rfl, I15, rfl, hs'.got _ .slnil⟩
     ·skip
      have hc := (Bool.eq_false_iff.1 hb)
      rw [if_neg hc] at H
      clear hb
      refine OK.skt ?_
      refine OK.sq ?_
      by_cases hc1 : (t3.1.f0.length : Int) = 0
      ·rw [if_pos hc1] at H; cases H
      rw [if_neg hc1] at H
      obtain ⟨hi0_1, H⟩ := ifs H
      obtain ⟨hi1_1, H⟩ := ifs H
      obtain ⟨g1_, o1_, hA1_, hc1_⟩ := Ty.int_at (Rd.ext (Imm.le_trans (Imm.le_trans (Imm.le_trans (Imm.le_trans (Imm.le_trans (Imm.le_trans (Imm.le_trans (Imm.le_trans (Imm.le_trans hi6 hi7) hi8) hi9) hi10) hi11) hi12) hi13) hi14) hi15) hr2) ((W .i64 (a1)).tmod (t3.1.f0.length : Int)) hi0_1 hi1_1
      refine OK.drawnC 14 11 O10_58 a10_58n (by kernel_rfl) (by kernel_rfl) u10d1l (u10d1g a1 t3 g1_ o1_) [(⟨g1_, o1_ + ((W .i64 (a1)).tmod (t3.1.f0.length : Int)).toNat * 1, none⟩, i6 (t3.1.f0.getD ((W .i64 (a1)).tmod (t3.1.f0.length : Int)).toNat 0))] (RI.cons (hc1_ 0 _ rfl) (RI.nil _)) [.no, .no, .l 0, .no, .no, .no, .l 0, .no, .no, .no, .r 0] a10_58 a10_58o (by kernel_rfl) (by kernel_rfl) (u10d1s a1 t2 A1 c1 t3 A2 c2 nx3 g1_ o1_) (u10d1f a1 t1 t2 A1 c1 t3 A2 c2 nx3 x3 g1_ o1_ 11) (u10d1v a1 t1 t2 A1 c1 t3 A2 c2 A3 c3 A4 c4 nx3 t4 A6 c6 A7 c7 A8 c8 nx5 x3 g1_ o1_) (u10d1e a1 t1 t2 A1 c1 t3 A2 c2 A3 c3 A4 c4 nx3 t4 A6 c6 A7 c7 A8 c8 nx5 x3 g1_ o1_) [] framesOk.nil ?_ [u10d1f a1 t1 t2 A1 c1 t3 A2 c2 nx3 x3 g1_ o1_ 8, u10d1f a1 t1 t2 A1 c1 t3 A2 c2 nx3 x3 g1_ o1_ 9] (framesOk.cons (fun u => rfl) (framesOk.cons (fun u => rfl) framesOk.nil)) ?_ ?_
      ·refine LoudsG.nil
      ·refine Givens.cons (fun u w =>  ?_) (fun _ _ _ => rfl) (Givens.cons (fun u w =>  ?_) (fun _ _ _ => rfl) (Givens.nil))
       ·exact giv_rem .i64 (W .i64 (a1)) (t3.1.f0.length : Int) (by kernel_rfl) hc1 w
       ·exact giv_idx (T := 26) (e := 3) 1 .i64 ((W .i64 (a1)).tmod (t3.1.f0.length : Int)) hA1_ t3.1.f0.length c2 (by kernel_rfl) (by kernel_rfl) (by kernel_rfl) hi0_1 hi1_1 w
      intro u I16 nx8 hi16 hF
      clear hF
      refine RL.norm (K' := [(89, i6 (t3.1.f0.getD ((W .i64 (a1)).tmod (t3.1.f0.length : Int)).toNat 0)), (88, pt g1_ (o1_ + ((W .i64 (a1)).tmod (t3.1.f0.length : Int)).toNat * 1)), (87, i6 ((W .i64 (a1)).tmod (t3.1.f0.length : Int))), (86, i6 (t3.1.f0.length : Int)), (85, .slice A2 t3.1.f0.length c2), (84, pt nx3 0), (83, i6 (W .i64 (a1))), (82, .int .u8 a1), (81, .slice A2 t3.1.f0.length c2), (80, pt nx3 0), (79, .slice A1 t2.length c1), (1, .int .u8 a1), (5, .bool t1), (6, .slice A1 t2.length c1), (7, pt nx3 0), (77, .bool x3)]) (X' := []) (by kernel_rfl) rfl rfl rfl ?_
      obtain ⟨t5, hA5, H⟩ := bnd H
      refine RL.callP 27 [.slice A1 t2.length c1, i6 (t3.1.f0.getD ((W .i64 (a1)).tmod (t3.1.f0.length : Int)).toNat 0)] (some 90) (fun w => armillaryref23_Except.Post I16 w t5) (by kernel_rfl) (by kernel_rfl) (fun w hs => armillaryref23_Except.calls k I16 t2 A1 c1 (t3.1.f0.getD ((W .i64 (a1)).tmod (t3.1.f0.length : Int)).toNat 0) w hs.im hl1 (Rd.ext (Imm.le_trans (Imm.le_trans (Imm.le_trans (Imm.le_trans (Imm.le_trans (Imm.le_trans (Imm.le_trans (Imm.le_trans (Imm.le_trans (Imm.le_trans (Imm.le_trans (Imm.le_trans hi4 hi5) hi6) hi7) hi8) hi9) hi10) hi11) hi12) hi13) hi14) hi15) hi16) hr1) t5 hA5) ?_
      rintro w v w' hs ⟨I17, A9, c9, cs9, rfl, hg, hp9⟩
      have hi17 := hg.le
      refine RL.resume (X' := [orow 48 3 A9 t5.length c9 cs9]) rfl (hs.call hg) ?_
      clear hs hg
      generalize w'.heap.size = nx9
      clear w w'
      refine RL.st 1 [(13, .slice A9 t5.length c9), (5, .bool t1), (6, .slice A1 t2.length c1), (7, pt nx3 0)] ?_
      refine OK.sr ?_
      refine RL.s 1 [(92, .slice A9 t5.length c9), (13, .slice A9 t5.length c9), (5, .bool t1), (6, .slice A1 t2.length c1), (7, pt nx3 0)] ?_
      refine RL.freeze (e := 48) (sz := 3) (S := A9) (n := t5.length) (cap := c9) 0 (by kernel_rfl) hp9 rfl (fun I18 hi18 hl9 hr9 => ?_)
      skip
      obtain ⟨t6, hA6, H⟩ := bnd H
      refine RL.callP 15 [.slice A9 t5.length c9] (some 93) (fun w => auction_Clear.Post I18 w t6) (by kernel_rfl) (by kernel_rfl) (fun w hs => auction_Clear.calls k I18 t5 A9 c9 w hs.im hl9 hr9 t6 hA6) ?_
      rintro w v w' hs ⟨I19, A10, c10, cs10, A11, c11, cs11, A12, c12, cs12, rfl, hg, hp10, hp11, hp12⟩
      have hi19 := hg.le
      refine RL.resume (X' := [orow 3 1 A10 t6.1.f0.length c10 cs10, orow 3 1 A11 t6.1.f1.length c11 cs11, orow 2 1 A12 t6.1.f2.length c12 cs12]) rfl (hs.call hg) ?_
      clear hs hg
      generalize w'.heap.size = nx10
      clear w w'
      refine RL.freeze (e := 3) (sz := 1) (S := A10) (n := t6.1.f0.length) (cap := c10) 0 (by kernel_rfl) hp10 rfl (fun I20 hi20 hl10 hr10 => ?_)
      skip
      refine RL.freeze (e := 3) (sz := 1) (S := A11) (n := t6.1.f1.length) (cap := c11) 0 (by kernel_rfl) (Reps.ext hi20 hp11) rfl (fun I21 hi21 hl11 hr11 => ?_)
      skip
      refine RL.freeze (e := 2) (sz := 1) (S := A12) (n := t6.1.f2.length) (cap := c12) 0 (by kernel_rfl) (Reps.ext (Imm.le_trans hi20 hi21) hp12) rfl (fun I22 hi22 hl12 hr12 => ?_)
      skip
      refine RL.simP (K' := [(15, i6 t6.2), (14, pt nx10 0), (13, .slice A9 t5.length c9), (5, .bool t1), (6, .slice A1 t2.length c1), (7, pt nx3 0)]) (nx' := nx10 + 1) (L' := [⟨nx3, [.slice A2 t3.1.f0.length c2, .slice A3 t3.1.f1.length c3, .slice A4 t3.1.f2.length c4], 29⟩, ⟨nx5, [.slice A6 t4.1.f0.length c6, .slice A7 t4.1.f1.length c7, .slice A8 t4.1.f2.length c8], 29⟩, ⟨nx10, [.slice A10 t6.1.f0.length c10, .slice A11 t6.1.f1.length c11, .slice A12 t6.1.f2.length c12], 29⟩]) [] (RFacts.nil _ _ _) 6 [.no, .no, .no, .no, .l 2, .no] (by kernel_rfl) (by kernel_rfl) ?_
      refine RL.nt ?_
      refine OK.sq ?_
      refine OK.join (fun K' I' _ L' X' => ∃ (x4 : Bool), K' = [(4, .bool x4)] ∧ L' = [⟨nx3, [.slice A2 t3.1.f0.length c2, .slice A3 t3.1.f1.length c3, .slice A4 t3.1.f2.length c4], 29⟩, ⟨nx5, [.slice A6 t4.1.f0.length c6, .slice A7 t4.1.f1.length c7, .slice A8 t4.1.f2.length c8], 29⟩, ⟨nx10, [.slice A10 t6.1.f0.length c10, .slice A11 t6.1.f1.length c11, .slice A12 t6.1.f2.length c12], 29⟩] ∧ X' = [] ∧ Imm.le I22 I' ∧ armillarylaw23_AuctionLosers.k1 x4 = some r) ?_ ?_
      ·rintro _ I23 nx11 _ _ ⟨x4, rfl, rfl, rfl, hi23, H⟩
       rw [armillarylaw23_AuctionLosers.k1] at H
       refine QN.then_ ?_
       refine OK.re ?_
       obtain rfl := Option.some.inj H
       refine QN.body rfl [] (RFacts.nil _ _ _) (.no) (.bool x4) (by kernel_rfl) (by kernel_rfl) (by kernel_rfl) ?_ _ (.inr rfl)
       exact fun w' hs' => ⟨_, rfl, I23, rfl, hs'.got _ .slnil⟩
      ·intro Q_1 hJ4 hQ4
       obtain ⟨y4, H, HK4⟩ := bnd H
       refine OK.cases (t6.2 == 0) (fun hb1 => ?_) (fun hb1 => ?_)
       ·have hc2 := (beq_iff_eq.1 hb1)
        rw [if_pos hc2] at H
        obtain ⟨t7, hA7, H⟩ := bnd H
        refine OK.drawnC 16 8 O10_64 a10_64n (by kernel_rfl) (by kernel_rfl) (u10d2l t7) u10d2g [] (RI.nil _) [.no, .no, .no, .no, .l 2, .no, .no, .l 0] a10_64 a10_64o (by kernel_rfl) (by kernel_rfl) (u10d2s t2 A1 c1 t3 A2 c2 A3 c3 A4 c4 t5 A9 c9 t6 A10 c10 A11 c11 A12 c12 t7) (u10d2f t1 t2 A1 c1 t3 A2 c2 A3 c3 A4 c4 nx3 t5 A9 c9 t6 A10 c10 A11 c11 A12 c12 nx10 t7 8) (u10d2v t1 t2 A1 c1 t3 A2 c2 A3 c3 A4 c4 nx3 t4 A6 c6 A7 c7 A8 c8 nx5 t5 A9 c9 t6 A10 c10 A11 c11 A12 c12 nx10 t7) (u10d2e t1 t2 A1 c1 t3 A2 c2 A3 c3 A4 c4 nx3 t4 A6 c6 A7 c7 A8 c8 nx5 t5 A9 c9 t6 A10 c10 A11 c11 A12 c12 nx10 t7) [u10d2f t1 t2 A1 c1 t3 A2 c2 A3 c3 A4 c4 nx3 t5 A9 c9 t6 A10 c10 A11 c11 A12 c12 nx10 t7 5] (framesOk.cons (fun u => rfl) framesOk.nil) ?_ [u10d2f t1 t2 A1 c1 t3 A2 c2 A3 c3 A4 c4 nx3 t5 A9 c9 t6 A10 c10 A11 c11 A12 c12 nx10 t7 2] (framesOk.cons (fun u => rfl) framesOk.nil) ?_ ?_
        ·refine LoudsG.cons ?_ (LoudsG.nil)
         ·intro D u J w hp hJ hs hF
          refine Does.call 23 [.slice A9 t5.length c9, .agg #[.slice A10 t6.1.f0.length c10, .slice A11 t6.1.f1.length c11, .slice A12 t6.1.f2.length c12]] (by kernel_rfl) ((auction_Welfare.calls k J t5 A9 c9 t6.1 A10 c10 A11 c11 A12 c12 w hs.im hl9 (Rd.ext (Imm.le_trans (Imm.le_trans (Imm.le_trans (Imm.le_trans hi19 hi20) hi21) hi22) hJ) hr9) hl10 (Rd.ext (Imm.le_trans (Imm.le_trans hi21 hi22) hJ) hr10) hl11 (Rd.ext (Imm.le_trans hi22 hJ) hr11) hl12 (Rd.ext hJ hr12) t7 hA7).mono ?_)
          rintro e w' ⟨v, rfl, J2, rfl, hg⟩
          exact ⟨_, rfl, fun _ => (none, 0, []), J2, rfl, hg, trivial⟩
        ·refine Givens.cons (fun u w =>  ?_) (fun _ _ _ => rfl) (Givens.nil)
         ·exact giv_run (v := .bool (t6.2 == 0)) (by kernel_rfl) (by rw [hb1]; try rfl) w
        intro u I24 nx12 hi24 hF
        clear hF
        refine RL.norm (K' := [(103, .agg #[.slice A2 t3.1.f0.length c2, .slice A3 t3.1.f1.length c3, .slice A4 t3.1.f2.length c4]), (102, .slice A1 t2.length c1), (101, i6 t7), (100, .agg #[.slice A10 t6.1.f0.length c10, .slice A11 t6.1.f1.length c11, .slice A12 t6.1.f2.length c12]), (99, .slice A9 t5.length c9), (98, .bool true), (97, .bool (t6.2 == 0)), (96, i6 t6.2), (15, i6 t6.2), (14, pt nx10 0), (13, .slice A9 t5.length c9), (5, .bool t1), (6, .slice A1 t2.length c1), (7, pt nx3 0)]) (X' := []) (by kernel_rfl) rfl rfl rfl ?_
        obtain ⟨t8, hA8, H⟩ := bnd H
        refine RL.callP 23 [.slice A1 t2.length c1, .agg #[.slice A2 t3.1.f0.length c2, .slice A3 t3.1.f1.length c3, .slice A4 t3.1.f2.length c4]] (some 104) (fun w => auction_Welfare.Post I24 w t8) (by kernel_rfl) (by kernel_rfl) (fun w hs => auction_Welfare.calls k I24 t2 A1 c1 t3.1 A2 c2 A3 c3 A4 c4 w hs.im hl1 (Rd.ext (Imm.le_trans (Imm.le_trans (Imm.le_trans (Imm.le_trans (Imm.le_trans (Imm.le_trans (Imm.le_trans (Imm.le_trans (Imm.le_trans (Imm.le_trans (Imm.le_trans (Imm.le_trans (Imm.le_trans (Imm.le_trans (Imm.le_trans (Imm.le_trans (Imm.le_trans (Imm.le_trans (Imm.le_trans hi4 hi5) hi6) hi7) hi8) hi9) hi10) hi11) hi12) hi13) hi14) hi15) hi16) hi17) hi18) hi19) hi20) hi21) hi22) hi24) hr1) hl2 (Rd.ext (Imm.le_trans (Imm.le_trans (Imm.le_trans (Imm.le_trans (Imm.le_trans (Imm.le_trans (Imm.le_trans (Imm.le_trans (Imm.le_trans (Imm.le_trans (Imm.le_trans (Imm.le_trans (Imm.le_trans (Imm.le_trans (Imm.le_trans (Imm.le_trans (Imm.le_trans hi6 hi7) hi8) hi9) hi10) hi11) hi12) hi13) hi14) hi15) hi16) hi17) hi18) hi19) hi20) hi21) hi22) hi24) hr2) hl3 (Rd.ext (Imm.le_trans (Imm.le_trans (Imm.le_trans (Imm.le_trans (Imm.le_trans (Imm.le_trans (Imm.le_trans (Imm.le_trans (Imm.le_trans (Imm.le_trans (Imm.le_trans (Imm.le_trans (Imm.le_trans (Imm.le_trans (Imm.le_trans (Imm.le_trans hi7 hi8) hi9) hi10) hi11) hi12) hi13) hi14) hi15) hi16) hi17) hi18) hi19) hi20) hi21) hi22) hi24) hr3) hl4 (Rd.ext (Imm.le_trans (Imm.le_trans (Imm.le_trans (Imm.le_trans (Imm.le_trans (Imm.le_trans (Imm.le_trans (Imm.le_trans (Imm.le_trans (Imm.le_trans (Imm.le_trans (Imm.le_trans (Imm.le_trans (Imm.le_trans (Imm.le_trans hi8 hi9) hi10) hi11) hi12) hi13) hi14) hi15) hi16) hi17) hi18) hi19) hi20) hi21) hi22) hi24) hr4) t8 hA8) ?_
        rintro w v w' hs ⟨I25, rfl, hg⟩
        have hi25 := hg.le
        refine RL.resume (X' := []) rfl (hs.call hg) ?_
        clear hs hg
        generalize w'.heap.size = nx13
        clear w w'
        refine RL.s 3 [(107, .bool (t7 == t8)), (5, .bool t1)] ?_
        refine RL.cases (t7 == t8) (fun hb => ?_) (fun hb => ?_)
        ·have hc := (beq_iff_eq.1 hb)
         rw [hb]
         rw [if_pos hc] at H; clear hb
         refine RL.s 3 [(4, .bool t1)] ?_
         refine RL.nil (by kernel_rfl) ?_
         obtain rfl := Option.some.inj H
         exact QN.sb (hJ4 _ _ _ _ _ ⟨t1, rfl, rfl, rfl, (Imm.le_trans hi24 hi25), HK4⟩) (.cons_cons _ (.cons_cons _ (.cons_cons _ .slnil))) (.refl _)
        ·have hc := (beq_eq_false_iff_ne.1 hb)
         rw [hb]
         rw [if_neg hc] at H; clear hb
         refine RL.s 3 [(4, .bool false)] ?_
         refine RL.nil (by kernel_rfl) ?_
         obtain rfl := Option.some.inj H
         exact QN.sb (hJ4 _ _ _ _ _ ⟨false, rfl, rfl, rfl, (Imm.le_trans hi24 hi25), HK4⟩) (.cons_cons _ (.cons_cons _ (.cons_cons _ .slnil))) (.refl _)
       ·have hc2 := (beq_eq_false_iff_ne.1 hb1)
        rw [if_neg hc2] at H
        refine OK.drawnC 16 8 O10_64 a10_64n (by kernel_rfl) (by kernel_rfl) u10d3l u10d3g [] (RI.nil _) [.no, .no, .no, .no, .no, .no, .no, .no] a10_64 a10_64o (by kernel_rfl) (by kernel_rfl) (u10d3s t6) (u10d3f t1 t2 A1 c1 nx3 t5 A9 c9 t6 nx10 8) (u10d3v t1 t2 A1 c1 t3 A2 c2 A3 c3 A4 c4 nx3 t4 A6 c6 A7 c7 A8 c8 nx5 t5 A9 c9 t6 A10 c10 A11 c11 A12 c12 nx10) (u10d3e t1 t2 A1 c1 t3 A2 c2 A3 c3 A4 c4 nx3 t4 A6 c6 A7 c7 A8 c8 nx5 t5 A9 c9 t6 A10 c10 A11 c11 A12 c12 nx10) [] framesOk.nil ?_ [u10d3f t1 t2 A1 c1 nx3 t5 A9 c9 t6 nx10 2] (framesOk.cons (fun u => rfl) framesOk.nil) ?_ ?_
        ·refine LoudsG.nil
        ·refine Givens.cons (fun u w =>  ?_) (fun _ _ _ => rfl) (Givens.nil)
         ·exact giv_run (v := .bool (t6.2 == 0)) (by kernel_rfl) (by rw [hb1]; try rfl) w
        intro u I26 nx14 hi26 hF
        clear hF
        refine RL.norm (K' := [(103, undef), (102, undef), (101, undef), (100, undef), (99, undef), (98, .bool false), (97, .bool (t6.2 == 0)), (96, i6 t6.2), (15, i6 t6.2), (14, pt nx10 0), (13, .slice A9 t5.length c9), (5, .bool t1), (6, .slice A1 t2.length c1), (7, pt nx3 0)]) (X' := []) (by kernel_rfl) rfl rfl rfl ?_
        refine RL.s 7 [(4, .bool false)] ?_
        refine RL.nil (by kernel_rfl) ?_
        obtain rfl := Option.some.inj H
        exact QN.sb (hJ4 _ _ _ _ _ ⟨false, rfl, rfl, rfl, hi26, HK4⟩) (.cons_cons _ (.cons_cons _ (.cons_cons _ .slnil))) (.refl _)
    ·intro Q_2 hJ3 hQ3
     obtain ⟨y3, H, HK3⟩ := bnd H
     refine OK.cases ((t3.1.f0.length : Int) == 0) (fun hb2 => ?_) (fun hb2 => ?_)
     ·have hc3 := (beq_iff_eq.1 hb2)
      rw [if_pos hc3] at H
      refine OK.drawnC 12 13 O10_49 a10_49n (by kernel_rfl) (by kernel_rfl) u10d4l u10d4g [] (RI.nil _) [.no, .l 0, .no, .no, .no, .no, .no, .no, .no, .no, .no, .no, .no] a10_49 a10_49o (by kernel_rfl) (by kernel_rfl) (u10d4s t3 A2 c2 nx3) (u10d4f a1 t1 t2 A1 c1 t3 A2 c2 nx3 x2 13) (u10d4v a1 t1 t2 A1 c1 t3 A2 c2 A3 c3 A4 c4 nx3 t4 A6 c6 A7 c7 A8 c8 nx5 x2) (u10d4e a1 t1 t2 A1 c1 t3 A2 c2 A3 c3 A4 c4 nx3 t4 A6 c6 A7 c7 A8 c8 nx5 x2) [] framesOk.nil ?_ [u10d4f a1 t1 t2 A1 c1 t3 A2 c2 nx3 x2 4] (framesOk.cons (fun u => rfl) framesOk.nil) ?_ ?_
      ·refine LoudsG.nil
      ·refine Givens.cons (fun u w =>  ?_) (fun _ _ _ => rfl) (Givens.nil)
       ·exact giv_run (v := .bool ((t3.1.f0.length : Int) == 0)) (by kernel_rfl) (by rw [hb2]; try rfl) w
      intro u I27 nx15 hi27 hF
      clear hF
      refine RL.norm (K' := [(73, undef), (72, undef), (71, undef), (70, undef), (69, undef), (68, undef), (67, undef), (66, undef), (65, .bool true), (64, .bool ((t3.1.f0.length : Int) == 0)), (63, i6 (t3.1.f0.length : Int)), (62, .slice A2 t3.1.f0.length c2), (61, pt nx3 0), (1, .int .u8 a1), (5, .bool t1), (6, .slice A1 t2.length c1), (7, pt nx3 0), (60, .bool x2)]) (X' := []) (by kernel_rfl) rfl rfl rfl ?_
      refine RL.s 4 [(77, .bool true), (1, .int .u8 a1), (5, .bool t1), (6, .slice A1 t2.length c1), (7, pt nx3 0)] ?_
      refine RL.nil (by kernel_rfl) ?_
      obtain rfl := Option.some.inj H
      exact QN.sb (hJ3 _ _ _ _ _ ⟨true, rfl, rfl, rfl, hi27, HK3⟩) (.cons_cons _ (.cons_cons _ .slnil)) (.refl _)
     ·have hc3 := (beq_eq_false_iff_ne.1 hb2)
      rw [if_neg hc3] at H
      by_cases hc4 : (t3.1.f0.length : Int) = 0
      ·rw [if_pos hc4] at H; cases H
      rw [if_neg hc4] at H
      refine OK.drawnC 12 13 O10_49 a10_49n (by kernel_rfl) (by kernel_rfl) u10d5l (u10d5g a1 t3) [] (RI.nil _) [.no, .l 0, .no, .no, .no, .no, .l 0, .no, .no, .no, .l 0, .no, .no] a10_49 a10_49o (by kernel_rfl) (by kernel_rfl) (u10d5s a1 t3 A2 c2 A3 c3 nx3) (u10d5f a1 t1 t2 A1 c1 t3 A2 c2 A3 c3 nx3 x2 13) (u10d5v a1 t1 t2 A1 c1 t3 A2 c2 A3 c3 A4 c4 nx3 t4 A6 c6 A7 c7 A8 c8 nx5 x2) (u10d5e a1 t1 t2 A1 c1 t3 A2 c2 A3 c3 A4 c4 nx3 t4 A6 c6 A7 c7 A8 c8 nx5 x2) [] framesOk.nil ?_ [u10d5f a1 t1 t2 A1 c1 t3 A2 c2 A3 c3 nx3 x2 4, u10d5f a1 t1 t2 A1 c1 t3 A2 c2 A3 c3 nx3 x2 12] (framesOk.cons (fun u => rfl) (framesOk.cons (fun u => rfl) framesOk.nil)) ?_ ?_
      ·refine LoudsG.nil
      ·refine Givens.cons (fun u w =>  ?_) (fun _ _ _ => rfl) (Givens.cons (fun u w =>  ?_) (fun _ _ _ => rfl) (Givens.nil))
       ·exact giv_run (v := .bool ((t3.1.f0.length : Int) == 0)) (by kernel_rfl) (by rw [hb2]; try rfl) w
       ·exact giv_rem .i64 (W .i64 (a1)) (t3.1.f0.length : Int) (by kernel_rfl) hc4 w
      intro u I28 nx16 hi28 hF
      clear hF
      refine RL.norm (K' := [(73, i6 ((W .i64 (a1)).tmod (t3.1.f0.length : Int))), (72, i6 (t3.1.f0.length : Int)), (71, .slice A2 t3.1.f0.length c2), (70, pt nx3 0), (69, i6 (W .i64 (a1))), (68, .int .u8 a1), (67, .slice A3 t3.1.f1.length c3), (66, pt nx3 1), (65, .bool false), (64, .bool ((t3.1.f0.length : Int) == 0)), (63, i6 (t3.1.f0.length : Int)), (62, .slice A2 t3.1.f0.length c2), (61, pt nx3 0), (1, .int .u8 a1), (5, .bool t1), (6, .slice A1 t2.length c1), (7, pt nx3 0), (60, .bool x2)]) (X' := []) (by kernel_rfl) rfl rfl rfl ?_
      obtain ⟨hib0, H⟩ := ifs H
      obtain ⟨hib1, H⟩ := ifs H
      obtain ⟨g2_, o2_, hA2_, hc2_⟩ := Ty.int_at (Rd.ext (Imm.le_trans (Imm.le_trans (Imm.le_trans (Imm.le_trans (Imm.le_trans (Imm.le_trans (Imm.le_trans (Imm.le_trans hi7 hi8) hi9) hi10) hi11) hi12) hi13) hi14) hi28) hr3) ((W .i64 (a1)).tmod (t3.1.f0.length : Int)) hib0 hib1
      refine RL.idx 1 .i64 ((W .i64 (a1)).tmod (t3.1.f0.length : Int)) hA2_ t3.1.f1.length c3 (some 74) (by kernel_rfl) (by kernel_rfl) (T := 26) (e := 3) (by kernel_rfl) (by kernel_rfl) hib0 hib1 (K' := [(74, pt g2_ (o2_ + ((W .i64 (a1)).tmod (t3.1.f0.length : Int)).toNat * 1)), (73, i6 ((W .i64 (a1)).tmod (t3.1.f0.length : Int))), (72, i6 (t3.1.f0.length : Int)), (71, .slice A2 t3.1.f0.length c2), (70, pt nx3 0), (69, i6 (W .i64 (a1))), (68, .int .u8 a1), (67, .slice A3 t3.1.f1.length c3), (66, pt nx3 1), (65, .bool false), (64, .bool ((t3.1.f0.length : Int) == 0)), (63, i6 (t3.1.f0.length : Int)), (62, .slice A2 t3.1.f0.length c2), (61, pt nx3 0), (1, .int .u8 a1), (5, .bool t1), (6, .slice A1 t2.length c1), (7, pt nx3 0), (60, .bool x2)]) (by kernel_rfl) ?_
      refine RL.simK (K' := [(77, .bool (decide ((t3.1.f1.getD ((W .i64 (a1)).tmod (t3.1.f0.length : Int)).toNat 0) ≥ 0))), (1, .int .u8 a1), (5, .bool t1), (6, .slice A1 t2.length c1), (7, pt nx3 0)]) [(⟨g2_, o2_ + ((W .i64 (a1)).tmod (t3.1.f0.length : Int)).toNat * 1, none⟩, i6 (t3.1.f1.getD ((W .i64 (a1)).tmod (t3.1.f0.length : Int)).toNat 0))] (RFacts.imm (hc2_ 0 _ rfl) (RFacts.nil _ _ _)) 3 [.r 0, .no, .no] (by kernel_rfl) (by kernel_rfl) ?_
      refine RL.nil (by kernel_rfl) ?_
      obtain rfl := Option.some.inj H
      exact QN.sb (hJ3 _ _ _ _ _ ⟨(decide ((t3.1.f1.getD ((W .i64 (a1)).tmod (t3.1.f0.length : Int)).toNat 0) ≥ 0)), rfl, rfl, rfl, hi28, HK3⟩) (.cons_cons _ (.cons_cons _ .slnil)) (.refl _)
  ·intro Q_3 hJ2 hQ2
   obtain ⟨y2, H, HK2⟩ := bnd H
   refine OK.rg ?_
   refine RL.s 3 [(46, .bool (t3.2 != 0)), (12, i6 t4.2), (11, pt nx5 0), (1, .int .u8 a1), (5, .bool t1), (6, .slice A1 t2.length c1), (7, pt nx3 0)] ?_
   refine RL.cases (t3.2 != 0) (fun hb => ?_) (fun hb => ?_)
   ·have hc := (bne_iff_ne.1 hb)
    rw [hb]
    rw [if_pos hc] at H; clear hb
    refine RL.s 14 [(60, .bool true), (1, .int .u8 a1), (5, .bool t1), (6, .slice A1 t2.length c1), (7, pt nx3 0)] ?_
    refine RL.nil (by kernel_rfl) ?_
    obtain rfl := Option.some.inj H
    exact QN.sb (hJ2 _ _ _ _ _ ⟨true, rfl, rfl, rfl, (Imm.le_refl _), HK2⟩) (.cons_cons _ (.cons_cons _ .slnil)) (.refl _)
   ·have hc := (not_not_intro (bne_eq_false_iff_eq.1 hb))
    rw [hb]
    rw [if_neg hc] at H; clear hb
    refine RL.s 4 [(50, .bool (t4.2 != 0)), (11, pt nx5 0), (1, .int .u8 a1), (5, .bool t1), (6, .slice A1 t2.length c1), (7, pt nx3 0)] ?_
    refine RL.cases (t4.2 != 0) (fun hb => ?_) (fun hb => ?_)
    ·have hc := (bne_iff_ne.1 hb)
     rw [hb]
     rw [if_pos hc] at H; clear hb
     refine RL.s 10 [(60, .bool true), (1, .int .u8 a1), (5, .bool t1), (6, .slice A1 t2.length c1), (7, pt nx3 0)] ?_
     refine RL.nil (by kernel_rfl) ?_
     obtain rfl := Option.some.inj H
     exact QN.sb (hJ2 _ _ _ _ _ ⟨true, rfl, rfl, rfl, (Imm.le_refl _), HK2⟩) (.cons_cons _ (.cons_cons _ .slnil)) (.refl _)
    ·have hc := (not_not_intro (bne_eq_false_iff_eq.1 hb))
     rw [hb]
     rw [if_neg hc] at H; clear hb
     refine RL.simK (K' := [(51, .agg #[.slice A2 t3.1.f0.length c2, .slice A3 t3.1.f1.length c3, .slice A4 t3.1.f2.length c4]), (50, .bool false), (11, pt nx5 0), (1, .int .u8 a1), (5, .bool t1), (6, .slice A1 t2.length c1), (7, pt nx3 0)]) [] (RFacts.nil _ _ _) 1 [.l 0] (by kernel_rfl) (by kernel_rfl) ?_
     obtain ⟨t9, hA9, H⟩ := bnd H
     refine RL.callP 25 [.agg #[.slice A2 t3.1.f0.length c2, .slice A3 t3.1.f1.length c3, .slice A4 t3.1.f2.length c4]] (some 52) (fun w => armillarylaw23_shaped.Post I13 w t9) (by kernel_rfl) (by kernel_rfl) (fun w hs => armillarylaw23_shaped.calls I13 t3.1 A2 c2 A3 c3 A4 c4 w hs.im hl2 (Rd.ext (Imm.le_trans (Imm.le_trans (Imm.le_trans (Imm.le_trans (Imm.le_trans (Imm.le_trans (Imm.le_trans hi6 hi7) hi8) hi9) hi10) hi11) hi12) hi13) hr2) hl3 (Rd.ext (Imm.le_trans (Imm.le_trans (Imm.le_trans (Imm.le_trans (Imm.le_trans (Imm.le_trans hi7 hi8) hi9) hi10) hi11) hi12) hi13) hr3) hl4 (Rd.ext (Imm.le_trans (Imm.le_trans (Imm.le_trans (Imm.le_trans (Imm.le_trans hi8 hi9) hi10) hi11) hi12) hi13) hr4) t9 hA9) ?_
     rintro w v w' hs ⟨I29, rfl, hg⟩
     have hi29 := hg.le
     refine RL.resume (X' := []) rfl (hs.call hg) ?_
     clear hs hg
     generalize w'.heap.size = nx17
     clear w w'
     refine RL.s 3 [(55, .bool (!t9)), (11, pt nx5 0), (1, .int .u8 a1), (5, .bool t1), (6, .slice A1 t2.length c1), (7, pt nx3 0)] ?_
     refine RL.cases t9 (fun hb => ?_) (fun hb => ?_)
     ·have hc := hb
      rw [hb]
      rw [if_pos hc] at H; clear hb
      refine RL.simK (K' := [(57, .agg #[.slice A6 t4.1.f0.length c6, .slice A7 t4.1.f1.length c7, .slice A8 t4.1.f2.length c8]), (56, .agg #[.slice A2 t3.1.f0.length c2, .slice A3 t3.1.f1.length c3, .slice A4 t3.1.f2.length c4]), (55, .bool false), (1, .int .u8 a1), (5, .bool t1), (6, .slice A1 t2.length c1), (7, pt nx3 0)]) [] (RFacts.nil _ _ _) 2 [.l 0, .l 1] (by kernel_rfl) (by kernel_rfl) ?_
      obtain ⟨t10, hA10, H⟩ := bnd H
      refine RL.callP 19 [.agg #[.slice A2 t3.1.f0.length c2, .slice A3 t3.1.f1.length c3, .slice A4 t3.1.f2.length c4], .agg #[.slice A6 t4.1.f0.length c6, .slice A7 t4.1.f1.length c7, .slice A8 t4.1.f2.length c8]] (some 58) (fun w => armillaryref23_Same.Post I29 w t10) (by kernel_rfl) (by kernel_rfl) (fun w hs => armillaryref23_Same.calls k I29 t3.1 A2 c2 A3 c3 A4 c4 t4.1 A6 c6 A7 c7 A8 c8 w hs.im hl2 (Rd.ext (Imm.le_trans (Imm.le_trans (Imm.le_trans (Imm.le_trans (Imm.le_trans (Imm.le_trans (Imm.le_trans (Imm.le_trans hi6 hi7) hi8) hi9) hi10) hi11) hi12) hi13) hi29) hr2) hl3 (Rd.ext (Imm.le_trans (Imm.le_trans (Imm.le_trans (Imm.le_trans (Imm.le_trans (Imm.le_trans (Imm.le_trans hi7 hi8) hi9) hi10) hi11) hi12) hi13) hi29) hr3) hl4 (Rd.ext (Imm.le_trans (Imm.le_trans (Imm.le_trans (Imm.le_trans (Imm.le_trans (Imm.le_trans hi8 hi9) hi10) hi11) hi12) hi13) hi29) hr4) hl6 (Rd.ext (Imm.le_trans (Imm.le_trans hi12 hi13) hi29) hr6) hl7 (Rd.ext (Imm.le_trans hi13 hi29) hr7) hl8 (Rd.ext hi29 hr8) t10 hA10) ?_
      rintro w v w' hs ⟨I30, rfl, hg⟩
      have hi30 := hg.le
      refine RL.resume (X' := []) rfl (hs.call hg) ?_
      clear hs hg
      generalize w'.heap.size = nx18
      clear w w'
      refine RL.s 2 [(60, .bool (!t10)), (1, .int .u8 a1), (5, .bool t1), (6, .slice A1 t2.length c1), (7, pt nx3 0)] ?_
      refine RL.nil (by kernel_rfl) ?_
      obtain rfl := Option.some.inj H
      exact QN.sb (hJ2 _ _ _ _ _ ⟨(!t10), rfl, rfl, rfl, (Imm.le_trans hi29 hi30), HK2⟩) (.cons_cons _ (.cons_cons _ .slnil)) (.refl _)
     ·have hc := (Bool.eq_false_iff.1 hb)
      rw [hb]
      rw [if_neg hc] at H; clear hb
      refine RL.s 5 [(60, .bool true), (1, .int .u8 a1), (5, .bool t1), (6, .slice A1 t2.length c1), (7, pt nx3 0)] ?_
      refine RL.nil (by kernel_rfl) ?_
      obtain rfl := Option.some.inj H
      exact QN.sb (hJ2 _ _ _ _ _ ⟨true, rfl, rfl, rfl, hi29, HK2⟩) (.cons_cons _ (.cons_cons _ .slnil)) (.refl _)
 ·intro Q_4 hJ1 hQ1
  obtain ⟨y1, H, HK1⟩ := bnd H
  refine OK.bk 0 ?_
  refine OK.toRow (b := ⟨nx3 + 1, [], 48⟩) 1 0 3 (by kernel_rfl) (by kernel_rfl) (by decide) ?_
  have hp15 : Reps t48 I7 ([] : List S48) [] := rfl
  refine OK.norm (L' := [⟨nx3, [.slice A2 t3.1.f0.length c2, .slice A3 t3.1.f1.length c3, .slice A4 t3.1.f2.length c4], 29⟩]) (X' := [orow 48 3 (some ⟨nx3 + 1, 0, none⟩) (([] : List S48).length) 0 []]) rfl rfl (by kernel_rfl) (by kernel_rfl) ?_
  refine OK.sub (K' := [(1, .int .u8 a1), (5, .bool t1), (6, .slice A1 t2.length c1), (7, pt nx3 0), (8, i6 t3.2), (9, .slice (some ⟨nx3 + 1, 0, none⟩) 0 0), (10, i6 (W .i64 ((t2.length : Int) - 1)))]) (L' := [⟨nx3, [.slice A2 t3.1.f0.length c2, .slice A3 t3.1.f1.length c3, .slice A4 t3.1.f2.length c4], 29⟩]) (by kernel_rfl) (.cons_cons _ .slnil) (.refl _) ?_
  refine OK.lp (fun n_ K' I' _ L' X' => ∃ (x5 : List S48) (x6 : Int) (A13 : Option Addr) (c13 : Nat) (cs13 : List Value), K' = [(1, .int .u8 a1), (5, .bool t1), (6, .slice A1 t2.length c1), (7, pt nx3 0), (8, i6 t3.2), (9, .slice A13 x5.length c13), (10, i6 x6)] ∧ L' = [⟨nx3, [.slice A2 t3.1.f0.length c2, .slice A3 t3.1.f1.length c3, .slice A4 t3.1.f2.length c4], 29⟩] ∧ X' = [orow 48 3 A13 x5.length c13 cs13] ∧ Imm.le I7 I' ∧ Reps t48 I' x5 cs13 ∧ armillarylaw23_AuctionLosers.l1 t2 n_ x5 x6 = some y1) k ⟨([] : List S48), W .i64 ((t2.length : Int) - 1), (some ⟨nx3 + 1, 0, none⟩), 0, [], rfl, rfl, rfl, (Imm.le_refl _), hp15, H⟩ ?_ ?_
  ·rintro _ _ _ _ _ ⟨x5, x6, A13, c13, cs13, rfl, rfl, rfl, _, hp13, H⟩
   cases H
  ·rintro kq1 _ I31 nx19 _ _ ⟨x5, x6, A13, c13, cs13, rfl, rfl, rfl, hi31, hp13, H⟩ Q_l1 hJ5 hQ5
   rw [armillarylaw23_AuctionLosers.l1] at H
   refine OK.sq ?_
   refine OK.sr ?_
   refine RL.st 2 [(29, .bool (decide (x6 ≥ 0))), (1, .int .u8 a1), (5, .bool t1), (6, .slice A1 t2.length c1), (7, pt nx3 0), (8, i6 t3.2), (9, .slice A13 x5.length c13), (10, i6 x6)] ?_
   refine OK.cd (decide (x6 ≥ 0)) (fun hb => ?_) (fun hb => ?_)
   ·skip
    have hc := (of_decide_eq_true hb)
    rw [if_pos hc] at H
    clear hb
    refine OK.skt ?_
    refine OK.sq ?_
    refine OK.bk 1 ?_
    refine OK.rg ?_
    refine RL.s 3 [(34, i6 x6), (33, .slice A1 t2.length c1), (32, .slice A13 x5.length c13), (1, .int .u8 a1), (5, .bool t1), (6, .slice A1 t2.length c1), (7, pt nx3 0), (8, i6 t3.2), (9, .slice A13 x5.length c13), (10, i6 x6)] ?_
    obtain ⟨hib0, H⟩ := ifs H
    obtain ⟨hib1, H⟩ := ifs H
    obtain ⟨g3_, o3_, hA3_, hc3_⟩ := t48_at (Rd.ext (Imm.le_trans (Imm.le_trans (Imm.le_trans (Imm.le_trans hi4 hi5) hi6) hi7) hi31) hr1) x6 hib0 hib1
    refine RL.idx 3 .i64 x6 hA3_ t2.length c1 (some 35) (by kernel_rfl) (by kernel_rfl) (T := 22) (e := 48) (by kernel_rfl) (by kernel_rfl) hib0 hib1 (K' := [(35, pt g3_ (o3_ + (x6).toNat * 3)), (34, i6 x6), (33, .slice A1 t2.length c1), (32, .slice A13 x5.length c13), (1, .int .u8 a1), (5, .bool t1), (6, .slice A1 t2.length c1), (7, pt nx3 0), (8, i6 t3.2), (9, .slice A13 x5.length c13), (10, i6 x6)]) (by kernel_rfl) ?_
    refine RL.simP (K' := [(37, .slice (some ⟨nx19, 0, none⟩) 1 1), (32, .slice A13 x5.length c13), (1, .int .u8 a1), (5, .bool t1), (6, .slice A1 t2.length c1), (7, pt nx3 0), (8, i6 t3.2), (9, .slice A13 x5.length c13), (10, i6 x6)]) (nx' := nx19 + 1) (L' := [⟨nx3, [.slice A2 t3.1.f0.length c2, .slice A3 t3.1.f1.length c3, .slice A4 t3.1.f2.length c4], 29⟩, ⟨nx19, [i6 ((t2.getD (x6).toNat z48).f0), i6 ((t2.getD (x6).toNat z48).f1), i6 ((t2.getD (x6).toNat z48).f2)], 48⟩]) [(⟨g3_, o3_ + (x6).toNat * 3, none⟩, i6 ((t2.getD (x6).toNat z48).f0)), (⟨g3_, o3_ + (x6).toNat * 3 + 1, none⟩, i6 ((t2.getD (x6).toNat z48).f1)), (⟨g3_, o3_ + (x6).toNat * 3 + 2, none⟩, i6 ((t2.getD (x6).toNat z48).f2))] (RFacts.imm (hc3_ 0 _ rfl) (RFacts.imm (hc3_ 1 _ rfl) (RFacts.imm (hc3_ 2 _ rfl) (RFacts.nil _ _ _)))) 2 [.r 0, .no] (by kernel_rfl) (by kernel_rfl) ?_
    obtain ⟨hz1, H⟩ := ifs H
    refine RL.appendB (T := 22) (e := 48) (S := A13) 3 24 22 c13 1 1 nx19 48 cs13 [i6 ((t2.getD (x6).toNat z48).f0), i6 ((t2.getD (x6).toNat z48).f1), i6 ((t2.getD (x6).toNat z48).f2)] t48 x5 [(t2.getD (x6).toNat z48)] 0 (some 38) (by kernel_rfl) (by kernel_rfl) (by kernel_rfl) (by kernel_rfl) (by kernel_rfl) (by decide) (by kernel_rfl) hp13 (by kernel_rfl) ⟨_, _, rfl, (t48_mk _ _), rfl⟩ hz1 (by omega) (fun A14 c14 nx20 cs14 hp14 => ?_)
    refine RL.sub (K' := [(38, .slice A14 ((x5 ++ [(t2.getD (x6).toNat z48)]).length) c14), (37, .slice (some ⟨nx19, 0, none⟩) 1 1), (1, .int .u8 a1), (5, .bool t1), (6, .slice A1 t2.length c1), (7, pt nx3 0), (8, i6 t3.2), (10, i6 x6)]) (L' := [⟨nx3, [.slice A2 t3.1.f0.length c2, .slice A3 t3.1.f1.length c3, .slice A4 t3.1.f2.length c4], 29⟩, ⟨nx19, [i6 ((t2.getD (x6).toNat z48).f0), i6 ((t2.getD (x6).toNat z48).f1), i6 ((t2.getD (x6).toNat z48).f2)], 48⟩]) (X' := [orow 48 3 A14 ((x5 ++ [(t2.getD (x6).toNat z48)]).length) c14 cs14]) (by kernel_rfl) (.refl _) (.refl _) ?_
    refine RL.s 1 [(9, .slice A14 ((x5 ++ [(t2.getD (x6).toNat z48)]).length) c14), (1, .int .u8 a1), (5, .bool t1), (6, .slice A1 t2.length c1), (7, pt nx3 0), (8, i6 t3.2), (10, i6 x6)] ?_
    refine RL.nil (by kernel_rfl) ?_
    refine QN.blkN ?_
    refine QN.then_ ?_
    refine OK.rg ?_
    refine RL.s 3 [(10, i6 (W .i64 (x6 - 1))), (9, .slice A14 ((x5 ++ [(t2.getD (x6).toNat z48)]).length) c14), (1, .int .u8 a1), (5, .bool t1), (6, .slice A1 t2.length c1), (7, pt nx3 0), (8, i6 t3.2)] ?_
    refine RL.nil (by kernel_rfl) ?_
    exact QN.sb (hJ5 _ _ _ _ _ ⟨(x5 ++ [(t2.getD (x6).toNat z48)]), W .i64 (x6 - 1), A14, c14, cs14, rfl, rfl, rfl, hi31, hp14, H⟩) (.cons_cons _ (.cons _ .slnil)) (.refl _)
   ·skip
    have hc := (of_decide_eq_false hb)
    rw [if_neg hc] at H
    clear hb
    refine OK.ex 0 ?_
    refine QN.thenE ?_
    refine QN.outE hQ5 ?_
    refine QN.blkE ?_
    obtain rfl := Option.some.inj H
    exact QN.sb (hJ1 _ _ _ _ _ ⟨x5, A13, c13, cs13, rfl, rfl, rfl, hi31, hp13, HK1⟩) (.cons_cons _ .slnil) (.refl _)

end Go.Proofs.Ytihmbmeelheinaa
namespace Go.Proofs.Ytihmbmeelheinaa
open Go Go.Proofs.Ytihmbmeelheinaa.RW Go.Proofs.Ytihmbmeelheinaa.auc
open Go.Proofs.Ytihmbmeelheinaa.hun (g sm Solved)
set_option linter.unusedVariables false
theorem losers_l1 (l : List S48) (hl : l.length ≤ 100000) : ∀ (n : Nat), n ≤ l.length → Ev (fun f => armillarylaw23_AuctionLosers.l1 l f (l.drop n).reverse ((n : Int) - 1)) l.reverse
  | 0, _ => Ev.succ (g := fun _ => some l.reverse) (fun f => by rw [armillarylaw23_AuctionLosers.l1, if_neg (by omega)]; rfl) (Ev.const rfl)
  | n + 1, h => by
    have hn : n < l.length := by omega
    have ih := losers_l1 l hl n (by omega)
    have e1 : ((n + 1 : Nat) : Int) - 1 = (n : Int) := by omega
    have c1 : (n : Int) < (l.length : Int) := by omega
    have cp : (0 : Int) ≤ (n : Int) := by omega
    rw [List.drop_eq_getElem_cons hn, List.reverse_cons] at ih
    rw [e1]
    refine Ev.succ (fun f => ?_) ih
    rw [armillarylaw23_AuctionLosers.l1, if_pos cp, if_pos cp, if_pos c1, if_pos (by rw [List.length_reverse, List.length_drop]; simp only [List.length_singleton]; omega), tn, gD hn, W64 (by omega) (by omega)]
theorem armillarylaw23_AuctionLosers_holds (a0 : List S48) (a1 : Int) (hp0 : ∀ x ∈ a0, p48 x) (h0 : a0.length ≤ 9223372036854775807) (w1 : (Lit.int .u8 a1).wf = true) : ∃ k, armillarylaw23_AuctionLosers.f k a0 a1 = some true := by
  obtain ⟨l, hg, hm⟩ := made_ev h0
  have ha := u8_wf w1
  have h := hg.ok (by decide) (by decide)
  have h' := (rev_okG hg).ok (by decide) (by decide)
  have hl := hg.len
  obtain ⟨d, cols, X, Y, hcl, ⟨e, hs⟩, k⟩ := clear_ev h
  obtain ⟨d', cols', X', Y', hcl', ⟨e', hs'⟩, k'⟩ := clear_ev h'
  obtain ⟨q0, q1, q2, q3⟩ := cl_scale (c := 1) (by decide) h h' (rev_ws l) (rev_ss l) (fun w s => by rw [rev_Vv hg.nd, Int.one_mul]) hs hs' k k'
  obtain ⟨n0, n1, n2, n3⟩ := k.len0 h
  obtain ⟨m0, m1, m2, m3⟩ := k'.len0 h'
  rw [rev_ws] at m0 m1 m2 m3
  have q4 : d'.f2 = d.f2 := ext_g (by rw [m2, n2]) (fun i _ => by rw [q2, Int.one_mul])
  have hd : d = d' := by
    obtain ⟨x0, x1, x2⟩ := d
    obtain ⟨y0, y1, y2⟩ := d'
    simp only at q0 q1 q4
    rw [q0, q1, q4]
  have hl1 := losers_l1 l (by omega) l.length (Nat.le_refl _)
  rw [List.drop_length] at hl1
  have hW : W .i64 ((l.length : Int) - 1) = (l.length : Int) - 1 := W64 (by omega) (by omega)
  refine Ev.get (Ev.bind sanity_ev (Ev.bind hm (Ev.bind hcl (Ev.bind (r := l.reverse) ?_ (Ev.bind hcl' (Ev.bind (r := false) ?_ (Ev.congr (fun f => if_neg (by decide)) ?_)))))))
  · rw [hW]; exact hl1
  · refine Ev.congr (fun f => if_neg (by simp)) (Ev.congr (fun f => if_neg (by simp)) (Ev.bind1 k.shaped (Ev.congr (fun f => if_pos rfl) ?_)))
    exact Ev.bind (sameA (a := d) (b := d') (by omega) (by omega) (by omega) hd) (Ev.const rfl)
  · by_cases hz : (ws l).length = 0
    · refine Ev.bind1 (r := true) ?_ (Ev.congr (fun f => if_pos rfl) (Ev.const rfl))
      exact if_pos (by show (d.f0.length : Int) = 0; omega)
    · obtain ⟨i, hi, hidx⟩ := pick (n := d.f0.length) ha (by omega)
      have cz : ¬ ((((d, (0 : Int)).1.f0.length : Nat) : Int) = 0) := by show ¬ ((d.f0.length : Int) = 0); omega
      have cp : (0 : Int) ≤ (i : Int) := by omega
      have c0 : (i : Int) < (((d, (0 : Int)).1.f0.length : Nat) : Int) := by show (i : Int) < (d.f0.length : Int); omega
      have c1 : (i : Int) < (((d, (0 : Int)).1.f1.length : Nat) : Int) := by show (i : Int) < (d.f1.length : Int); omega
      have hi2 : i < (ws l).length := by omega
      have hw := g_mem hi2
      refine Ev.bind1 (r := decide (g d.f1 i ≥ 0)) ?_ ?_
      · rw [if_neg cz, if_neg cz]
        show (if 0 ≤ (W .i64 a1).tmod (d.f0.length : Int) then _ else none) = _
        rw [hidx, if_pos cp]
        rw [if_pos c1, tn]
      · rcases k.slot_neg h hi2 with ⟨s1, s2⟩ | ⟨s, s1, s2, s3, s4⟩
        · have hexc := except_ev l (g d.f0 i) (by omega)
          have h2 := exc_ok hg (by decide) (by decide) (g (ws l) i)
          obtain ⟨d2, cols2, X2, Y2, hcl2, _, k2⟩ := clear_ev h2
          have hX := k.without h hw k2
          have hI := k.idle hw s1
          rw [k.who] at hexc
          refine Ev.congr (fun f => if_neg (by rw [s2]; decide)) (Ev.congr (fun f => if_neg cz) ?_)
          refine Ev.congr (fun f => if_pos (by show 0 ≤ (W .i64 a1).tmod (d.f0.length : Int); rw [hidx]; exact cp)) (Ev.congr (fun f => if_pos (by show (W .i64 a1).tmod (d.f0.length : Int) < (d.f0.length : Int); rw [hidx]; exact c0)) ?_)
          show Ev (fun f => (armillaryref23_Except.f f l (d.f0.getD ((W .i64 a1).tmod (d.f0.length : Int)).toNat 0)).bind _) _
          rw [hidx, tn]
          show Ev (fun f => (armillaryref23_Except.f f l (g d.f0 i)).bind _) _
          rw [k.who]
          refine Ev.bind hexc (Ev.bind hcl2 (Ev.bind (r := true) ?_ (Ev.const rfl)))
          refine Ev.congr (fun f => if_pos rfl) (Ev.bind (k2.welfare h2) (Ev.bind (k.welfare h) (Ev.congr (fun f => if_pos (by omega)) (Ev.const rfl))))
        · exact Ev.congr (fun f => if_pos (by rw [s2]; simpa using s3)) (Ev.const rfl)
end Go.Proofs.Ytihmbmeelheinaa
namespace Go.Proofs.Ytihmbmeelheinaa.auctionLosers
open Go.ChangeShapes Go.WideShapes Go.ChangeAt Go.RowKit Go.Proofs.Ytihmbmeelheinaa Go.Proofs.Ytihmbmeelheinaa.RW
open Go.ChangeMaps (open_string shut_string)
set_option linter.unusedVariables false
set_option maxRecDepth 1000000
set_option maxHeartbeats 8000000

theorem own : ownKnob Try.prog.godebug = none := by kernel_rfl
theorem laidOut : laidOutB Try.prog = true := by kernel_rfl
theorem lifted (os : Os) (started : os.Started) (H : Type) (enc : TypeId × Value → H) :
  ReturnsInHanded {} Try.checked os 10 .any (Rows.auctionLosersSpec.pre6 enc Try.prog Try.f10 Rows.auctionLosersRow.domain false) (Rows.auctionLosersSpec.post enc Try.prog Try.f10 false true false false) := by
 refine returnsInHanded_of_change (C := Try.checked) own started (by kernel_rfl) Try.func10
  (ChangeSpec.witness6 (enc := enc) (C := Try.checked) false ⟨#[], #[.slice none 0 0, .int .u8 0], []⟩ 8 (by kernel_rfl) (by kernel_rfl) (by kernel_rfl) (by kernel_rfl)) ?_
 intro W base args ds gs before hval0 hW hcnd _
 have hval : ∀ (j : Nat) t v, Try.f10.params[j]? = some t → args[j]? = some v → Value.okWide Try.prog W .any base t v := hval0
 have hW' := hW
 obtain ⟨p, q, hA0, hV, rfl, hfz, hnd⟩ := hW
 have hA : DataW.TrodAll enc Try.prog W 0 (fun _ => true) true Try.f10.params.toList args.toList ds p := hA0
 rw [Try.params10] at hA hval
 obtain ⟨v0, vs0, d0, ds0, p0, q0, hargs, rfl, rfl, h0, z0⟩ := trodAll_cons hA
 obtain ⟨v1, vs1, d1, ds1, p1, q1, rfl, rfl, rfl, h1, z1⟩ := trodAll_cons z0
 obtain ⟨rfl, rfl, rfl⟩ := trodAll_nil z1
 obtain rfl : args = #[v0, v1] := by cases args; simp_all
 obtain ⟨rfl, rfl⟩ := trodVars_none hV
 have k0 := h0
 have lt0 : ∀ x ∈ p0, x.block < W.heap.size := by obtain ⟨m, hm⟩ := k0; exact DataW.trod_lt m _ _ _ hm
 obtain ⟨b0, len0, cap0, rfl⟩ := okWide_slice Try.underlying22 (hval 0 22 v0 rfl rfl)
 obtain ⟨fuel0, hf0⟩ := h0
 obtain ⟨a0, ⟨A0, c0, e0, l0, r0⟩, hp0⟩ := (opens_slice (e := 48) o48 (by kernel_rfl) (by kernel_rfl) (Nat.le_of_ble_eq_true (by kernel_rfl)) : Opens Try.prog (Ty.slice t48) 22 (fun l => ∀ x ∈ l, p48 x)) W 0 _ _ _ _ _ hf0
 obtain ⟨rfl, rfl, rfl⟩ : b0 = A0 ∧ len0 = a0.length ∧ cap0 = c0 := by simpa [Value.cells] using e0
 obtain ⟨a1, rfl, rfl, rfl, w1⟩ := open_int Try.underlying5 (hval 1 5 v1 rfl rfl) h1
 clear hA0 hval0
 obtain ⟨k, hk⟩ := armillarylaw23_AuctionLosers_holds a0 a1 hp0 r0.1 w1
 refine (armillarylaw23_AuctionLosers.calls k (wImm W) a0 b0 cap0 a1 W (wImm_at W) l0 r0 true hk).mono ?_
 rintro e W' ⟨v, rfl, J, rfl, hg⟩
 have bel : Below W.heap.size W W' := ⟨hg.evo.os, hg.evo.tape, hg.evo.output, hg.evo.size, fun k hk => hg.evo.blk k hk (fun h => h)⟩
 exact ⟨_, rfl, _, _, _, [], _, [], hW', trodAll_mk1 (shut_bool Try.underlying4 _), (trodAll_cons_mk (Below.trod laidOut (by kernel_rfl) (of_decide_eq_true (by kernel_rfl)) k0 bel lt0) (trodAll_cons_mk (shut_int Try.underlying5 w1) trodAll_mk0)), rfl, bel.frame _, fun h => by cases h⟩

theorem over : Rows.auctionLosersRow.holds Try.pinned (OpenSpec.ofChange Rows.auctionLosersSpec) :=
 OpenClaim.holds_of_wide 10 Try.f10 rfl rfl rfl rfl rfl rfl rfl ⟨rfl, rfl, rfl, rfl, rfl⟩ rfl rfl rfl rfl rfl (by kernel_rfl) Try.func10 (by kernel_rfl)
  (of_decide_eq_true (by kernel_rfl)) (by unfold Func.isWrapper; first | (rw [if_pos (by decide +kernel)]; kernel_rfl) | (rw [if_neg (by decide +kernel)]; exact ⟨rfl, rfl⟩))
  (fun os started H enc _ => lifted os started H enc)
theorem proved : Rows.AuctionLosersSaid := over
#print axioms proved
end Go.Proofs.Ytihmbmeelheinaa.auctionLosers
