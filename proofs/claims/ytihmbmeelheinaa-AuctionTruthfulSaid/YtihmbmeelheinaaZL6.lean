/- What a function of the program computes, and the walk that shows it; made by a program of the session's out of the translation; no conditions beyond those that the theorems name. -/
import Derived.Test.YtihmbmeelheinaaZ2
import Derived.Test.YtihmbmeelheinaaZ6
import Derived.Test.YtihmbmeelheinaaZ5
import Derived.Test.YtihmbmeelheinaaZ7
import Derived.Test.YtihmbmeelheinaaRows
import Derived.WalkKit
import Derived.ProofKit
import Derived.OpenShut
import Derived.ShutString
import Derived.ChangeOld
import Derived.Below
import Derived.Carry
import Derived.WideShapes
namespace Go.Proofs.Ytihmbmeelheinaa
open Go Go.Proofs.Ytihmbmeelheinaa.RW
set_option linter.unusedVariables false
set_option maxRecDepth 100000
set_option maxHeartbeats 8000000

/-! ### armillarylaw23_AuctionTruthful: function 6, armillary/armillarylaw23.AuctionTruthful -/
noncomputable def K6_0 : Code := cBody Try.f6
noncomputable def O6_37 : List Oper := cOps (cL (cR (cR (cR (cL (cL (cR (cL (cL (cR (cL (cR (cR (cR (cR K6_0)))))))))))))))
noncomputable def O6_52 : List Oper := cOps (cL (cR (cR (cR (cR (cR (cR (cR K6_0))))))))
def armillarylaw23_AuctionTruthful.k1  (x2 : Bool) : Option (Bool) := (some x2)
def armillarylaw23_AuctionTruthful.k2 (k : Nat) (a2 : Int) (t1 : Bool) (t2 : List S48) (x1 : List S48) : Option (Bool) := ((auction_Clear.f k t2).bind fun t4 => ((auction_Clear.f k x1).bind fun t5 => ((if t4.2 = 0 then (if t5.2 = 0 then ((armillarylaw23_shaped.f t4.1).bind fun t6 => (if t6 = true then ((armillarylaw23_shaped.f t5.1).bind fun t7 => (if t7 = true then ((auction_Utility.f k t2 t5.1 (W .i64 ((W .i64 (a2.tmod 6)) * 7))).bind fun t8 => ((auction_Utility.f k t2 t4.1 (W .i64 ((W .i64 (a2.tmod 6)) * 7))).bind fun t9 => (if t8 ≤ t9 then (some t1) else (some false)))) else (some false))) else (some false))) else (some false)) else (some false)).bind (armillarylaw23_AuctionTruthful.k1))))
def armillarylaw23_AuctionTruthful.l1 (a1 : List S48) (a2 : Int) : Nat → (List S48) → Int → Option (List S48)
 | 0, _, _ => none
 | k + 1, x3, x4 => ((if x4 < (a1.length : Int) then (some (decide (x4 < 6))) else (some false)).bind (fun x5 => (if x5 = true then (if 0 ≤ x4 then (if x4 < (a1.length : Int) then ((armillaryref23_Made.f k [(⟨W .i64 (a2.tmod 6), (a1.getD (x4).toNat z48).f1, (a1.getD (x4).toNat z48).f2⟩ : S48)]).bind fun t10 => (if 0 < (t10.length : Int) then (if 0 < (t10.length : Int) then ((armillaryref23_Value.f k x3 ((t10.getD (0 : Int).toNat z48).f0) ((t10.getD (0 : Int).toNat z48).f1)).bind fun t11 => ((if t11 = 0 then (if 0 < (t10.length : Int) then (if (x3.length + [(t10.getD (0 : Int).toNat z48)].length) * 24 ≤ 140737488355328 then (some (x3 ++ [(t10.getD (0 : Int).toNat z48)])) else none) else none) else (some x3)).bind (fun x6 => (armillarylaw23_AuctionTruthful.l1 a1 a2 k x6 (W .i64 (x4 + 1)))))) else none) else none)) else none) else none) else (some x3))))
def armillarylaw23_AuctionTruthful.f (k : Nat) (a0 : List S48) (a1 : List S48) (a2 : Int) : Option (Bool) := ((armillarylaw23_sanity.f k ).bind fun t1 => ((armillaryref23_Made.f k a0).bind fun t2 => ((armillaryref23_Except.f k t2 (W .i64 ((W .i64 (a2.tmod 6)) * 7))).bind fun t3 => ((armillarylaw23_AuctionTruthful.l1 a1 a2 k t3 0).bind (armillarylaw23_AuctionTruthful.k2 k a2 t1 t2)))))
def armillarylaw23_AuctionTruthful.Post (I : Imm) (w : World) (r : Bool) (v : Value) (w' : World) : Prop :=
 ∃ (J : Imm), v = .bool r ∧ Got w w' I J []
noncomputable def a6_52n : List Nat := (0 :: 1 :: 3 :: 7 :: 15 :: 31 :: 63 :: 127 :: 255 :: 511 :: 1023 :: 2047 :: 4095 :: 8191 :: 16383 :: 32767 :: 32767 :: 32767 :: 262143 :: 32767 :: 32767 :: 32767 :: 4194303 :: 8388607 :: 16777215 :: 33554431 :: 67108863 :: 134217727 :: 268435455 :: [])
theorem a6_52 : ancs O6_52 [] = a6_52n := by kernel_rfl
theorem a6_52o : drawOk O6_52 a6_52n 22 = true := by kernel_rfl
noncomputable def u6d1l (t6 : Bool) (t7 : Bool) (t8 : Int) : List Ld :=
 [⟨8, fun x => .bool t6, fun x => [], fun x J => True, fun x J J' h f => trivial⟩,
  ⟨12, fun x => .bool t7, fun x => [], fun x J => True, fun x J J' h f => trivial⟩,
  ⟨18, fun x => i6 t8, fun x => [], fun x J => True, fun x J J' h f => trivial⟩]
noncomputable def u6d1g  : List (Nat × ((Nat → Wt) → Value)) := [(2, fun u => .bool true), (6, fun u => .bool true), (10, fun u => .bool true), (14, fun u => .bool true)]
noncomputable def u6d1q (a2 : Int) (t1 : Bool) (t2 : List S48) (A1 : Option Addr) (c1 : Nat) (t4 : S29 × Int) (A4 : Option Addr) (c4 : Nat) (A5 : Option Addr) (c5 : Nat) (A6 : Option Addr) (c6 : Nat) (nx5 : Nat) (t5 : S29 × Int) (A7 : Option Addr) (c7 : Nat) (A8 : Option Addr) (c8 : Nat) (A9 : Option Addr) (c9 : Nat) (nx6 : Nat) (t6 : Bool) (t7 : Bool) (t8 : Int) (u : Nat → Wt) : Option (List Value × List (Nat × Value) × List (Nat × Nat)) := qSim Try.prog [] [⟨nx5, [.slice A4 t4.1.f0.length c4, .slice A5 t4.1.f1.length c5, .slice A6 t4.1.f2.length c6], 29⟩, ⟨nx6, [.slice A7 t5.1.f0.length c7, .slice A8 t5.1.f1.length c8, .slice A9 t5.1.f2.length c9], 29⟩] O6_52 ⟨104, []⟩ (Ld.vl (u6d1l t6 t7 t8)) u6d1g u [.no, .no, .no, .no, .no, .no, .no, .l 0, .no, .no, .no, .l 1, .no, .no, .no, .no, .l 1, .no, .no, .no, .l 0, .no] 0 (O6_52.take 22) [(17, i6 t5.2), (16, pt nx6 0), (15, i6 t4.2), (14, pt nx5 0), (7, .bool t1), (8, .slice A1 t2.length c1), (9, i6 (W .i64 ((W .i64 (a2.tmod 6)) * 7)))]
noncomputable def u6d1s (a2 : Int) (t2 : List S48) (A1 : Option Addr) (c1 : Nat) (t4 : S29 × Int) (A4 : Option Addr) (c4 : Nat) (A5 : Option Addr) (c5 : Nat) (A6 : Option Addr) (c6 : Nat) (t5 : S29 × Int) (A7 : Option Addr) (c7 : Nat) (A8 : Option Addr) (c8 : Nat) (A9 : Option Addr) (c9 : Nat) (t6 : Bool) (t7 : Bool) (t8 : Int) (u : Nat → Wt) : List Value := [i6 t4.2, .bool (t4.2 == 0), .bool true, i6 t5.2, .bool (t5.2 == 0), .bool (t5.2 == 0), .bool true, .agg #[.slice A4 t4.1.f0.length c4, .slice A5 t4.1.f1.length c5, .slice A6 t4.1.f2.length c6], .bool t6, .bool t6, .bool true, .agg #[.slice A7 t5.1.f0.length c7, .slice A8 t5.1.f1.length c8, .slice A9 t5.1.f2.length c9], .bool t7, .bool t7, .bool true, .slice A1 t2.length c1, .agg #[.slice A7 t5.1.f0.length c7, .slice A8 t5.1.f1.length c8, .slice A9 t5.1.f2.length c9], i6 (W .i64 ((W .i64 (a2.tmod 6)) * 7)), i6 t8, .slice A1 t2.length c1, .agg #[.slice A4 t4.1.f0.length c4, .slice A5 t4.1.f1.length c5, .slice A6 t4.1.f2.length c6], i6 (W .i64 ((W .i64 (a2.tmod 6)) * 7))]
noncomputable def u6d1f (a2 : Int) (t1 : Bool) (t2 : List S48) (A1 : Option Addr) (c1 : Nat) (t4 : S29 × Int) (A4 : Option Addr) (c4 : Nat) (A5 : Option Addr) (c5 : Nat) (A6 : Option Addr) (c6 : Nat) (nx5 : Nat) (t5 : S29 × Int) (A7 : Option Addr) (c7 : Nat) (A8 : Option Addr) (c8 : Nat) (A9 : Option Addr) (c9 : Nat) (nx6 : Nat) (t6 : Bool) (t7 : Bool) (t8 : Int) (i : Nat) (u : Nat → Wt) : List (Nat × Value) := foldPut ⟨104, []⟩ [(17, i6 t5.2), (16, pt nx6 0), (15, i6 t4.2), (14, pt nx5 0), (7, .bool t1), (8, .slice A1 t2.length c1), (9, i6 (W .i64 ((W .i64 (a2.tmod 6)) * 7)))] (O6_52.take i) (((u6d1s a2 t2 A1 c1 t4 A4 c4 A5 c5 A6 c6 t5 A7 c7 A8 c8 A9 c9 t6 t7 t8) u).take i)
theorem u6d1v (a2 : Int) (t1 : Bool) (t2 : List S48) (A1 : Option Addr) (c1 : Nat) (t4 : S29 × Int) (A4 : Option Addr) (c4 : Nat) (A5 : Option Addr) (c5 : Nat) (A6 : Option Addr) (c6 : Nat) (nx5 : Nat) (t5 : S29 × Int) (A7 : Option Addr) (c7 : Nat) (A8 : Option Addr) (c8 : Nat) (A9 : Option Addr) (c9 : Nat) (nx6 : Nat) (t6 : Bool) (t7 : Bool) (t8 : Int) (u : Nat → Wt) : (u6d1q a2 t1 t2 A1 c1 t4 A4 c4 A5 c5 A6 c6 nx5 t5 A7 c7 A8 c8 A9 c9 nx6 t6 t7 t8 u).map (fun x => (x.1, x.2.1)) = some ((u6d1s a2 t2 A1 c1 t4 A4 c4 A5 c5 A6 c6 t5 A7 c7 A8 c8 A9 c9 t6 t7 t8) u, (u6d1f a2 t1 t2 A1 c1 t4 A4 c4 A5 c5 A6 c6 nx5 t5 A7 c7 A8 c8 A9 c9 nx6 t6 t7 t8 22) u) := by kernel_rfl
theorem u6d1e (a2 : Int) (t1 : Bool) (t2 : List S48) (A1 : Option Addr) (c1 : Nat) (t4 : S29 × Int) (A4 : Option Addr) (c4 : Nat) (A5 : Option Addr) (c5 : Nat) (A6 : Option Addr) (c6 : Nat) (nx5 : Nat) (t5 : S29 × Int) (A7 : Option Addr) (c7 : Nat) (A8 : Option Addr) (c8 : Nat) (A9 : Option Addr) (c9 : Nat) (nx6 : Nat) (t6 : Bool) (t7 : Bool) (t8 : Int) (u : Nat → Wt) : (u6d1q a2 t1 t2 A1 c1 t4 A4 c4 A5 c5 A6 c6 nx5 t5 A7 c7 A8 c8 A9 c9 nx6 t6 t7 t8 u).map (fun x => x.2.2.map (·.1)) = (u6d1q a2 t1 t2 A1 c1 t4 A4 c4 A5 c5 A6 c6 nx5 t5 A7 c7 A8 c8 A9 c9 nx6 t6 t7 t8 u).map (fun x => x.2.2.map (·.2)) := by kernel_rfl
noncomputable def u6d2l (t6 : Bool) (t7 : Bool) : List Ld :=
 [⟨8, fun x => .bool t6, fun x => [], fun x J => True, fun x J J' h f => trivial⟩,
  ⟨12, fun x => .bool t7, fun x => [], fun x J => True, fun x J J' h f => trivial⟩]
noncomputable def u6d2g  : List (Nat × ((Nat → Wt) → Value)) := [(2, fun u => .bool true), (6, fun u => .bool true), (10, fun u => .bool true), (14, fun u => .bool false)]
noncomputable def u6d2q (a2 : Int) (t1 : Bool) (t2 : List S48) (A1 : Option Addr) (c1 : Nat) (t4 : S29 × Int) (A4 : Option Addr) (c4 : Nat) (A5 : Option Addr) (c5 : Nat) (A6 : Option Addr) (c6 : Nat) (nx5 : Nat) (t5 : S29 × Int) (A7 : Option Addr) (c7 : Nat) (A8 : Option Addr) (c8 : Nat) (A9 : Option Addr) (c9 : Nat) (nx6 : Nat) (t6 : Bool) (t7 : Bool) (u : Nat → Wt) : Option (List Value × List (Nat × Value) × List (Nat × Nat)) := qSim Try.prog [] [⟨nx5, [.slice A4 t4.1.f0.length c4, .slice A5 t4.1.f1.length c5, .slice A6 t4.1.f2.length c6], 29⟩, ⟨nx6, [.slice A7 t5.1.f0.length c7, .slice A8 t5.1.f1.length c8, .slice A9 t5.1.f2.length c9], 29⟩] O6_52 ⟨104, []⟩ (Ld.vl (u6d2l t6 t7)) u6d2g u [.no, .no, .no, .no, .no, .no, .no, .l 0, .no, .no, .no, .l 1, .no, .no, .no, .no, .no, .no, .no, .no, .no, .no] 0 (O6_52.take 22) [(17, i6 t5.2), (16, pt nx6 0), (15, i6 t4.2), (14, pt nx5 0), (7, .bool t1), (8, .slice A1 t2.length c1), (9, i6 (W .i64 ((W .i64 (a2.tmod 6)) * 7)))]
noncomputable def u6d2s (t4 : S29 × Int) (A4 : Option Addr) (c4 : Nat) (A5 : Option Addr) (c5 : Nat) (A6 : Option Addr) (c6 : Nat) (t5 : S29 × Int) (A7 : Option Addr) (c7 : Nat) (A8 : Option Addr) (c8 : Nat) (A9 : Option Addr) (c9 : Nat) (t6 : Bool) (t7 : Bool) (u : Nat → Wt) : List Value := [i6 t4.2, .bool (t4.2 == 0), .bool true, i6 t5.2, .bool (t5.2 == 0), .bool (t5.2 == 0), .bool true, .agg #[.slice A4 t4.1.f0.length c4, .slice A5 t4.1.f1.length c5, .slice A6 t4.1.f2.length c6], .bool t6, .bool t6, .bool true, .agg #[.slice A7 t5.1.f0.length c7, .slice A8 t5.1.f1.length c8, .slice A9 t5.1.f2.length c9], .bool t7, .bool t7, .bool false, undef, undef, undef, undef, undef, undef, undef]
noncomputable def u6d2f (a2 : Int) (t1 : Bool) (t2 : List S48) (A1 : Option Addr) (c1 : Nat) (t4 : S29 × Int) (A4 : Option Addr) (c4 : Nat) (A5 : Option Addr) (c5 : Nat) (A6 : Option Addr) (c6 : Nat) (nx5 : Nat) (t5 : S29 × Int) (A7 : Option Addr) (c7 : Nat) (A8 : Option Addr) (c8 : Nat) (A9 : Option Addr) (c9 : Nat) (nx6 : Nat) (t6 : Bool) (t7 : Bool) (i : Nat) (u : Nat → Wt) : List (Nat × Value) := foldPut ⟨104, []⟩ [(17, i6 t5.2), (16, pt nx6 0), (15, i6 t4.2), (14, pt nx5 0), (7, .bool t1), (8, .slice A1 t2.length c1), (9, i6 (W .i64 ((W .i64 (a2.tmod 6)) * 7)))] (O6_52.take i) (((u6d2s t4 A4 c4 A5 c5 A6 c6 t5 A7 c7 A8 c8 A9 c9 t6 t7) u).take i)
theorem u6d2v (a2 : Int) (t1 : Bool) (t2 : List S48) (A1 : Option Addr) (c1 : Nat) (t4 : S29 × Int) (A4 : Option Addr) (c4 : Nat) (A5 : Option Addr) (c5 : Nat) (A6 : Option Addr) (c6 : Nat) (nx5 : Nat) (t5 : S29 × Int) (A7 : Option Addr) (c7 : Nat) (A8 : Option Addr) (c8 : Nat) (A9 : Option Addr) (c9 : Nat) (nx6 : Nat) (t6 : Bool) (t7 : Bool) (u : Nat → Wt) : (u6d2q a2 t1 t2 A1 c1 t4 A4 c4 A5 c5 A6 c6 nx5 t5 A7 c7 A8 c8 A9 c9 nx6 t6 t7 u).map (fun x => (x.1, x.2.1)) = some ((u6d2s t4 A4 c4 A5 c5 A6 c6 t5 A7 c7 A8 c8 A9 c9 t6 t7) u, (u6d2f a2 t1 t2 A1 c1 t4 A4 c4 A5 c5 A6 c6 nx5 t5 A7 c7 A8 c8 A9 c9 nx6 t6 t7 22) u) := by kernel_rfl
theorem u6d2e (a2 : Int) (t1 : Bool) (t2 : List S48) (A1 : Option Addr) (c1 : Nat) (t4 : S29 × Int) (A4 : Option Addr) (c4 : Nat) (A5 : Option Addr) (c5 : Nat) (A6 : Option Addr) (c6 : Nat) (nx5 : Nat) (t5 : S29 × Int) (A7 : Option Addr) (c7 : Nat) (A8 : Option Addr) (c8 : Nat) (A9 : Option Addr) (c9 : Nat) (nx6 : Nat) (t6 : Bool) (t7 : Bool) (u : Nat → Wt) : (u6d2q a2 t1 t2 A1 c1 t4 A4 c4 A5 c5 A6 c6 nx5 t5 A7 c7 A8 c8 A9 c9 nx6 t6 t7 u).map (fun x => x.2.2.map (·.1)) = (u6d2q a2 t1 t2 A1 c1 t4 A4 c4 A5 c5 A6 c6 nx5 t5 A7 c7 A8 c8 A9 c9 nx6 t6 t7 u).map (fun x => x.2.2.map (·.2)) := by kernel_rfl
noncomputable def u6d3l (t6 : Bool) : List Ld :=
 [⟨8, fun x => .bool t6, fun x => [], fun x J => True, fun x J J' h f => trivial⟩]
noncomputable def u6d3g  : List (Nat × ((Nat → Wt) → Value)) := [(2, fun u => .bool true), (6, fun u => .bool true), (10, fun u => .bool false)]
noncomputable def u6d3q (a2 : Int) (t1 : Bool) (t2 : List S48) (A1 : Option Addr) (c1 : Nat) (t4 : S29 × Int) (A4 : Option Addr) (c4 : Nat) (A5 : Option Addr) (c5 : Nat) (A6 : Option Addr) (c6 : Nat) (nx5 : Nat) (t5 : S29 × Int) (A7 : Option Addr) (c7 : Nat) (A8 : Option Addr) (c8 : Nat) (A9 : Option Addr) (c9 : Nat) (nx6 : Nat) (t6 : Bool) (u : Nat → Wt) : Option (List Value × List (Nat × Value) × List (Nat × Nat)) := qSim Try.prog [] [⟨nx5, [.slice A4 t4.1.f0.length c4, .slice A5 t4.1.f1.length c5, .slice A6 t4.1.f2.length c6], 29⟩, ⟨nx6, [.slice A7 t5.1.f0.length c7, .slice A8 t5.1.f1.length c8, .slice A9 t5.1.f2.length c9], 29⟩] O6_52 ⟨104, []⟩ (Ld.vl (u6d3l t6)) u6d3g u [.no, .no, .no, .no, .no, .no, .no, .l 0, .no, .no, .no, .no, .no, .no, .no, .no, .no, .no, .no, .no, .no, .no] 0 (O6_52.take 22) [(17, i6 t5.2), (16, pt nx6 0), (15, i6 t4.2), (14, pt nx5 0), (7, .bool t1), (8, .slice A1 t2.length c1), (9, i6 (W .i64 ((W .i64 (a2.tmod 6)) * 7)))]
noncomputable def u6d3s (t4 : S29 × Int) (A4 : Option Addr) (c4 : Nat) (A5 : Option Addr) (c5 : Nat) (A6 : Option Addr) (c6 : Nat) (t5 : S29 × Int) (t6 : Bool) (u : Nat → Wt) : List Value := [i6 t4.2, .bool (t4.2 == 0), .bool true, i6 t5.2, .bool (t5.2 == 0), .bool (t5.2 == 0), .bool true, .agg #[.slice A4 t4.1.f0.length c4, .slice A5 t4.1.f1.length c5, .slice A6 t4.1.f2.length c6], .bool t6, .bool t6, .bool false, undef, undef, .bool false, .bool false, undef, undef, undef, undef, undef, undef, undef]
noncomputable def u6d3f (a2 : Int) (t1 : Bool) (t2 : List S48) (A1 : Option Addr) (c1 : Nat) (t4 : S29 × Int) (A4 : Option Addr) (c4 : Nat) (A5 : Option Addr) (c5 : Nat) (A6 : Option Addr) (c6 : Nat) (nx5 : Nat) (t5 : S29 × Int) (nx6 : Nat) (t6 : Bool) (i : Nat) (u : Nat → Wt) : List (Nat × Value) := foldPut ⟨104, []⟩ [(17, i6 t5.2), (16, pt nx6 0), (15, i6 t4.2), (14, pt nx5 0), (7, .bool t1), (8, .slice A1 t2.length c1), (9, i6 (W .i64 ((W .i64 (a2.tmod 6)) * 7)))] (O6_52.take i) (((u6d3s t4 A4 c4 A5 c5 A6 c6 t5 t6) u).take i)
theorem u6d3v (a2 : Int) (t1 : Bool) (t2 : List S48) (A1 : Option Addr) (c1 : Nat) (t4 : S29 × Int) (A4 : Option Addr) (c4 : Nat) (A5 : Option Addr) (c5 : Nat) (A6 : Option Addr) (c6 : Nat) (nx5 : Nat) (t5 : S29 × Int) (A7 : Option Addr) (c7 : Nat) (A8 : Option Addr) (c8 : Nat) (A9 : Option Addr) (c9 : Nat) (nx6 : Nat) (t6 : Bool) (u : Nat → Wt) : (u6d3q a2 t1 t2 A1 c1 t4 A4 c4 A5 c5 A6 c6 nx5 t5 A7 c7 A8 c8 A9 c9 nx6 t6 u).map (fun x => (x.1, x.2.1)) = some ((u6d3s t4 A4 c4 A5 c5 A6 c6 t5 t6) u, (u6d3f a2 t1 t2 A1 c1 t4 A4 c4 A5 c5 A6 c6 nx5 t5 nx6 t6 22) u) := by kernel_rfl
theorem u6d3e (a2 : Int) (t1 : Bool) (t2 : List S48) (A1 : Option Addr) (c1 : Nat) (t4 : S29 × Int) (A4 : Option Addr) (c4 : Nat) (A5 : Option Addr) (c5 : Nat) (A6 : Option Addr) (c6 : Nat) (nx5 : Nat) (t5 : S29 × Int) (A7 : Option Addr) (c7 : Nat) (A8 : Option Addr) (c8 : Nat) (A9 : Option Addr) (c9 : Nat) (nx6 : Nat) (t6 : Bool) (u : Nat → Wt) : (u6d3q a2 t1 t2 A1 c1 t4 A4 c4 A5 c5 A6 c6 nx5 t5 A7 c7 A8 c8 A9 c9 nx6 t6 u).map (fun x => x.2.2.map (·.1)) = (u6d3q a2 t1 t2 A1 c1 t4 A4 c4 A5 c5 A6 c6 nx5 t5 A7 c7 A8 c8 A9 c9 nx6 t6 u).map (fun x => x.2.2.map (·.2)) := by kernel_rfl
noncomputable def u6d4l  : List Ld :=
 []
noncomputable def u6d4g  : List (Nat × ((Nat → Wt) → Value)) := [(2, fun u => .bool true), (6, fun u => .bool false)]
noncomputable def u6d4q (a2 : Int) (t1 : Bool) (t2 : List S48) (A1 : Option Addr) (c1 : Nat) (t4 : S29 × Int) (A4 : Option Addr) (c4 : Nat) (A5 : Option Addr) (c5 : Nat) (A6 : Option Addr) (c6 : Nat) (nx5 : Nat) (t5 : S29 × Int) (A7 : Option Addr) (c7 : Nat) (A8 : Option Addr) (c8 : Nat) (A9 : Option Addr) (c9 : Nat) (nx6 : Nat) (u : Nat → Wt) : Option (List Value × List (Nat × Value) × List (Nat × Nat)) := qSim Try.prog [] [⟨nx5, [.slice A4 t4.1.f0.length c4, .slice A5 t4.1.f1.length c5, .slice A6 t4.1.f2.length c6], 29⟩, ⟨nx6, [.slice A7 t5.1.f0.length c7, .slice A8 t5.1.f1.length c8, .slice A9 t5.1.f2.length c9], 29⟩] O6_52 ⟨104, []⟩ (Ld.vl u6d4l) u6d4g u [.no, .no, .no, .no, .no, .no, .no, .no, .no, .no, .no, .no, .no, .no, .no, .no, .no, .no, .no, .no, .no, .no] 0 (O6_52.take 22) [(17, i6 t5.2), (16, pt nx6 0), (15, i6 t4.2), (14, pt nx5 0), (7, .bool t1), (8, .slice A1 t2.length c1), (9, i6 (W .i64 ((W .i64 (a2.tmod 6)) * 7)))]
noncomputable def u6d4s (t4 : S29 × Int) (t5 : S29 × Int) (u : Nat → Wt) : List Value := [i6 t4.2, .bool (t4.2 == 0), .bool true, i6 t5.2, .bool (t5.2 == 0), .bool (t5.2 == 0), .bool false, undef, undef, .bool false, .bool false, undef, undef, .bool false, .bool false, undef, undef, undef, undef, undef, undef, undef]
noncomputable def u6d4f (a2 : Int) (t1 : Bool) (t2 : List S48) (A1 : Option Addr) (c1 : Nat) (t4 : S29 × Int) (nx5 : Nat) (t5 : S29 × Int) (nx6 : Nat) (i : Nat) (u : Nat → Wt) : List (Nat × Value) := foldPut ⟨104, []⟩ [(17, i6 t5.2), (16, pt nx6 0), (15, i6 t4.2), (14, pt nx5 0), (7, .bool t1), (8, .slice A1 t2.length c1), (9, i6 (W .i64 ((W .i64 (a2.tmod 6)) * 7)))] (O6_52.take i) (((u6d4s t4 t5) u).take i)
theorem u6d4v (a2 : Int) (t1 : Bool) (t2 : List S48) (A1 : Option Addr) (c1 : Nat) (t4 : S29 × Int) (A4 : Option Addr) (c4 : Nat) (A5 : Option Addr) (c5 : Nat) (A6 : Option Addr) (c6 : Nat) (nx5 : Nat) (t5 : S29 × Int) (A7 : Option Addr) (c7 : Nat) (A8 : Option Addr) (c8 : Nat) (A9 : Option Addr) (c9 : Nat) (nx6 : Nat) (u : Nat → Wt) : (u6d4q a2 t1 t2 A1 c1 t4 A4 c4 A5 c5 A6 c6 nx5 t5 A7 c7 A8 c8 A9 c9 nx6 u).map (fun x => (x.1, x.2.1)) = some ((u6d4s t4 t5) u, (u6d4f a2 t1 t2 A1 c1 t4 nx5 t5 nx6 22) u) := by kernel_rfl
theorem u6d4e (a2 : Int) (t1 : Bool) (t2 : List S48) (A1 : Option Addr) (c1 : Nat) (t4 : S29 × Int) (A4 : Option Addr) (c4 : Nat) (A5 : Option Addr) (c5 : Nat) (A6 : Option Addr) (c6 : Nat) (nx5 : Nat) (t5 : S29 × Int) (A7 : Option Addr) (c7 : Nat) (A8 : Option Addr) (c8 : Nat) (A9 : Option Addr) (c9 : Nat) (nx6 : Nat) (u : Nat → Wt) : (u6d4q a2 t1 t2 A1 c1 t4 A4 c4 A5 c5 A6 c6 nx5 t5 A7 c7 A8 c8 A9 c9 nx6 u).map (fun x => x.2.2.map (·.1)) = (u6d4q a2 t1 t2 A1 c1 t4 A4 c4 A5 c5 A6 c6 nx5 t5 A7 c7 A8 c8 A9 c9 nx6 u).map (fun x => x.2.2.map (·.2)) := by kernel_rfl
noncomputable def u6d5l  : List Ld :=
 []
noncomputable def u6d5g  : List (Nat × ((Nat → Wt) → Value)) := [(2, fun u => .bool false)]
noncomputable def u6d5q (a2 : Int) (t1 : Bool) (t2 : List S48) (A1 : Option Addr) (c1 : Nat) (t4 : S29 × Int) (A4 : Option Addr) (c4 : Nat) (A5 : Option Addr) (c5 : Nat) (A6 : Option Addr) (c6 : Nat) (nx5 : Nat) (t5 : S29 × Int) (A7 : Option Addr) (c7 : Nat) (A8 : Option Addr) (c8 : Nat) (A9 : Option Addr) (c9 : Nat) (nx6 : Nat) (u : Nat → Wt) : Option (List Value × List (Nat × Value) × List (Nat × Nat)) := qSim Try.prog [] [⟨nx5, [.slice A4 t4.1.f0.length c4, .slice A5 t4.1.f1.length c5, .slice A6 t4.1.f2.length c6], 29⟩, ⟨nx6, [.slice A7 t5.1.f0.length c7, .slice A8 t5.1.f1.length c8, .slice A9 t5.1.f2.length c9], 29⟩] O6_52 ⟨104, []⟩ (Ld.vl u6d5l) u6d5g u [.no, .no, .no, .no, .no, .no, .no, .no, .no, .no, .no, .no, .no, .no, .no, .no, .no, .no, .no, .no, .no, .no] 0 (O6_52.take 22) [(17, i6 t5.2), (16, pt nx6 0), (15, i6 t4.2), (14, pt nx5 0), (7, .bool t1), (8, .slice A1 t2.length c1), (9, i6 (W .i64 ((W .i64 (a2.tmod 6)) * 7)))]
noncomputable def u6d5s (t4 : S29 × Int) (u : Nat → Wt) : List Value := [i6 t4.2, .bool (t4.2 == 0), .bool false, undef, undef, .bool false, .bool false, undef, undef, .bool false, .bool false, undef, undef, .bool false, .bool false, undef, undef, undef, undef, undef, undef, undef]
noncomputable def u6d5f (a2 : Int) (t1 : Bool) (t2 : List S48) (A1 : Option Addr) (c1 : Nat) (t4 : S29 × Int) (nx5 : Nat) (t5 : S29 × Int) (nx6 : Nat) (i : Nat) (u : Nat → Wt) : List (Nat × Value) := foldPut ⟨104, []⟩ [(17, i6 t5.2), (16, pt nx6 0), (15, i6 t4.2), (14, pt nx5 0), (7, .bool t1), (8, .slice A1 t2.length c1), (9, i6 (W .i64 ((W .i64 (a2.tmod 6)) * 7)))] (O6_52.take i) (((u6d5s t4) u).take i)
theorem u6d5v (a2 : Int) (t1 : Bool) (t2 : List S48) (A1 : Option Addr) (c1 : Nat) (t4 : S29 × Int) (A4 : Option Addr) (c4 : Nat) (A5 : Option Addr) (c5 : Nat) (A6 : Option Addr) (c6 : Nat) (nx5 : Nat) (t5 : S29 × Int) (A7 : Option Addr) (c7 : Nat) (A8 : Option Addr) (c8 : Nat) (A9 : Option Addr) (c9 : Nat) (nx6 : Nat) (u : Nat → Wt) : (u6d5q a2 t1 t2 A1 c1 t4 A4 c4 A5 c5 A6 c6 nx5 t5 A7 c7 A8 c8 A9 c9 nx6 u).map (fun x => (x.1, x.2.1)) = some ((u6d5s t4) u, (u6d5f a2 t1 t2 A1 c1 t4 nx5 t5 nx6 22) u) := by kernel_rfl
theorem u6d5e (a2 : Int) (t1 : Bool) (t2 : List S48) (A1 : Option Addr) (c1 : Nat) (t4 : S29 × Int) (A4 : Option Addr) (c4 : Nat) (A5 : Option Addr) (c5 : Nat) (A6 : Option Addr) (c6 : Nat) (nx5 : Nat) (t5 : S29 × Int) (A7 : Option Addr) (c7 : Nat) (A8 : Option Addr) (c8 : Nat) (A9 : Option Addr) (c9 : Nat) (nx6 : Nat) (u : Nat → Wt) : (u6d5q a2 t1 t2 A1 c1 t4 A4 c4 A5 c5 A6 c6 nx5 t5 A7 c7 A8 c8 A9 c9 nx6 u).map (fun x => x.2.2.map (·.1)) = (u6d5q a2 t1 t2 A1 c1 t4 A4 c4 A5 c5 A6 c6 nx5 t5 A7 c7 A8 c8 A9 c9 nx6 u).map (fun x => x.2.2.map (·.2)) := by kernel_rfl
noncomputable def a6_37n : List Nat := [0, 0, 2, 6, 14, 0, 32, 96, 224, 511, 1023]
theorem a6_37 : ancs O6_37 [] = a6_37n := by kernel_rfl
theorem a6_37o : drawOk O6_37 a6_37n 9 = true := by kernel_rfl
noncomputable def u6d6l  : List Ld :=
 []
noncomputable def u6d6g (g2_ : Nat) (g3_ : Nat) : List (Nat × ((Nat → Wt) → Value)) := [(2, fun u => pt g2_ (0 + (0 : Int).toNat * 3)), (6, fun u => pt g3_ (0 + (0 : Int).toNat * 3))]
noncomputable def u6d6q (a1 : List S48) (Ap1 : Option Addr) (cp1 : Nat) (a2 : Int) (t1 : Bool) (t2 : List S48) (A1 : Option Addr) (c1 : Nat) (x3 : List S48) (A10 : Option Addr) (c10 : Nat) (x4 : Int) (nx15 : Nat) (t10 : List S48) (A11 : Option Addr) (c11 : Nat) (g2_ : Nat) (g3_ : Nat) (u : Nat → Wt) : Option (List Value × List (Nat × Value) × List (Nat × Nat)) := qSim Try.prog [(⟨g2_, 0 + (0 : Int).toNat * 3, none⟩, i6 ((t10.getD (0 : Int).toNat z48).f0)), (⟨g3_, 0 + (0 : Int).toNat * 3 + 1, none⟩, i6 ((t10.getD (0 : Int).toNat z48).f1))] [⟨nx15, [i6 (W .i64 (a2.tmod 6)), i6 ((a1.getD (x4).toNat z48).f1), i6 ((a1.getD (x4).toNat z48).f2)], 48⟩] O6_37 ⟨104, []⟩ (Ld.vl u6d6l) (u6d6g g2_ g3_) u [.no, .no, .no, .no, .r 0, .no, .no, .no, .r 1] 0 (O6_37.take 9) [(13, .slice A11 t10.length c11), (1, .slice Ap1 a1.length cp1), (2, .int .u8 a2), (7, .bool t1), (8, .slice A1 t2.length c1), (9, i6 (W .i64 ((W .i64 (a2.tmod 6)) * 7))), (10, .slice A10 x3.length c10), (11, i6 x4)]
noncomputable def u6d6s (x3 : List S48) (A10 : Option Addr) (c10 : Nat) (t10 : List S48) (A11 : Option Addr) (c11 : Nat) (g2_ : Nat) (g3_ : Nat) (u : Nat → Wt) : List Value := [.slice A10 x3.length c10, .slice A11 t10.length c11, pt g2_ (0 + (0 : Int).toNat * 3), pt g2_ (0 + (0 : Int).toNat * 3), i6 ((t10.getD (0 : Int).toNat z48).f0), .slice A11 t10.length c11, pt g3_ (0 + (0 : Int).toNat * 3), pt g3_ (0 + (0 : Int).toNat * 3 + 1), i6 ((t10.getD (0 : Int).toNat z48).f1)]
noncomputable def u6d6f (a1 : List S48) (Ap1 : Option Addr) (cp1 : Nat) (a2 : Int) (t1 : Bool) (t2 : List S48) (A1 : Option Addr) (c1 : Nat) (x3 : List S48) (A10 : Option Addr) (c10 : Nat) (x4 : Int) (t10 : List S48) (A11 : Option Addr) (c11 : Nat) (g2_ : Nat) (g3_ : Nat) (i : Nat) (u : Nat → Wt) : List (Nat × Value) := foldPut ⟨104, []⟩ [(13, .slice A11 t10.length c11), (1, .slice Ap1 a1.length cp1), (2, .int .u8 a2), (7, .bool t1), (8, .slice A1 t2.length c1), (9, i6 (W .i64 ((W .i64 (a2.tmod 6)) * 7))), (10, .slice A10 x3.length c10), (11, i6 x4)] (O6_37.take i) (((u6d6s x3 A10 c10 t10 A11 c11 g2_ g3_) u).take i)
theorem u6d6v (a1 : List S48) (Ap1 : Option Addr) (cp1 : Nat) (a2 : Int) (t1 : Bool) (t2 : List S48) (A1 : Option Addr) (c1 : Nat) (x3 : List S48) (A10 : Option Addr) (c10 : Nat) (x4 : Int) (nx15 : Nat) (t10 : List S48) (A11 : Option Addr) (c11 : Nat) (g2_ : Nat) (g3_ : Nat) (u : Nat → Wt) : (u6d6q a1 Ap1 cp1 a2 t1 t2 A1 c1 x3 A10 c10 x4 nx15 t10 A11 c11 g2_ g3_ u).map (fun x => (x.1, x.2.1)) = some ((u6d6s x3 A10 c10 t10 A11 c11 g2_ g3_) u, (u6d6f a1 Ap1 cp1 a2 t1 t2 A1 c1 x3 A10 c10 x4 t10 A11 c11 g2_ g3_ 9) u) := by kernel_rfl
theorem u6d6e (a1 : List S48) (Ap1 : Option Addr) (cp1 : Nat) (a2 : Int) (t1 : Bool) (t2 : List S48) (A1 : Option Addr) (c1 : Nat) (x3 : List S48) (A10 : Option Addr) (c10 : Nat) (x4 : Int) (nx15 : Nat) (t10 : List S48) (A11 : Option Addr) (c11 : Nat) (g2_ : Nat) (g3_ : Nat) (u : Nat → Wt) : (u6d6q a1 Ap1 cp1 a2 t1 t2 A1 c1 x3 A10 c10 x4 nx15 t10 A11 c11 g2_ g3_ u).map (fun x => x.2.2.map (·.1)) = (u6d6q a1 Ap1 cp1 a2 t1 t2 A1 c1 x3 A10 c10 x4 nx15 t10 A11 c11 g2_ g3_ u).map (fun x => x.2.2.map (·.2)) := by kernel_rfl
theorem armillarylaw23_AuctionTruthful.calls (k : Nat) (I0 : Imm) (a0 : List S48) (Ap0 : Option Addr) (cp0 : Nat) (a1 : List S48) (Ap1 : Option Addr) (cp1 : Nat) (a2 : Int) (w : World) (hI : I0.at_ w) (hlp0 : a0.length ≤ cp0) (hrp0 : Rd t48 I0 Ap0 a0) (hlp1 : a1.length ≤ cp1) (hrp1 : Rd t48 I0 Ap1 a1) (r : Bool) (h : armillarylaw23_AuctionTruthful.f k a0 a1 a2 = some r) :
  Calls Try.prog 6 [.slice Ap0 a0.length cp0, .slice Ap1 a1.length cp1, .int .u8 a2].toArray w fun e w' => ∃ v, e = .returned v ∧ armillarylaw23_AuctionTruthful.Post I0 w r v w' := by
 have H : ((armillarylaw23_sanity.f k ).bind fun t1 => ((armillaryref23_Made.f k a0).bind fun t2 => ((armillaryref23_Except.f k t2 (W .i64 ((W .i64 (a2.tmod 6)) * 7))).bind fun t3 => ((armillarylaw23_AuctionTruthful.l1 a1 a2 k t3 0).bind (armillarylaw23_AuctionTruthful.k2 k a2 t1 t2))))) = some r := h
 clear h
 refine calls_body Try.func6 (by kernel_rfl) 104 (by kernel_rfl) (by kernel_rfl) ⟨w, fun _ => False, I0⟩ I0 [] [(0, .slice Ap0 a0.length cp0), (1, .slice Ap1 a1.length cp1), (2, .int .u8 a2)] (by kernel_rfl) (Sat.start w _ I0 hI) ?_
 generalize w.heap.size = nx0
 show OK _ K6_0 _ _ _ _ _ _ _ _
 refine OK.sr ?_
 refine RL.st 1 [(0, .slice Ap0 a0.length cp0), (1, .slice Ap1 a1.length cp1), (2, .int .u8 a2)] ?_
 refine OK.sr ?_
 obtain ⟨t1, hA1, H⟩ := bnd H
 refine RL.callP 11 [] (some 18) (fun w => armillarylaw23_sanity.Post I0 w t1) (by kernel_rfl) (by kernel_rfl) (fun w hs => armillarylaw23_sanity.calls k I0  w hs.im  t1 hA1) ?_
 rintro w v w' hs ⟨I1, rfl, hg⟩
 have hi1 := hg.le
 refine RL.resume (X' := []) rfl (hs.call hg) ?_
 clear hs hg
 generalize w'.heap.size = nx1
 clear w w'
 refine RL.st 1 [(7, .bool t1), (0, .slice Ap0 a0.length cp0), (1, .slice Ap1 a1.length cp1), (2, .int .u8 a2)] ?_
 refine OK.sr ?_
 refine RL.s 1 [(19, .slice Ap0 a0.length cp0), (7, .bool t1), (1, .slice Ap1 a1.length cp1), (2, .int .u8 a2)] ?_
 obtain ⟨t2, hA2, H⟩ := bnd H
 refine RL.callP 14 [.slice Ap0 a0.length cp0] (some 20) (fun w => armillaryref23_Made.Post I1 w t2) (by kernel_rfl) (by kernel_rfl) (fun w hs => armillaryref23_Made.calls k I1 a0 Ap0 cp0 w hs.im hlp0 (Rd.ext hi1 hrp0) t2 hA2) ?_
 rintro w v w' hs ⟨I2, A1, c1, cs1, rfl, hg, hp1⟩
 have hi2 := hg.le
 refine RL.resume (X' := [orow 48 3 A1 t2.length c1 cs1]) rfl (hs.call hg) ?_
 clear hs hg
 generalize w'.heap.size = nx2
 clear w w'
 refine RL.st 6 [(9, i6 (W .i64 ((W .i64 (a2.tmod 6)) * 7))), (8, .slice A1 t2.length c1), (7, .bool t1), (1, .slice Ap1 a1.length cp1), (2, .int .u8 a2)] ?_
 refine OK.sr ?_
 refine RL.s 2 [(26, i6 (W .i64 ((W .i64 (a2.tmod 6)) * 7))), (25, .slice A1 t2.length c1), (9, i6 (W .i64 ((W .i64 (a2.tmod 6)) * 7))), (8, .slice A1 t2.length c1), (7, .bool t1), (1, .slice Ap1 a1.length cp1), (2, .int .u8 a2)] ?_
 refine RL.freeze (e := 48) (sz := 3) (S := A1) (n := t2.length) (cap := c1) 0 (by kernel_rfl) hp1 rfl (fun I3 hi3 hl1 hr1 => ?_)
 skip
 obtain ⟨t3, hA3, H⟩ := bnd H
 refine RL.callP 27 [.slice A1 t2.length c1, i6 (W .i64 ((W .i64 (a2.tmod 6)) * 7))] (some 27) (fun w => armillaryref23_Except.Post I3 w t3) (by kernel_rfl) (by kernel_rfl) (fun w hs => armillaryref23_Except.calls k I3 t2 A1 c1 (W .i64 ((W .i64 (a2.tmod 6)) * 7)) w hs.im hl1 hr1 t3 hA3) ?_
 rintro w v w' hs ⟨I4, A2, c2, cs2, rfl, hg, hp2⟩
 have hi4 := hg.le
 refine RL.resume (X' := [orow 48 3 A2 t3.length c2 cs2]) rfl (hs.call hg) ?_
 clear hs hg
 generalize w'.heap.size = nx3
 clear w w'
 refine RL.st 1 [(10, .slice A2 t3.length c2), (9, i6 (W .i64 ((W .i64 (a2.tmod 6)) * 7))), (8, .slice A1 t2.length c1), (7, .bool t1), (1, .slice Ap1 a1.length cp1), (2, .int .u8 a2)] ?_
 refine OK.sq ?_
 refine OK.sr ?_
 refine RL.st 1 [(11, i6 0), (10, .slice A2 t3.length c2), (9, i6 (W .i64 ((W .i64 (a2.tmod 6)) * 7))), (8, .slice A1 t2.length c1), (7, .bool t1), (1, .slice Ap1 a1.length cp1), (2, .int .u8 a2)] ?_
 refine OK.join (fun K' I' _ L' X' => ∃ (x1 : List S48) (A3 : Option Addr) (c3 : Nat) (cs3 : List Value), K' = [(7, .bool t1), (8, .slice A1 t2.length c1), (9, i6 (W .i64 ((W .i64 (a2.tmod 6)) * 7))), (10, .slice A3 x1.length c3)] ∧ L' = [] ∧ X' = [orow 48 3 A3 x1.length c3 cs3] ∧ Imm.le I4 I' ∧ Reps t48 I' x1 cs3 ∧ armillarylaw23_AuctionTruthful.k2 k a2 t1 t2 x1 = some r) ?_ ?_
 ·rintro _ I5 nx4 _ _ ⟨x1, A3, c3, cs3, rfl, rfl, rfl, hi5, hp3, H⟩
  rw [armillarylaw23_AuctionTruthful.k2] at H
  refine QN.then_ ?_
  refine OK.sr ?_
  refine RL.s 1 [(67, .slice A1 t2.length c1), (7, .bool t1), (8, .slice A1 t2.length c1), (9, i6 (W .i64 ((W .i64 (a2.tmod 6)) * 7))), (10, .slice A3 x1.length c3)] ?_
  obtain ⟨t4, hA4, H⟩ := bnd H
  refine RL.callP 15 [.slice A1 t2.length c1] (some 68) (fun w => auction_Clear.Post I5 w t4) (by kernel_rfl) (by kernel_rfl) (fun w hs => auction_Clear.calls k I5 t2 A1 c1 w hs.im hl1 (Rd.ext (Imm.le_trans hi4 hi5) hr1) t4 hA4) ?_
  rintro w v w' hs ⟨I6, A4, c4, cs4, A5, c5, cs5, A6, c6, cs6, rfl, hg, hp4, hp5, hp6⟩
  have hi6 := hg.le
  refine RL.resume (X' := [orow 48 3 A3 x1.length c3 cs3, orow 3 1 A4 t4.1.f0.length c4 cs4, orow 3 1 A5 t4.1.f1.length c5 cs5, orow 2 1 A6 t4.1.f2.length c6 cs6]) rfl (hs.call hg) ?_
  clear hs hg
  generalize w'.heap.size = nx5
  clear w w'
  refine RL.freeze (e := 3) (sz := 1) (S := A4) (n := t4.1.f0.length) (cap := c4) 1 (by kernel_rfl) hp4 rfl (fun I7 hi7 hl2 hr2 => ?_)
  skip
  refine RL.freeze (e := 3) (sz := 1) (S := A5) (n := t4.1.f1.length) (cap := c5) 1 (by kernel_rfl) (Reps.ext hi7 hp5) rfl (fun I8 hi8 hl3 hr3 => ?_)
  skip
  refine RL.freeze (e := 2) (sz := 1) (S := A6) (n := t4.1.f2.length) (cap := c6) 1 (by kernel_rfl) (Reps.ext (Imm.le_trans hi7 hi8) hp6) rfl (fun I9 hi9 hl4 hr4 => ?_)
  skip
  refine RL.simP (K' := [(15, i6 t4.2), (14, pt nx5 0), (7, .bool t1), (8, .slice A1 t2.length c1), (9, i6 (W .i64 ((W .i64 (a2.tmod 6)) * 7))), (10, .slice A3 x1.length c3)]) (nx' := nx5 + 1) (L' := [⟨nx5, [.slice A4 t4.1.f0.length c4, .slice A5 t4.1.f1.length c5, .slice A6 t4.1.f2.length c6], 29⟩]) [] (RFacts.nil _ _ _) 6 [.no, .no, .no, .no, .l 0, .no] (by kernel_rfl) (by kernel_rfl) ?_
  refine RL.nt ?_
  refine OK.sr ?_
  refine RL.s 1 [(72, .slice A3 x1.length c3), (15, i6 t4.2), (14, pt nx5 0), (7, .bool t1), (8, .slice A1 t2.length c1), (9, i6 (W .i64 ((W .i64 (a2.tmod 6)) * 7)))] ?_
  refine RL.freeze (e := 48) (sz := 3) (S := A3) (n := x1.length) (cap := c3) 0 (by kernel_rfl) (Reps.ext (Imm.le_trans (Imm.le_trans (Imm.le_trans hi6 hi7) hi8) hi9) hp3) rfl (fun I10 hi10 hl5 hr5 => ?_)
  skip
  obtain ⟨t5, hA5, H⟩ := bnd H
  refine RL.callP 15 [.slice A3 x1.length c3] (some 73) (fun w => auction_Clear.Post I10 w t5) (by kernel_rfl) (by kernel_rfl) (fun w hs => auction_Clear.calls k I10 x1 A3 c3 w hs.im hl5 hr5 t5 hA5) ?_
  rintro w v w' hs ⟨I11, A7, c7, cs7, A8, c8, cs8, A9, c9, cs9, rfl, hg, hp7, hp8, hp9⟩
  have hi11 := hg.le
  refine RL.resume (X' := [orow 3 1 A7 t5.1.f0.length c7 cs7, orow 3 1 A8 t5.1.f1.length c8 cs8, orow 2 1 A9 t5.1.f2.length c9 cs9]) rfl (hs.call hg) ?_
  clear hs hg
  generalize w'.heap.size = nx6
  clear w w'
  refine RL.freeze (e := 3) (sz := 1) (S := A7) (n := t5.1.f0.length) (cap := c7) 0 (by kernel_rfl) hp7 rfl (fun I12 hi12 hl6 hr6 => ?_)
  skip
  refine RL.freeze (e := 3) (sz := 1) (S := A8) (n := t5.1.f1.length) (cap := c8) 0 (by kernel_rfl) (Reps.ext hi12 hp8) rfl (fun I13 hi13 hl7 hr7 => ?_)
  skip
  refine RL.freeze (e := 2) (sz := 1) (S := A9) (n := t5.1.f2.length) (cap := c9) 0 (by kernel_rfl) (Reps.ext (Imm.le_trans hi12 hi13) hp9) rfl (fun I14 hi14 hl8 hr8 => ?_)
  skip
  refine RL.simP (K' := [(17, i6 t5.2), (16, pt nx6 0), (15, i6 t4.2), (14, pt nx5 0), (7, .bool t1), (8, .slice A1 t2.length c1), (9, i6 (W .i64 ((W .i64 (a2.tmod 6)) * 7)))]) (nx' := nx6 + 1) (L' := [⟨nx5, [.slice A4 t4.1.f0.length c4, .slice A5 t4.1.f1.length c5, .slice A6 t4.1.f2.length c6], 29⟩, ⟨nx6, [.slice A7 t5.1.f0.length c7, .slice A8 t5.1.f1.length c8, .slice A9 t5.1.f2.length c9], 29⟩]) [] (RFacts.nil _ _ _) 6 [.no, .no, .no, .no, .l 1, .no] (by kernel_rfl) (by kernel_rfl) ?_
  refine RL.nt ?_
  refine OK.sq ?_
  refine OK.join (fun K' I' _ L' X' => ∃ (x2 : Bool), K' = [(6, .bool x2)] ∧ L' = [⟨nx5, [.slice A4 t4.1.f0.length c4, .slice A5 t4.1.f1.length c5, .slice A6 t4.1.f2.length c6], 29⟩, ⟨nx6, [.slice A7 t5.1.f0.length c7, .slice A8 t5.1.f1.length c8, .slice A9 t5.1.f2.length c9], 29⟩] ∧ X' = [] ∧ Imm.le I14 I' ∧ armillarylaw23_AuctionTruthful.k1 x2 = some r) ?_ ?_
  ·rintro _ I15 nx7 _ _ ⟨x2, rfl, rfl, rfl, hi15, H⟩
   rw [armillarylaw23_AuctionTruthful.k1] at H
   refine QN.then_ ?_
   refine OK.re ?_
   obtain rfl := Option.some.inj H
   refine QN.body rfl [] (RFacts.nil _ _ _) (.no) (.bool x2) (by kernel_rfl) (by kernel_rfl) (by kernel_rfl) ?_ _ (.inr rfl)
   exact fun w' hs' => ⟨_, rfl, I15, rfl, hs'.got _ .slnil⟩
  ·intro Q_1 hJ2 hQ2
   obtain ⟨y2, H, HK2⟩ := bnd H
   refine OK.cases (t4.2 == 0) (fun hb1 => ?_) (fun hb1 => ?_)
   ·have hc1 := (beq_iff_eq.1 hb1)
    rw [if_pos hc1] at H
    refine OK.cases (t5.2 == 0) (fun hb2 => ?_) (fun hb2 => ?_)
    ·have hc2 := (beq_iff_eq.1 hb2)
     rw [if_pos hc2] at H
     obtain ⟨t6, hA6, H⟩ := bnd H
     refine OK.cases t6 (fun hb3 => ?_) (fun hb3 => ?_)
     ·have hc3 := hb3
      rw [if_pos hc3] at H
      obtain ⟨t7, hA7, H⟩ := bnd H
      refine OK.cases t7 (fun hb4 => ?_) (fun hb4 => ?_)
      ·have hc4 := hb4
       rw [if_pos hc4] at H
       obtain ⟨t8, hA8, H⟩ := bnd H
       refine OK.drawnC 14 22 O6_52 a6_52n (by kernel_rfl) (by kernel_rfl) (u6d1l t6 t7 t8) u6d1g [] (RI.nil _) [.no, .no, .no, .no, .no, .no, .no, .l 0, .no, .no, .no, .l 1, .no, .no, .no, .no, .l 1, .no, .no, .no, .l 0, .no] a6_52 a6_52o (by kernel_rfl) (by kernel_rfl) (u6d1s a2 t2 A1 c1 t4 A4 c4 A5 c5 A6 c6 t5 A7 c7 A8 c8 A9 c9 t6 t7 t8) (u6d1f a2 t1 t2 A1 c1 t4 A4 c4 A5 c5 A6 c6 nx5 t5 A7 c7 A8 c8 A9 c9 nx6 t6 t7 t8 22) (u6d1v a2 t1 t2 A1 c1 t4 A4 c4 A5 c5 A6 c6 nx5 t5 A7 c7 A8 c8 A9 c9 nx6 t6 t7 t8) (u6d1e a2 t1 t2 A1 c1 t4 A4 c4 A5 c5 A6 c6 nx5 t5 A7 c7 A8 c8 A9 c9 nx6 t6 t7 t8) [u6d1f a2 t1 t2 A1 c1 t4 A4 c4 A5 c5 A6 c6 nx5 t5 A7 c7 A8 c8 A9 c9 nx6 t6 t7 t8 8, u6d1f a2 t1 t2 A1 c1 t4 A4 c4 A5 c5 A6 c6 nx5 t5 A7 c7 A8 c8 A9 c9 nx6 t6 t7 t8 12, u6d1f a2 t1 t2 A1 c1 t4 A4 c4 A5 c5 A6 c6 nx5 t5 A7 c7 A8 c8 A9 c9 nx6 t6 t7 t8 18] (framesOk.cons (fun u => rfl) (framesOk.cons (fun u => rfl) (framesOk.cons (fun u => rfl) framesOk.nil))) ?_ [u6d1f a2 t1 t2 A1 c1 t4 A4 c4 A5 c5 A6 c6 nx5 t5 A7 c7 A8 c8 A9 c9 nx6 t6 t7 t8 2, u6d1f a2 t1 t2 A1 c1 t4 A4 c4 A5 c5 A6 c6 nx5 t5 A7 c7 A8 c8 A9 c9 nx6 t6 t7 t8 6, u6d1f a2 t1 t2 A1 c1 t4 A4 c4 A5 c5 A6 c6 nx5 t5 A7 c7 A8 c8 A9 c9 nx6 t6 t7 t8 10, u6d1f a2 t1 t2 A1 c1 t4 A4 c4 A5 c5 A6 c6 nx5 t5 A7 c7 A8 c8 A9 c9 nx6 t6 t7 t8 14] (framesOk.cons (fun u => rfl) (framesOk.cons (fun u => rfl) (framesOk.cons (fun u => rfl) (framesOk.cons (fun u => rfl) framesOk.nil)))) ?_ ?_
       ·refine LoudsG.cons ?_ (LoudsG.cons ?_ (LoudsG.cons ?_ (LoudsG.nil)))
        ·intro D u J w hp hJ hs hF
         refine Does.call 25 [.agg #[.slice A4 t4.1.f0.length c4, .slice A5 t4.1.f1.length c5, .slice A6 t4.1.f2.length c6]] (by kernel_rfl) ((armillarylaw23_shaped.calls J t4.1 A4 c4 A5 c5 A6 c6 w hs.im hl2 (Rd.ext (Imm.le_trans (Imm.le_trans (Imm.le_trans (Imm.le_trans (Imm.le_trans (Imm.le_trans (Imm.le_trans hi8 hi9) hi10) hi11) hi12) hi13) hi14) hJ) hr2) hl3 (Rd.ext (Imm.le_trans (Imm.le_trans (Imm.le_trans (Imm.le_trans (Imm.le_trans (Imm.le_trans hi9 hi10) hi11) hi12) hi13) hi14) hJ) hr3) hl4 (Rd.ext (Imm.le_trans (Imm.le_trans (Imm.le_trans (Imm.le_trans (Imm.le_trans hi10 hi11) hi12) hi13) hi14) hJ) hr4) t6 hA6).mono ?_)
         rintro e w' ⟨v, rfl, J2, rfl, hg⟩
         exact ⟨_, rfl, fun _ => (none, 0, []), J2, rfl, hg, trivial⟩
        ·intro D u J w hp hJ hs hF
         refine Does.call 25 [.agg #[.slice A7 t5.1.f0.length c7, .slice A8 t5.1.f1.length c8, .slice A9 t5.1.f2.length c9]] (by kernel_rfl) ((armillarylaw23_shaped.calls J t5.1 A7 c7 A8 c8 A9 c9 w hs.im hl6 (Rd.ext (Imm.le_trans (Imm.le_trans hi13 hi14) hJ) hr6) hl7 (Rd.ext (Imm.le_trans hi14 hJ) hr7) hl8 (Rd.ext hJ hr8) t7 hA7).mono ?_)
         rintro e w' ⟨v, rfl, J2, rfl, hg⟩
         exact ⟨_, rfl, fun _ => (none, 0, []), J2, rfl, hg, trivial⟩
        ·intro D u J w hp hJ hs hF
         refine Does.call 21 [.slice A1 t2.length c1, .agg #[.slice A7 t5.1.f0.length c7, .slice A8 t5.1.f1.length c8, .slice A9 t5.1.f2.length c9], i6 (W .i64 ((W .i64 (a2.tmod 6)) * 7))] (by kernel_rfl) ((auction_Utility.calls k J t2 A1 c1 t5.1 A7 c7 A8 c8 A9 c9 (W .i64 ((W .i64 (a2.tmod 6)) * 7)) w hs.im hl1 (Rd.ext (Imm.le_trans (Imm.le_trans (Imm.le_trans (Imm.le_trans (Imm.le_trans (Imm.le_trans (Imm.le_trans (Imm.le_trans (Imm.le_trans (Imm.le_trans (Imm.le_trans hi4 hi5) hi6) hi7) hi8) hi9) hi10) hi11) hi12) hi13) hi14) hJ) hr1) hl6 (Rd.ext (Imm.le_trans (Imm.le_trans hi13 hi14) hJ) hr6) hl7 (Rd.ext (Imm.le_trans hi14 hJ) hr7) hl8 (Rd.ext hJ hr8) t8 hA8).mono ?_)
         rintro e w' ⟨v, rfl, J2, rfl, hg⟩
         exact ⟨_, rfl, fun _ => (none, 0, []), J2, rfl, hg, trivial⟩
       ·refine Givens.cons (fun u w =>  ?_) (fun _ _ _ => rfl) (Givens.cons (fun u w =>  ?_) (fun _ _ _ => rfl) (Givens.cons (fun u w =>  ?_) (fun _ _ _ => rfl) (Givens.cons (fun u w =>  ?_) (fun _ _ _ => rfl) (Givens.nil))))
        ·exact giv_run (v := .bool (t4.2 == 0)) (by kernel_rfl) (by rw [hb1]; try rfl) w
        ·exact giv_run (v := .bool (t5.2 == 0)) (by kernel_rfl) (by rw [hb2]; try rfl) w
        ·exact giv_run (v := .bool t6) (by kernel_rfl) (by rw [hb3]; try rfl) w
        ·exact giv_run (v := .bool t7) (by kernel_rfl) (by rw [hb4]; try rfl) w
       intro u I16 nx8 hi16 hF
       clear hF
       refine RL.norm (K' := ((97, i6 (W .i64 ((W .i64 (a2.tmod 6)) * 7))) :: (96, .agg #[.slice A4 t4.1.f0.length c4, .slice A5 t4.1.f1.length c5, .slice A6 t4.1.f2.length c6]) :: (95, .slice A1 t2.length c1) :: (94, i6 t8) :: (93, i6 (W .i64 ((W .i64 (a2.tmod 6)) * 7))) :: (92, .agg #[.slice A7 t5.1.f0.length c7, .slice A8 t5.1.f1.length c8, .slice A9 t5.1.f2.length c9]) :: (91, .slice A1 t2.length c1) :: (90, .bool true) :: (89, .bool t7) :: (88, .bool t7) :: (87, .agg #[.slice A7 t5.1.f0.length c7, .slice A8 t5.1.f1.length c8, .slice A9 t5.1.f2.length c9]) :: (86, .bool true) :: (85, .bool t6) :: (84, .bool t6) :: (83, .agg #[.slice A4 t4.1.f0.length c4, .slice A5 t4.1.f1.length c5, .slice A6 t4.1.f2.length c6]) :: (82, .bool true) :: (81, .bool (t5.2 == 0)) :: (80, .bool (t5.2 == 0)) :: (79, i6 t5.2) :: (78, .bool true) :: (77, .bool (t4.2 == 0)) :: (76, i6 t4.2) :: (17, i6 t5.2) :: (16, pt nx6 0) :: (15, i6 t4.2) :: (14, pt nx5 0) :: (7, .bool t1) :: (8, .slice A1 t2.length c1) :: (9, i6 (W .i64 ((W .i64 (a2.tmod 6)) * 7))) :: [])) (X' := []) (by kernel_rfl) rfl rfl rfl ?_
       obtain ⟨t9, hA9, H⟩ := bnd H
       refine RL.callP 21 [.slice A1 t2.length c1, .agg #[.slice A4 t4.1.f0.length c4, .slice A5 t4.1.f1.length c5, .slice A6 t4.1.f2.length c6], i6 (W .i64 ((W .i64 (a2.tmod 6)) * 7))] (some 98) (fun w => auction_Utility.Post I16 w t9) (by kernel_rfl) (by kernel_rfl) (fun w hs => auction_Utility.calls k I16 t2 A1 c1 t4.1 A4 c4 A5 c5 A6 c6 (W .i64 ((W .i64 (a2.tmod 6)) * 7)) w hs.im hl1 (Rd.ext (Imm.le_trans (Imm.le_trans (Imm.le_trans (Imm.le_trans (Imm.le_trans (Imm.le_trans (Imm.le_trans (Imm.le_trans (Imm.le_trans (Imm.le_trans (Imm.le_trans hi4 hi5) hi6) hi7) hi8) hi9) hi10) hi11) hi12) hi13) hi14) hi16) hr1) hl2 (Rd.ext (Imm.le_trans (Imm.le_trans (Imm.le_trans (Imm.le_trans (Imm.le_trans (Imm.le_trans (Imm.le_trans hi8 hi9) hi10) hi11) hi12) hi13) hi14) hi16) hr2) hl3 (Rd.ext (Imm.le_trans (Imm.le_trans (Imm.le_trans (Imm.le_trans (Imm.le_trans (Imm.le_trans hi9 hi10) hi11) hi12) hi13) hi14) hi16) hr3) hl4 (Rd.ext (Imm.le_trans (Imm.le_trans (Imm.le_trans (Imm.le_trans (Imm.le_trans hi10 hi11) hi12) hi13) hi14) hi16) hr4) t9 hA9) ?_
       rintro w v w' hs ⟨I17, rfl, hg⟩
       have hi17 := hg.le
       refine RL.resume (X' := []) rfl (hs.call hg) ?_
       clear hs hg
       generalize w'.heap.size = nx9
       clear w w'
       refine RL.s 3 [(101, .bool (decide (t8 ≤ t9))), (7, .bool t1)] ?_
       refine RL.cases (decide (t8 ≤ t9)) (fun hb => ?_) (fun hb => ?_)
       ·have hc := (of_decide_eq_true hb)
        rw [hb]
        rw [if_pos hc] at H; clear hb
        refine RL.s 3 [(6, .bool t1)] ?_
        refine RL.nil (by kernel_rfl) ?_
        obtain rfl := Option.some.inj H
        exact QN.sb (hJ2 _ _ _ _ _ ⟨t1, rfl, rfl, rfl, (Imm.le_trans hi16 hi17), HK2⟩) (.cons_cons _ (.cons_cons _ .slnil)) (.refl _)
       ·have hc := (of_decide_eq_false hb)
        rw [hb]
        rw [if_neg hc] at H; clear hb
        refine RL.s 3 [(6, .bool false)] ?_
        refine RL.nil (by kernel_rfl) ?_
        obtain rfl := Option.some.inj H
        exact QN.sb (hJ2 _ _ _ _ _ ⟨false, rfl, rfl, rfl, (Imm.le_trans hi16 hi17), HK2⟩) (.cons_cons _ (.cons_cons _ .slnil)) (.refl _)
      ·have hc4 := (Bool.eq_false_iff.1 hb4)
       rw [if_neg hc4] at H
       refine OK.drawnC 14 22 O6_52 a6_52n (by kernel_rfl) (by kernel_rfl) (u6d2l t6 t7) u6d2g [] (RI.nil _) [.no, .no, .no, .no, .no, .no, .no, .l 0, .no, .no, .no, .l 1, .no, .no, .no, .no, .no, .no, .no, .no, .no, .no] a6_52 a6_52o (by kernel_rfl) (by kernel_rfl) (u6d2s t4 A4 c4 A5 c5 A6 c6 t5 A7 c7 A8 c8 A9 c9 t6 t7) (u6d2f a2 t1 t2 A1 c1 t4 A4 c4 A5 c5 A6 c6 nx5 t5 A7 c7 A8 c8 A9 c9 nx6 t6 t7 22) (u6d2v a2 t1 t2 A1 c1 t4 A4 c4 A5 c5 A6 c6 nx5 t5 A7 c7 A8 c8 A9 c9 nx6 t6 t7) (u6d2e a2 t1 t2 A1 c1 t4 A4 c4 A5 c5 A6 c6 nx5 t5 A7 c7 A8 c8 A9 c9 nx6 t6 t7) [u6d2f a2 t1 t2 A1 c1 t4 A4 c4 A5 c5 A6 c6 nx5 t5 A7 c7 A8 c8 A9 c9 nx6 t6 t7 8, u6d2f a2 t1 t2 A1 c1 t4 A4 c4 A5 c5 A6 c6 nx5 t5 A7 c7 A8 c8 A9 c9 nx6 t6 t7 12] (framesOk.cons (fun u => rfl) (framesOk.cons (fun u => rfl) framesOk.nil)) ?_ [u6d2f a2 t1 t2 A1 c1 t4 A4 c4 A5 c5 A6 c6 nx5 t5 A7 c7 A8 c8 A9 c9 nx6 t6 t7 2, u6d2f a2 t1 t2 A1 c1 t4 A4 c4 A5 c5 A6 c6 nx5 t5 A7 c7 A8 c8 A9 c9 nx6 t6 t7 6, u6d2f a2 t1 t2 A1 c1 t4 A4 c4 A5 c5 A6 c6 nx5 t5 A7 c7 A8 c8 A9 c9 nx6 t6 t7 10, u6d2f a2 t1 t2 A1 c1 t4 A4 c4 A5 c5 A6 c6 nx5 t5 A7 c7 A8 c8 A9 c9 nx6 t6 t7 14] (framesOk.cons (fun u => rfl) (framesOk.cons (fun u => rfl) (framesOk.cons (fun u => rfl) (framesOk.cons (fun u => rfl) framesOk.nil)))) ?_ ?_
       ·refine LoudsG.cons ?_ (LoudsG.cons ?_ (LoudsG.nil))
        ·intro D u J w hp hJ hs hF
         refine Does.call 25 [.agg #[.slice A4 t4.1.f0.length c4, .slice A5 t4.1.f1.length c5, .slice A6 t4.1.f2.length c6]] (by kernel_rfl) ((armillarylaw23_shaped.calls J t4.1 A4 c4 A5 c5 A6 c6 w hs.im hl2 (Rd.ext (Imm.le_trans (Imm.le_trans (Imm.le_trans (Imm.le_trans (Imm.le_trans (Imm.le_trans (Imm.le_trans hi8 hi9) hi10) hi11) hi12) hi13) hi14) hJ) hr2) hl3 (Rd.ext (Imm.le_trans (Imm.le_trans (Imm.le_trans (Imm.le_trans (Imm.le_trans (Imm.le_trans hi9 hi10) hi11) hi12) hi13) hi14) hJ) hr3) hl4 (Rd.ext (Imm.le_trans (Imm.le_trans (Imm.le_trans (Imm.le_trans (Imm.le_trans hi10 hi11) hi12) hi13) hi14) hJ) hr4) t6 hA6).mono ?_)
         rintro e w' ⟨v, rfl, J2, rfl, hg⟩
         exact ⟨_, rfl, fun _ => (none, 0, []), J2, rfl, hg, trivial⟩
        ·intro D u J w hp hJ hs hF
         refine Does.call 25 [.agg #[.slice A7 t5.1.f0.length c7, .slice A8 t5.1.f1.length c8, .slice A9 t5.1.f2.length c9]] (by kernel_rfl) ((armillarylaw23_shaped.calls J t5.1 A7 c7 A8 c8 A9 c9 w hs.im hl6 (Rd.ext (Imm.le_trans (Imm.le_trans hi13 hi14) hJ) hr6) hl7 (Rd.ext (Imm.le_trans hi14 hJ) hr7) hl8 (Rd.ext hJ hr8) t7 hA7).mono ?_)
         rintro e w' ⟨v, rfl, J2, rfl, hg⟩
         exact ⟨_, rfl, fun _ => (none, 0, []), J2, rfl, hg, trivial⟩
       ·refine Givens.cons (fun u w =>  ?_) (fun _ _ _ => rfl) (Givens.cons (fun u w =>  ?_) (fun _ _ _ => rfl) (Givens.cons (fun u w =>  ?_) (fun _ _ _ => rfl) (Givens.cons (fun u w =>  ?_) (fun _ _ _ => rfl) (Givens.nil))))
        ·exact giv_run (v := .bool (t4.2 == 0)) (by kernel_rfl) (by rw [hb1]; try rfl) w
        ·exact giv_run (v := .bool (t5.2 == 0)) (by kernel_rfl) (by rw [hb2]; try rfl) w
        ·exact giv_run (v := .bool t6) (by kernel_rfl) (by rw [hb3]; try rfl) w
        ·exact giv_run (v := .bool t7) (by kernel_rfl) (by rw [hb4]; try rfl) w
       intro u I18 nx10 hi18 hF
       clear hF
       refine RL.norm (K' := ((97, undef) :: (96, undef) :: (95, undef) :: (94, undef) :: (93, undef) :: (92, undef) :: (91, undef) :: (90, .bool false) :: (89, .bool t7) :: (88, .bool t7) :: (87, .agg #[.slice A7 t5.1.f0.length c7, .slice A8 t5.1.f1.length c8, .slice A9 t5.1.f2.length c9]) :: (86, .bool true) :: (85, .bool t6) :: (84, .bool t6) :: (83, .agg #[.slice A4 t4.1.f0.length c4, .slice A5 t4.1.f1.length c5, .slice A6 t4.1.f2.length c6]) :: (82, .bool true) :: (81, .bool (t5.2 == 0)) :: (80, .bool (t5.2 == 0)) :: (79, i6 t5.2) :: (78, .bool true) :: (77, .bool (t4.2 == 0)) :: (76, i6 t4.2) :: (17, i6 t5.2) :: (16, pt nx6 0) :: (15, i6 t4.2) :: (14, pt nx5 0) :: (7, .bool t1) :: (8, .slice A1 t2.length c1) :: (9, i6 (W .i64 ((W .i64 (a2.tmod 6)) * 7))) :: [])) (X' := []) (by kernel_rfl) rfl rfl rfl ?_
       refine RL.s 7 [(6, .bool false)] ?_
       refine RL.nil (by kernel_rfl) ?_
       obtain rfl := Option.some.inj H
       exact QN.sb (hJ2 _ _ _ _ _ ⟨false, rfl, rfl, rfl, hi18, HK2⟩) (.cons_cons _ (.cons_cons _ .slnil)) (.refl _)
     ·have hc3 := (Bool.eq_false_iff.1 hb3)
      rw [if_neg hc3] at H
      refine OK.drawnC 14 22 O6_52 a6_52n (by kernel_rfl) (by kernel_rfl) (u6d3l t6) u6d3g [] (RI.nil _) [.no, .no, .no, .no, .no, .no, .no, .l 0, .no, .no, .no, .no, .no, .no, .no, .no, .no, .no, .no, .no, .no, .no] a6_52 a6_52o (by kernel_rfl) (by kernel_rfl) (u6d3s t4 A4 c4 A5 c5 A6 c6 t5 t6) (u6d3f a2 t1 t2 A1 c1 t4 A4 c4 A5 c5 A6 c6 nx5 t5 nx6 t6 22) (u6d3v a2 t1 t2 A1 c1 t4 A4 c4 A5 c5 A6 c6 nx5 t5 A7 c7 A8 c8 A9 c9 nx6 t6) (u6d3e a2 t1 t2 A1 c1 t4 A4 c4 A5 c5 A6 c6 nx5 t5 A7 c7 A8 c8 A9 c9 nx6 t6) [u6d3f a2 t1 t2 A1 c1 t4 A4 c4 A5 c5 A6 c6 nx5 t5 nx6 t6 8] (framesOk.cons (fun u => rfl) framesOk.nil) ?_ [u6d3f a2 t1 t2 A1 c1 t4 A4 c4 A5 c5 A6 c6 nx5 t5 nx6 t6 2, u6d3f a2 t1 t2 A1 c1 t4 A4 c4 A5 c5 A6 c6 nx5 t5 nx6 t6 6, u6d3f a2 t1 t2 A1 c1 t4 A4 c4 A5 c5 A6 c6 nx5 t5 nx6 t6 10] (framesOk.cons (fun u => rfl) (framesOk.cons (fun u => rfl) (framesOk.cons (fun u => rfl) framesOk.nil))) ?_ ?_
      ·refine LoudsG.cons ?_ (LoudsG.nil)
       ·intro D u J w hp hJ hs hF
        refine Does.call 25 [.agg #[.slice A4 t4.1.f0.length c4, .slice A5 t4.1.f1.length c5, .slice A6 t4.1.f2.length c6]] (by kernel_rfl) ((armillarylaw23_shaped.calls J t4.1 A4 c4 A5 c5 A6 c6 w hs.im hl2 (Rd.ext (Imm.le_trans (Imm.le_trans (Imm.le_trans (Imm.le_trans (Imm.le_trans (Imm.le_trans (Imm.le_trans hi8 hi9) hi10) hi11) hi12) hi13) hi14) hJ) hr2) hl3 (Rd.ext (Imm.le_trans (Imm.le_trans (Imm.le_trans (Imm.le_trans (Imm.le_trans (Imm.le_trans hi9 hi10) hi11) hi12) hi13) hi14) hJ) hr3) hl4 (Rd.ext (Imm.le_trans (Imm.le_trans (Imm.le_trans (Imm.le_trans (Imm.le_trans hi10 hi11) hi12) hi13) hi14) hJ) hr4) t6 hA6).mono ?_)
        rintro e w' ⟨v, rfl, J2, rfl, hg⟩
        exact ⟨_, rfl, fun _ => (none, 0, []), J2, rfl, hg, trivial⟩
      ·refine Givens.cons (fun u w =>  ?_) (fun _ _ _ => rfl) (Givens.cons (fun u w =>  ?_) (fun _ _ _ => rfl) (Givens.cons (fun u w =>  ?_) (fun _ _ _ => rfl) (Givens.nil)))
       ·exact giv_run (v := .bool (t4.2 == 0)) (by kernel_rfl) (by rw [hb1]; try rfl) w
       ·exact giv_run (v := .bool (t5.2 == 0)) (by kernel_rfl) (by rw [hb2]; try rfl) w
       ·exact giv_run (v := .bool t6) (by kernel_rfl) (by rw [hb3]; try rfl) w
      intro u I19 nx11 hi19 hF
      clear hF
      refine RL.norm (K' := ((97, undef) :: (96, undef) :: (95, undef) :: (94, undef) :: (93, undef) :: (92, undef) :: (91, undef) :: (90, .bool false) :: (89, .bool false) :: (88, undef) :: (87, undef) :: (86, .bool false) :: (85, .bool t6) :: (84, .bool t6) :: (83, .agg #[.slice A4 t4.1.f0.length c4, .slice A5 t4.1.f1.length c5, .slice A6 t4.1.f2.length c6]) :: (82, .bool true) :: (81, .bool (t5.2 == 0)) :: (80, .bool (t5.2 == 0)) :: (79, i6 t5.2) :: (78, .bool true) :: (77, .bool (t4.2 == 0)) :: (76, i6 t4.2) :: (17, i6 t5.2) :: (16, pt nx6 0) :: (15, i6 t4.2) :: (14, pt nx5 0) :: (7, .bool t1) :: (8, .slice A1 t2.length c1) :: (9, i6 (W .i64 ((W .i64 (a2.tmod 6)) * 7))) :: [])) (X' := []) (by kernel_rfl) rfl rfl rfl ?_
      refine RL.s 7 [(6, .bool false)] ?_
      refine RL.nil (by kernel_rfl) ?_
      obtain rfl := Option.some.inj H
      exact QN.sb (hJ2 _ _ _ _ _ ⟨false, rfl, rfl, rfl, hi19, HK2⟩) (.cons_cons _ (.cons_cons _ .slnil)) (.refl _)
    ·have hc2 := (beq_eq_false_iff_ne.1 hb2)
     rw [if_neg hc2] at H
     refine OK.drawnC 14 22 O6_52 a6_52n (by kernel_rfl) (by kernel_rfl) u6d4l u6d4g [] (RI.nil _) [.no, .no, .no, .no, .no, .no, .no, .no, .no, .no, .no, .no, .no, .no, .no, .no, .no, .no, .no, .no, .no, .no] a6_52 a6_52o (by kernel_rfl) (by kernel_rfl) (u6d4s t4 t5) (u6d4f a2 t1 t2 A1 c1 t4 nx5 t5 nx6 22) (u6d4v a2 t1 t2 A1 c1 t4 A4 c4 A5 c5 A6 c6 nx5 t5 A7 c7 A8 c8 A9 c9 nx6) (u6d4e a2 t1 t2 A1 c1 t4 A4 c4 A5 c5 A6 c6 nx5 t5 A7 c7 A8 c8 A9 c9 nx6) [] framesOk.nil ?_ [u6d4f a2 t1 t2 A1 c1 t4 nx5 t5 nx6 2, u6d4f a2 t1 t2 A1 c1 t4 nx5 t5 nx6 6] (framesOk.cons (fun u => rfl) (framesOk.cons (fun u => rfl) framesOk.nil)) ?_ ?_
     ·refine LoudsG.nil
     ·refine Givens.cons (fun u w =>  ?_) (fun _ _ _ => rfl) (Givens.cons (fun u w =>  ?_) (fun _ _ _ => rfl) (Givens.nil))
      ·exact giv_run (v := .bool (t4.2 == 0)) (by kernel_rfl) (by rw [hb1]; try rfl) w
      ·exact giv_run (v := .bool (t5.2 == 0)) (by kernel_rfl) (by rw [hb2]; try rfl) w
     intro u I20 nx12 hi20 hF
     clear hF
     refine RL.norm (K' := ((97, undef) :: (96, undef) :: (95, undef) :: (94, undef) :: (93, undef) :: (92, undef) :: (91, undef) :: (90, .bool false) :: (89, .bool false) :: (88, undef) :: (87, undef) :: (86, .bool false) :: (85, .bool false) :: (84, undef) :: (83, undef) :: (82, .bool false) :: (81, .bool (t5.2 == 0)) :: (80, .bool (t5.2 == 0)) :: (79, i6 t5.2) :: (78, .bool true) :: (77, .bool (t4.2 == 0)) :: (76, i6 t4.2) :: (17, i6 t5.2) :: (16, pt nx6 0) :: (15, i6 t4.2) :: (14, pt nx5 0) :: (7, .bool t1) :: (8, .slice A1 t2.length c1) :: (9, i6 (W .i64 ((W .i64 (a2.tmod 6)) * 7))) :: [])) (X' := []) (by kernel_rfl) rfl rfl rfl ?_
     refine RL.s 7 [(6, .bool false)] ?_
     refine RL.nil (by kernel_rfl) ?_
     obtain rfl := Option.some.inj H
     exact QN.sb (hJ2 _ _ _ _ _ ⟨false, rfl, rfl, rfl, hi20, HK2⟩) (.cons_cons _ (.cons_cons _ .slnil)) (.refl _)
   ·have hc1 := (beq_eq_false_iff_ne.1 hb1)
    rw [if_neg hc1] at H
    refine OK.drawnC 14 22 O6_52 a6_52n (by kernel_rfl) (by kernel_rfl) u6d5l u6d5g [] (RI.nil _) [.no, .no, .no, .no, .no, .no, .no, .no, .no, .no, .no, .no, .no, .no, .no, .no, .no, .no, .no, .no, .no, .no] a6_52 a6_52o (by kernel_rfl) (by kernel_rfl) (u6d5s t4) (u6d5f a2 t1 t2 A1 c1 t4 nx5 t5 nx6 22) (u6d5v a2 t1 t2 A1 c1 t4 A4 c4 A5 c5 A6 c6 nx5 t5 A7 c7 A8 c8 A9 c9 nx6) (u6d5e a2 t1 t2 A1 c1 t4 A4 c4 A5 c5 A6 c6 nx5 t5 A7 c7 A8 c8 A9 c9 nx6) [] framesOk.nil ?_ [u6d5f a2 t1 t2 A1 c1 t4 nx5 t5 nx6 2] (framesOk.cons (fun u => rfl) framesOk.nil) ?_ ?_
    ·refine LoudsG.nil
    ·refine Givens.cons (fun u w =>  ?_) (fun _ _ _ => rfl) (Givens.nil)
     ·exact giv_run (v := .bool (t4.2 == 0)) (by kernel_rfl) (by rw [hb1]; try rfl) w
    intro u I21 nx13 hi21 hF
    clear hF
    refine RL.norm (K' := ((97, undef) :: (96, undef) :: (95, undef) :: (94, undef) :: (93, undef) :: (92, undef) :: (91, undef) :: (90, .bool false) :: (89, .bool false) :: (88, undef) :: (87, undef) :: (86, .bool false) :: (85, .bool false) :: (84, undef) :: (83, undef) :: (82, .bool false) :: (81, .bool false) :: (80, undef) :: (79, undef) :: (78, .bool false) :: (77, .bool (t4.2 == 0)) :: (76, i6 t4.2) :: (17, i6 t5.2) :: (16, pt nx6 0) :: (15, i6 t4.2) :: (14, pt nx5 0) :: (7, .bool t1) :: (8, .slice A1 t2.length c1) :: (9, i6 (W .i64 ((W .i64 (a2.tmod 6)) * 7))) :: [])) (X' := []) (by kernel_rfl) rfl rfl rfl ?_
    refine RL.s 7 [(6, .bool false)] ?_
    refine RL.nil (by kernel_rfl) ?_
    obtain rfl := Option.some.inj H
    exact QN.sb (hJ2 _ _ _ _ _ ⟨false, rfl, rfl, rfl, hi21, HK2⟩) (.cons_cons _ (.cons_cons _ .slnil)) (.refl _)
 ·intro Q_2 hJ1 hQ1
  obtain ⟨y1, H, HK1⟩ := bnd H
  refine OK.bk 0 ?_
  refine OK.sub (K' := [(1, .slice Ap1 a1.length cp1), (2, .int .u8 a2), (7, .bool t1), (8, .slice A1 t2.length c1), (9, i6 (W .i64 ((W .i64 (a2.tmod 6)) * 7))), (10, .slice A2 t3.length c2), (11, i6 0)]) (L' := []) (by kernel_rfl) .slnil (.refl _) ?_
  refine OK.lp (fun n_ K' I' _ L' X' => ∃ (x3 : List S48) (x4 : Int) (A10 : Option Addr) (c10 : Nat) (cs10 : List Value), K' = [(1, .slice Ap1 a1.length cp1), (2, .int .u8 a2), (7, .bool t1), (8, .slice A1 t2.length c1), (9, i6 (W .i64 ((W .i64 (a2.tmod 6)) * 7))), (10, .slice A10 x3.length c10), (11, i6 x4)] ∧ L' = [] ∧ X' = [orow 48 3 A10 x3.length c10 cs10] ∧ Imm.le I4 I' ∧ Reps t48 I' x3 cs10 ∧ armillarylaw23_AuctionTruthful.l1 a1 a2 n_ x3 x4 = some y1) k ⟨t3, 0, A2, c2, cs2, rfl, rfl, rfl, (Imm.le_refl _), hp2, H⟩ ?_ ?_
  ·rintro _ _ _ _ _ ⟨x3, x4, A10, c10, cs10, rfl, rfl, rfl, _, hp10, H⟩
   cases H
  ·rintro kq1 _ I22 nx14 _ _ ⟨x3, x4, A10, c10, cs10, rfl, rfl, rfl, hi22, hp10, H⟩ Q_l1 hJ3 hQ3
   rw [armillarylaw23_AuctionTruthful.l1] at H
   refine OK.sq ?_
   refine OK.sq ?_
   refine OK.join (fun K' I' _ L' X' => ∃ (x5 : Bool), K' = [(1, .slice Ap1 a1.length cp1), (2, .int .u8 a2), (7, .bool t1), (8, .slice A1 t2.length c1), (9, i6 (W .i64 ((W .i64 (a2.tmod 6)) * 7))), (10, .slice A10 x3.length c10), (11, i6 x4), (35, .bool x5)] ∧ L' = [] ∧ X' = [orow 48 3 A10 x3.length c10 cs10] ∧ Imm.le I22 I' ∧ (if x5 = true then (if 0 ≤ x4 then (if x4 < (a1.length : Int) then ((armillaryref23_Made.f kq1 [(⟨W .i64 (a2.tmod 6), (a1.getD (x4).toNat z48).f1, (a1.getD (x4).toNat z48).f2⟩ : S48)]).bind fun t10 => (if 0 < (t10.length : Int) then (if 0 < (t10.length : Int) then ((armillaryref23_Value.f kq1 x3 ((t10.getD (0 : Int).toNat z48).f0) ((t10.getD (0 : Int).toNat z48).f1)).bind fun t11 => ((if t11 = 0 then (if 0 < (t10.length : Int) then (if (x3.length + [(t10.getD (0 : Int).toNat z48)].length) * 24 ≤ 140737488355328 then (some (x3 ++ [(t10.getD (0 : Int).toNat z48)])) else none) else none) else (some x3)).bind (fun x6 => (armillarylaw23_AuctionTruthful.l1 a1 a2 kq1 x6 (W .i64 (x4 + 1)))))) else none) else none)) else none) else none) else (some x3)) = some y1) ?_ ?_
   ·rintro _ I23 nx15 _ _ ⟨x5, rfl, rfl, rfl, hi23, H⟩
    replace H : (if x5 = true then (if 0 ≤ x4 then (if x4 < (a1.length : Int) then ((armillaryref23_Made.f kq1 [(⟨W .i64 (a2.tmod 6), (a1.getD (x4).toNat z48).f1, (a1.getD (x4).toNat z48).f2⟩ : S48)]).bind fun t10 => (if 0 < (t10.length : Int) then (if 0 < (t10.length : Int) then ((armillaryref23_Value.f kq1 x3 ((t10.getD (0 : Int).toNat z48).f0) ((t10.getD (0 : Int).toNat z48).f1)).bind fun t11 => ((if t11 = 0 then (if 0 < (t10.length : Int) then (if (x3.length + [(t10.getD (0 : Int).toNat z48)].length) * 24 ≤ 140737488355328 then (some (x3 ++ [(t10.getD (0 : Int).toNat z48)])) else none) else none) else (some x3)).bind (fun x6 => (armillarylaw23_AuctionTruthful.l1 a1 a2 kq1 x6 (W .i64 (x4 + 1)))))) else none) else none)) else none) else none) else (some x3)) = some y1 := H
    refine QN.then_ ?_
    refine OK.cd x5 (fun hb => ?_) (fun hb => ?_)
    ·skip
     have hc := hb
     rw [if_pos hc] at H
     clear hb
     refine OK.skt ?_
     refine OK.sq ?_
     refine OK.bk 1 ?_
     refine OK.sr ?_
     refine RL.s 2 [(39, i6 x4), (38, .slice Ap1 a1.length cp1), (1, .slice Ap1 a1.length cp1), (2, .int .u8 a2), (7, .bool t1), (8, .slice A1 t2.length c1), (9, i6 (W .i64 ((W .i64 (a2.tmod 6)) * 7))), (10, .slice A10 x3.length c10), (11, i6 x4)] ?_
     obtain ⟨hib0, H⟩ := ifs H
     obtain ⟨hib1, H⟩ := ifs H
     obtain ⟨g1_, o1_, hA1_, hc1_⟩ := t48_at (Rd.ext (Imm.le_trans (Imm.le_trans (Imm.le_trans (Imm.le_trans (Imm.le_trans hi1 hi2) hi3) hi4) hi22) hi23) hrp1) x4 hib0 hib1
     refine RL.idx 3 .i64 x4 hA1_ a1.length cp1 (some 40) (by kernel_rfl) (by kernel_rfl) (T := 22) (e := 48) (by kernel_rfl) (by kernel_rfl) hib0 hib1 (K' := [(40, pt g1_ (o1_ + (x4).toNat * 3)), (39, i6 x4), (38, .slice Ap1 a1.length cp1), (1, .slice Ap1 a1.length cp1), (2, .int .u8 a2), (7, .bool t1), (8, .slice A1 t2.length c1), (9, i6 (W .i64 ((W .i64 (a2.tmod 6)) * 7))), (10, .slice A10 x3.length c10), (11, i6 x4)]) (by kernel_rfl) ?_
     refine RL.simP (K' := [(12, pt nx15 0), (1, .slice Ap1 a1.length cp1), (2, .int .u8 a2), (7, .bool t1), (8, .slice A1 t2.length c1), (9, i6 (W .i64 ((W .i64 (a2.tmod 6)) * 7))), (10, .slice A10 x3.length c10), (11, i6 x4)]) (nx' := nx15 + 1) (L' := [⟨nx15, [i6 ((a1.getD (x4).toNat z48).f0), i6 ((a1.getD (x4).toNat z48).f1), i6 ((a1.getD (x4).toNat z48).f2)], 48⟩]) [(⟨g1_, o1_ + (x4).toNat * 3, none⟩, i6 ((a1.getD (x4).toNat z48).f0)), (⟨g1_, o1_ + (x4).toNat * 3 + 1, none⟩, i6 ((a1.getD (x4).toNat z48).f1)), (⟨g1_, o1_ + (x4).toNat * 3 + 2, none⟩, i6 ((a1.getD (x4).toNat z48).f2))] (RFacts.imm (hc1_ 0 _ rfl) (RFacts.imm (hc1_ 1 _ rfl) (RFacts.imm (hc1_ 2 _ rfl) (RFacts.nil _ _ _)))) 3 [.r 0, .no, .l 0] (by kernel_rfl) (by kernel_rfl) ?_
     refine RL.nt ?_
     refine OK.sr ?_
     refine RL.simP (K' := [(12, pt nx15 0), (1, .slice Ap1 a1.length cp1), (2, .int .u8 a2), (7, .bool t1), (8, .slice A1 t2.length c1), (9, i6 (W .i64 ((W .i64 (a2.tmod 6)) * 7))), (10, .slice A10 x3.length c10), (11, i6 x4)]) (nx' := nx15 + 1) (L' := [⟨nx15, [i6 (W .i64 (a2.tmod 6)), i6 ((a1.getD (x4).toNat z48).f1), i6 ((a1.getD (x4).toNat z48).f2)], 48⟩]) [] (RFacts.nil _ _ _) 5 [.no, .no, .no, .no, .l 0] (by kernel_rfl) (by kernel_rfl) ?_
     refine RL.nt ?_
     refine OK.sr ?_
     refine RL.simP (K' := [(47, .slice (some ⟨nx15 + 1, 0, none⟩) 1 1), (1, .slice Ap1 a1.length cp1), (2, .int .u8 a2), (7, .bool t1), (8, .slice A1 t2.length c1), (9, i6 (W .i64 ((W .i64 (a2.tmod 6)) * 7))), (10, .slice A10 x3.length c10), (11, i6 x4)]) (nx' := nx15 + 2) (L' := [⟨nx15, [i6 (W .i64 (a2.tmod 6)), i6 ((a1.getD (x4).toNat z48).f1), i6 ((a1.getD (x4).toNat z48).f2)], 48⟩, ⟨nx15 + 1, [i6 (W .i64 (a2.tmod 6)), i6 ((a1.getD (x4).toNat z48).f1), i6 ((a1.getD (x4).toNat z48).f2)], 48⟩]) [] (RFacts.nil _ _ _) 2 [.l 0, .no] (by kernel_rfl) (by kernel_rfl) ?_
     refine RL.freezeL (d := t48) (xs := [(⟨W .i64 (a2.tmod 6), (a1.getD (x4).toNat z48).f1, (a1.getD (x4).toNat z48).f2⟩ : S48)]) (b := ⟨nx15 + 1, [i6 (W .i64 (a2.tmod 6)), i6 ((a1.getD (x4).toNat z48).f1), i6 ((a1.getD (x4).toNat z48).f2)], 48⟩) 1 (by kernel_rfl) ⟨_, _, rfl, (t48_mk _ _), rfl⟩ (Nat.le_of_ble_eq_true rfl) (fun I24 hi24 hr9 => ?_)
     obtain ⟨t10, hA10, H⟩ := bnd H
     refine RL.callP 14 [.slice (some ⟨nx15 + 1, 0, none⟩) 1 1] (some 48) (fun w => armillaryref23_Made.Post I24 w t10) (by kernel_rfl) (by kernel_rfl) (fun w hs => armillaryref23_Made.calls kq1 I24 [(⟨W .i64 (a2.tmod 6), (a1.getD (x4).toNat z48).f1, (a1.getD (x4).toNat z48).f2⟩ : S48)] (some ⟨nx15 + 1, 0, none⟩) 1 w hs.im (Nat.le_of_ble_eq_true rfl) hr9 t10 hA10) ?_
     rintro w v w' hs ⟨I25, A11, c11, cs11, rfl, hg, hp11⟩
     have hi25 := hg.le
     refine RL.resume (X' := [orow 48 3 A10 x3.length c10 cs10, orow 48 3 A11 t10.length c11 cs11]) rfl (hs.call hg) ?_
     clear hs hg
     generalize w'.heap.size = nx16
     clear w w'
     refine RL.st 1 [(13, .slice A11 t10.length c11), (1, .slice Ap1 a1.length cp1), (2, .int .u8 a2), (7, .bool t1), (8, .slice A1 t2.length c1), (9, i6 (W .i64 ((W .i64 (a2.tmod 6)) * 7))), (10, .slice A10 x3.length c10), (11, i6 x4)] ?_
     refine OK.sq ?_
     have hi0_1 : (0 : Int) ≤ 0 := by decide
     obtain ⟨hi1_1, H⟩ := ifs H
     refine OK.ownAddr (e := 48) (sz := 3) (S := A11) (n := t10.length) (cap := c11) (cs := cs11) 1 (by kernel_rfl) (by omega) (fun g2_ hA2_ => ?_)
     have hc2_ := t48_own hp11 0 hi0_1 hi1_1
     have hx02_ := hi0_1; have hx12_ := hi1_1
     have hi0_2 : (0 : Int) ≤ 0 := by decide
     obtain ⟨hi1_2, H⟩ := ifs H
     refine OK.ownAddr (e := 48) (sz := 3) (S := A11) (n := t10.length) (cap := c11) (cs := cs11) 1 (by kernel_rfl) (by omega) (fun g3_ hA3_ => ?_)
     have hc3_ := t48_own hp11 0 hi0_2 hi1_2
     have hx03_ := hi0_2; have hx13_ := hi1_2
     refine OK.drawnC 10 9 O6_37 a6_37n (by kernel_rfl) (by kernel_rfl) u6d6l (u6d6g g2_ g3_) [(⟨g2_, 0 + (0 : Int).toNat * 3, none⟩, i6 ((t10.getD (0 : Int).toNat z48).f0)), (⟨g3_, 0 + (0 : Int).toNat * 3 + 1, none⟩, i6 ((t10.getD (0 : Int).toNat z48).f1))] (RI.own (e := 48) (sz := 3) (S := A11) (n := t10.length) (cap := c11) (cs := cs11) 1 (by kernel_rfl) hA2_ (0 + (0 : Int).toNat * 3) ((0 : Int).toNat * 3 + 0) (by omega) (hc2_ 0 _ rfl) (RI.own (e := 48) (sz := 3) (S := A11) (n := t10.length) (cap := c11) (cs := cs11) 1 (by kernel_rfl) hA3_ (0 + (0 : Int).toNat * 3 + 1) ((0 : Int).toNat * 3 + 1) (by omega) (hc3_ 1 _ rfl) (RI.nil _))) [.no, .no, .no, .no, .r 0, .no, .no, .no, .r 1] a6_37 a6_37o (by kernel_rfl) (by kernel_rfl) (u6d6s x3 A10 c10 t10 A11 c11 g2_ g3_) (u6d6f a1 Ap1 cp1 a2 t1 t2 A1 c1 x3 A10 c10 x4 t10 A11 c11 g2_ g3_ 9) (u6d6v a1 Ap1 cp1 a2 t1 t2 A1 c1 x3 A10 c10 x4 nx15 t10 A11 c11 g2_ g3_) (u6d6e a1 Ap1 cp1 a2 t1 t2 A1 c1 x3 A10 c10 x4 nx15 t10 A11 c11 g2_ g3_) [] framesOk.nil ?_ [u6d6f a1 Ap1 cp1 a2 t1 t2 A1 c1 x3 A10 c10 x4 t10 A11 c11 g2_ g3_ 2, u6d6f a1 Ap1 cp1 a2 t1 t2 A1 c1 x3 A10 c10 x4 t10 A11 c11 g2_ g3_ 6] (framesOk.cons (fun u => rfl) (framesOk.cons (fun u => rfl) framesOk.nil)) ?_ ?_
     ·refine LoudsG.nil
     ·refine Givens.cons (fun u w =>  ?_) (fun _ _ _ => rfl) (Givens.cons (fun u w =>  ?_) (fun _ _ _ => rfl) (Givens.nil))
      ·exact giv_idx (T := 22) (e := 48) 3 .i64 0 hA2_ t10.length c11 (by kernel_rfl) (by kernel_rfl) (by kernel_rfl) hi0_1 hi1_1 w
      ·exact giv_idx (T := 22) (e := 48) 3 .i64 0 hA3_ t10.length c11 (by kernel_rfl) (by kernel_rfl) (by kernel_rfl) hi0_2 hi1_2 w
     intro u I26 nx17 hi26 hF
     clear hF
     refine RL.norm (K' := [(57, i6 ((t10.getD (0 : Int).toNat z48).f1)), (56, pt g3_ (0 + (0 : Int).toNat * 3 + 1)), (55, pt g3_ (0 + (0 : Int).toNat * 3)), (54, .slice A11 t10.length c11), (53, i6 ((t10.getD (0 : Int).toNat z48).f0)), (52, pt g2_ (0 + (0 : Int).toNat * 3)), (51, pt g2_ (0 + (0 : Int).toNat * 3)), (50, .slice A11 t10.length c11), (49, .slice A10 x3.length c10), (13, .slice A11 t10.length c11), (1, .slice Ap1 a1.length cp1), (2, .int .u8 a2), (7, .bool t1), (8, .slice A1 t2.length c1), (9, i6 (W .i64 ((W .i64 (a2.tmod 6)) * 7))), (10, .slice A10 x3.length c10), (11, i6 x4)]) (X' := [orow 48 3 A10 x3.length c10 cs10, orow 48 3 A11 t10.length c11 cs11]) (by kernel_rfl) rfl rfl rfl ?_
     obtain ⟨t11, hA11, H⟩ := bnd H
     refine RL.callP 26 [.slice A10 x3.length c10, i6 ((t10.getD (0 : Int).toNat z48).f0), i6 ((t10.getD (0 : Int).toNat z48).f1)] (some 58) (fun w v w' => ∃ I', Imm.le I26 I' ∧ armillaryref23_Value.Post I' w t11 v w') (by kernel_rfl) (by kernel_rfl) (fun w hs => ?_) ?_
     ·skip
      obtain ⟨JL1, hj1, hn1, hw1, hs⟩ := Sat.freeze (e := 48) (sz := 3) (S := A10) (n := x3.length) (cap := c10) (m := 0) hs (by kernel_rfl) (Reps.ext (Imm.le_trans (Imm.le_trans (Imm.le_trans hi23 hi24) hi25) hi26) hp10) rfl
      exact (armillaryref23_Value.calls kq1 JL1 x3 A10 c10 ((t10.getD (0 : Int).toNat z48).f0) ((t10.getD (0 : Int).toNat z48).f1) _ hs.im hn1 hw1 t11 hA11).mono (fun e w' ⟨v, hv, hp⟩ => ⟨v, hv, JL1, hj1, hp⟩)
     rintro w v w' hs ⟨I', hle, J, rfl, hg⟩
     refine RL.resume (X' := [orow 48 3 A10 x3.length c10 cs10, orow 48 3 A11 t10.length c11 cs11]) rfl (hs.call (hg.back hle)) ?_
     clear hs hg hle I' J
     generalize w'.heap.size = nx18
     clear w w'
     refine RL.st 1 [(59, .bool (t11 == 0)), (13, .slice A11 t10.length c11), (1, .slice Ap1 a1.length cp1), (2, .int .u8 a2), (7, .bool t1), (8, .slice A1 t2.length c1), (9, i6 (W .i64 ((W .i64 (a2.tmod 6)) * 7))), (10, .slice A10 x3.length c10), (11, i6 x4)] ?_
     refine OK.join (fun K' I' _ L' X' => ∃ (x6 : List S48) (A12 : Option Addr) (c12 : Nat) (cs12 : List Value), K' = [(1, .slice Ap1 a1.length cp1), (2, .int .u8 a2), (7, .bool t1), (8, .slice A1 t2.length c1), (9, i6 (W .i64 ((W .i64 (a2.tmod 6)) * 7))), (10, .slice A12 x6.length c12), (11, i6 x4)] ∧ L' = [⟨nx15, [i6 (W .i64 (a2.tmod 6)), i6 ((a1.getD (x4).toNat z48).f1), i6 ((a1.getD (x4).toNat z48).f2)], 48⟩] ∧ X' = [orow 48 3 A12 x6.length c12 cs12] ∧ Imm.le I26 I' ∧ Reps t48 I' x6 cs12 ∧ (armillarylaw23_AuctionTruthful.l1 a1 a2 kq1 x6 (W .i64 (x4 + 1))) = some y1) ?_ ?_
     ·rintro _ I27 nx19 _ _ ⟨x6, A12, c12, cs12, rfl, rfl, rfl, hi27, hp12, H⟩
      replace H : (armillarylaw23_AuctionTruthful.l1 a1 a2 kq1 x6 (W .i64 (x4 + 1))) = some y1 := H
      refine QN.blkN ?_
      refine QN.then_ ?_
      refine OK.rg ?_
      refine RL.s 3 [(11, i6 (W .i64 (x4 + 1))), (1, .slice Ap1 a1.length cp1), (2, .int .u8 a2), (7, .bool t1), (8, .slice A1 t2.length c1), (9, i6 (W .i64 ((W .i64 (a2.tmod 6)) * 7))), (10, .slice A12 x6.length c12)] ?_
      refine RL.nil (by kernel_rfl) ?_
      exact QN.sb (hJ3 _ _ _ _ _ ⟨x6, W .i64 (x4 + 1), A12, c12, cs12, rfl, rfl, rfl, (Imm.le_trans (Imm.le_trans (Imm.le_trans (Imm.le_trans (Imm.le_trans hi22 hi23) hi24) hi25) hi26) hi27), hp12, H⟩) (.cons _ .slnil) (.refl _)
     ·intro Q_3 hJ5 hQ5
      obtain ⟨y4, H, HK4⟩ := bnd H
      refine OK.cd (t11 == 0) (fun hb => ?_) (fun hb => ?_)
      ·skip
       have hc := (beq_iff_eq.1 hb)
       rw [if_pos hc] at H
       clear hb
       refine OK.rg ?_
       refine RL.s 2 [(61, .slice A11 t10.length c11), (60, .slice A10 x3.length c10), (1, .slice Ap1 a1.length cp1), (2, .int .u8 a2), (7, .bool t1), (8, .slice A1 t2.length c1), (9, i6 (W .i64 ((W .i64 (a2.tmod 6)) * 7))), (10, .slice A10 x3.length c10), (11, i6 x4)] ?_
       have hib0 : (0 : Int) ≤ 0 := by decide
       obtain ⟨hib1, H⟩ := ifs H
       have hx04_ := hib0; have hx14_ := hib1
       refine RL.ownAddr (e := 48) (sz := 3) (S := A11) (n := t10.length) (cap := c11) (cs := cs11) 1 (by kernel_rfl) (by omega) (fun g4_ hA4_ => ?_)
       have hc4_ := t48_own (Reps.ext hi26 hp11) 0 hib0 hib1
       refine RL.idx 3 .i64 0 hA4_ t10.length c11 (some 62) (by kernel_rfl) (by kernel_rfl) (T := 22) (e := 48) (by kernel_rfl) (by kernel_rfl) hib0 hib1 (K' := [(62, pt g4_ (0 + (0 : Int).toNat * 3)), (61, .slice A11 t10.length c11), (60, .slice A10 x3.length c10), (1, .slice Ap1 a1.length cp1), (2, .int .u8 a2), (7, .bool t1), (8, .slice A1 t2.length c1), (9, i6 (W .i64 ((W .i64 (a2.tmod 6)) * 7))), (10, .slice A10 x3.length c10), (11, i6 x4)]) (by kernel_rfl) ?_
       refine RL.simP (K' := [(64, .slice (some ⟨nx18, 0, none⟩) 1 1), (60, .slice A10 x3.length c10), (1, .slice Ap1 a1.length cp1), (2, .int .u8 a2), (7, .bool t1), (8, .slice A1 t2.length c1), (9, i6 (W .i64 ((W .i64 (a2.tmod 6)) * 7))), (10, .slice A10 x3.length c10), (11, i6 x4)]) (nx' := nx18 + 1) (L' := [⟨nx15, [i6 (W .i64 (a2.tmod 6)), i6 ((a1.getD (x4).toNat z48).f1), i6 ((a1.getD (x4).toNat z48).f2)], 48⟩, ⟨nx18, [i6 ((t10.getD (0 : Int).toNat z48).f0), i6 ((t10.getD (0 : Int).toNat z48).f1), i6 ((t10.getD (0 : Int).toNat z48).f2)], 48⟩]) [(⟨g4_, 0 + (0 : Int).toNat * 3, none⟩, i6 ((t10.getD (0 : Int).toNat z48).f0)), (⟨g4_, 0 + (0 : Int).toNat * 3 + 1, none⟩, i6 ((t10.getD (0 : Int).toNat z48).f1)), (⟨g4_, 0 + (0 : Int).toNat * 3 + 2, none⟩, i6 ((t10.getD (0 : Int).toNat z48).f2))] (RFacts.ownQ (e := 48) (sz := 3) (S := A11) (n := t10.length) (cap := c11) (cs := cs11) 1 (by kernel_rfl) hA4_ (0 + (0 : Int).toNat * 3) ((0 : Int).toNat * 3 + 0) (by omega) (hc4_ 0 _ rfl) (RFacts.ownQ (e := 48) (sz := 3) (S := A11) (n := t10.length) (cap := c11) (cs := cs11) 1 (by kernel_rfl) hA4_ (0 + (0 : Int).toNat * 3 + 1) ((0 : Int).toNat * 3 + 1) (by omega) (hc4_ 1 _ rfl) (RFacts.ownQ (e := 48) (sz := 3) (S := A11) (n := t10.length) (cap := c11) (cs := cs11) 1 (by kernel_rfl) hA4_ (0 + (0 : Int).toNat * 3 + 2) ((0 : Int).toNat * 3 + 2) (by omega) (hc4_ 2 _ rfl) (RFacts.nil _ _ _)))) 2 [.r 0, .no] (by kernel_rfl) (by kernel_rfl) ?_
       obtain ⟨hz1, H⟩ := ifs H
       refine RL.appendB (T := 22) (e := 48) (S := A10) 3 24 22 c10 1 1 nx18 48 cs10 [i6 ((t10.getD (0 : Int).toNat z48).f0), i6 ((t10.getD (0 : Int).toNat z48).f1), i6 ((t10.getD (0 : Int).toNat z48).f2)] t48 x3 [(t10.getD (0 : Int).toNat z48)] 0 (some 65) (by kernel_rfl) (by kernel_rfl) (by kernel_rfl) (by kernel_rfl) (by kernel_rfl) (by decide) (by kernel_rfl) (Reps.ext (Imm.le_trans (Imm.le_trans (Imm.le_trans hi23 hi24) hi25) hi26) hp10) (by kernel_rfl) ⟨_, _, rfl, (t48_mk _ _), rfl⟩ hz1 (by omega) (fun A13 c13 nx20 cs13 hp13 => ?_)
       refine RL.sub (K' := [(65, .slice A13 ((x3 ++ [(t10.getD (0 : Int).toNat z48)]).length) c13), (64, .slice (some ⟨nx18, 0, none⟩) 1 1), (1, .slice Ap1 a1.length cp1), (2, .int .u8 a2), (7, .bool t1), (8, .slice A1 t2.length c1), (9, i6 (W .i64 ((W .i64 (a2.tmod 6)) * 7))), (11, i6 x4)]) (L' := [⟨nx15, [i6 (W .i64 (a2.tmod 6)), i6 ((a1.getD (x4).toNat z48).f1), i6 ((a1.getD (x4).toNat z48).f2)], 48⟩, ⟨nx18, [i6 ((t10.getD (0 : Int).toNat z48).f0), i6 ((t10.getD (0 : Int).toNat z48).f1), i6 ((t10.getD (0 : Int).toNat z48).f2)], 48⟩]) (X' := [orow 48 3 A13 ((x3 ++ [(t10.getD (0 : Int).toNat z48)]).length) c13 cs13, orow 48 3 A11 t10.length c11 cs11]) (by kernel_rfl) (.refl _) (.refl _) ?_
       refine RL.s 1 [(10, .slice A13 ((x3 ++ [(t10.getD (0 : Int).toNat z48)]).length) c13), (1, .slice Ap1 a1.length cp1), (2, .int .u8 a2), (7, .bool t1), (8, .slice A1 t2.length c1), (9, i6 (W .i64 ((W .i64 (a2.tmod 6)) * 7))), (11, i6 x4)] ?_
       refine RL.nil (by kernel_rfl) ?_
       obtain rfl := Option.some.inj H
       refine QN.sel (K' := [(1, .slice Ap1 a1.length cp1), (2, .int .u8 a2), (7, .bool t1), (8, .slice A1 t2.length c1), (9, i6 (W .i64 ((W .i64 (a2.tmod 6)) * 7))), (10, .slice A13 ((x3 ++ [(t10.getD (0 : Int).toNat z48)]).length) c13), (11, i6 x4)]) (L' := [⟨nx15, [i6 (W .i64 (a2.tmod 6)), i6 ((a1.getD (x4).toNat z48).f1), i6 ((a1.getD (x4).toNat z48).f2)], 48⟩]) [0] (by kernel_rfl) (by kernel_rfl) (.cons_cons _ (.cons _ .slnil)) ?_
       refine QN.norm (X' := [orow 48 3 A13 ((x3 ++ [(t10.getD (0 : Int).toNat z48)]).length) c13 cs13]) rfl rfl rfl (by kernel_rfl) ?_
       exact hJ5 _ _ _ _ _ ⟨(x3 ++ [(t10.getD (0 : Int).toNat z48)]), A13, c13, cs13, rfl, rfl, rfl, (Imm.le_refl _), hp13, HK4⟩
      ·skip
       have hc := (beq_eq_false_iff_ne.1 hb)
       rw [if_neg hc] at H
       clear hb
       refine OK.sk ?_
       obtain rfl := Option.some.inj H
       refine QN.sel (K' := [(1, .slice Ap1 a1.length cp1), (2, .int .u8 a2), (7, .bool t1), (8, .slice A1 t2.length c1), (9, i6 (W .i64 ((W .i64 (a2.tmod 6)) * 7))), (10, .slice A10 x3.length c10), (11, i6 x4)]) (L' := [⟨nx15, [i6 (W .i64 (a2.tmod 6)), i6 ((a1.getD (x4).toNat z48).f1), i6 ((a1.getD (x4).toNat z48).f2)], 48⟩]) [0] (by kernel_rfl) (by kernel_rfl) (.cons_cons _ .slnil) ?_
       refine QN.norm (X' := [orow 48 3 A10 x3.length c10 cs10]) rfl rfl rfl (by kernel_rfl) ?_
       exact hJ5 _ _ _ _ _ ⟨x3, A10, c10, cs10, rfl, rfl, rfl, (Imm.le_refl _), (Reps.ext (Imm.le_trans (Imm.le_trans (Imm.le_trans hi23 hi24) hi25) hi26) hp10), HK4⟩
    ·skip
     have hc := (Bool.eq_false_iff.1 hb)
     rw [if_neg hc] at H
     clear hb
     refine OK.ex 0 ?_
     refine QN.thenE ?_
     refine QN.outE hQ3 ?_
     refine QN.blkE ?_
     obtain rfl := Option.some.inj H
     exact QN.sb (hJ1 _ _ _ _ _ ⟨x3, A10, c10, cs10, rfl, rfl, rfl, (Imm.le_trans hi22 hi23), (Reps.ext hi23 hp10), HK1⟩) .slnil (.refl _)
   ·intro Q_4 hJ4 hQ4
    obtain ⟨y3, H, HK3⟩ := bnd H
    refine OK.rg ?_
    refine RL.s 5 [(32, .bool (decide (x4 < (a1.length : Int)))), (1, .slice Ap1 a1.length cp1), (2, .int .u8 a2), (7, .bool t1), (8, .slice A1 t2.length c1), (9, i6 (W .i64 ((W .i64 (a2.tmod 6)) * 7))), (10, .slice A10 x3.length c10), (11, i6 x4)] ?_
    refine RL.cases (decide (x4 < (a1.length : Int))) (fun hb => ?_) (fun hb => ?_)
    ·have hc := (of_decide_eq_true hb)
     rw [hb]
     rw [if_pos hc] at H; clear hb
     refine RL.s 3 [(35, .bool (decide (x4 < 6))), (1, .slice Ap1 a1.length cp1), (2, .int .u8 a2), (7, .bool t1), (8, .slice A1 t2.length c1), (9, i6 (W .i64 ((W .i64 (a2.tmod 6)) * 7))), (10, .slice A10 x3.length c10), (11, i6 x4)] ?_
     refine RL.nil (by kernel_rfl) ?_
     obtain rfl := Option.some.inj H
     exact QN.sb (hJ4 _ _ _ _ _ ⟨(decide (x4 < 6)), rfl, rfl, rfl, (Imm.le_refl _), HK3⟩) .slnil (.refl _)
    ·have hc := (of_decide_eq_false hb)
     rw [hb]
     rw [if_neg hc] at H; clear hb
     refine RL.s 3 [(35, .bool false), (1, .slice Ap1 a1.length cp1), (2, .int .u8 a2), (7, .bool t1), (8, .slice A1 t2.length c1), (9, i6 (W .i64 ((W .i64 (a2.tmod 6)) * 7))), (10, .slice A10 x3.length c10), (11, i6 x4)] ?_
     refine RL.nil (by kernel_rfl) ?_
     obtain rfl := Option.some.inj H
     exact QN.sb (hJ4 _ _ _ _ _ ⟨false, rfl, rfl, rfl, (Imm.le_refl _), HK3⟩) .slnil (.refl _)

end Go.Proofs.Ytihmbmeelheinaa
namespace Go.Proofs.Ytihmbmeelheinaa
open Go Go.Proofs.Ytihmbmeelheinaa.RW Go.Proofs.Ytihmbmeelheinaa.auc
open Go.Proofs.Ytihmbmeelheinaa.hun (g sm Solved)
set_option linter.unusedVariables false
theorem who_eq {a : Int} (h : 0 ≤ a ∧ a < 256) : W .i64 (W .i64 (a.tmod 6) * 7) = (a % 6) * 7 ∧ ∀ x y : Int, (mk1 ⟨W .i64 (a.tmod 6), x, y⟩).f0 = (a % 6) * 7 := by
  rw [Int.tmod_eq_emod_of_nonneg h.1, W64 (x := a % 6) (by omega) (by omega)]
  refine ⟨W64 (by omega) (by omega), fun x y => ?_⟩
  rw [mk1_f0]
  show bAnd .i64 (a % 6) 255 % 6 * 7 = _
  have : a % 6 = 0 ∨ a % 6 = 1 ∨ a % 6 = 2 ∨ a % 6 = 3 ∨ a % 6 = 4 ∨ a % 6 = 5 := by omega
  rcases this with e | e | e | e | e | e <;> rw [e] <;> decide
theorem truthful_l1 {a : List S48} {b w : Int} (ha : a.length ≤ 9223372036854775807) (hb : 0 ≤ b ∧ b < 256) (hw : (b % 6) * 7 = w) (l : List S48) : ∀ (q n : Nat) (x : List S48), q + n = 6 → okG (36 + n) 1048576 x → (∀ y, y.f0 ≠ w → (y ∈ x ↔ y ∈ l)) → ∃ r, okG 42 1048576 r ∧ (∀ y, y.f0 ≠ w → (y ∈ r ↔ y ∈ l)) ∧ Ev (fun f => armillarylaw23_AuctionTruthful.l1 a b f x (n : Int)) r
  | 0, n, x, e, hx, hp => by
    refine ⟨x, ⟨by have := hx.len; omega, hx.nd, hx.gr, hx.vb⟩, hp, Ev.succ (g := fun _ => some x) (fun f => ?_) (Ev.const rfl)⟩
    rw [armillarylaw23_AuctionTruthful.l1]
    by_cases h : (n : Int) < (a.length : Int)
    · rw [if_pos h, Option.bind_some, if_neg (by simp only [decide_eq_true_eq]; omega)]
    · rw [if_neg h, Option.bind_some, if_neg (by decide)]
  | q + 1, n, x, e, hx, hp => by
    by_cases h : (n : Int) < (a.length : Int)
    · have cp : (0 : Int) ≤ (n : Int) := by omega
      obtain ⟨m, hm⟩ : ∃ m, mk1 ⟨W .i64 (b.tmod 6), (a.getD n z48).f1, (a.getD n z48).f2⟩ = m := ⟨_, rfl⟩
      have hm0 : m.f0 = w := by rw [← hm, (who_eq hb).2, hw]
      have hmade := made_one ⟨W .i64 (b.tmod 6), (a.getD n z48).f1, (a.getD n z48).f2⟩
      have hgr := mk1_grid ⟨W .i64 (b.tmod 6), (a.getD n z48).f1, (a.getD n z48).f2⟩
      have hvb := mk1_vb ⟨W .i64 (b.tmod 6), (a.getD n z48).f1, (a.getD n z48).f2⟩
      rw [hm] at hmade hgr hvb
      have hl := hx.len
      have hval := value_ev x m.f0 m.f1 (by omega)
      obtain ⟨r, r1, r2, r3⟩ := truthful_l1 ha hb hw l q (n + 1) (add1 x m) (by omega) (hx.add hgr hvb) (fun y hy => by
        rw [← hp y hy]
        unfold add1
        split
        · rw [List.mem_append, List.mem_singleton]
          exact ⟨fun h1 => h1.elim id (fun h2 => absurd (h2 ▸ hm0) hy), .inl⟩
        · exact Iff.rfl)
      refine ⟨r, r1, r2, ?_⟩
      refine Ev.succ (fun f => by rw [armillarylaw23_AuctionTruthful.l1, if_pos h, Option.bind_some, if_pos (by simp only [decide_eq_true_eq]; omega), if_pos cp, if_pos h, tn, Wn (by omega)]) ?_
      refine Ev.bind hmade (Ev.congr (fun f => if_pos (by simp)) (Ev.congr (fun f => if_pos (by simp)) ?_))
      show Ev (fun f => (armillaryref23_Value.f f x m.f0 m.f1).bind _) _
      refine Ev.bind hval (Ev.bind1 (r := add1 x m) ?_ r3)
      show (if Vv x m.f0 m.f1 = 0 then (if 0 < (([m].length : Nat) : Int) then (if (x.length + [m].length) * 24 ≤ 140737488355328 then some (x ++ [m]) else none) else none) else some x) = some (add1 x m)
      unfold add1
      by_cases hv0 : Vv x m.f0 m.f1 = 0
      · rw [if_pos hv0, if_pos (by simp), if_pos (by simp only [List.length_singleton]; omega), if_pos hv0]
      · rw [if_neg hv0, if_neg hv0]
    · refine ⟨x, ⟨by have := hx.len; omega, hx.nd, hx.gr, hx.vb⟩, hp, Ev.succ (g := fun _ => some x) (fun f => ?_) (Ev.const rfl)⟩
      rw [armillarylaw23_AuctionTruthful.l1, if_neg h, Option.bind_some, if_neg (by decide)]
/-- What a lie yields, in the truth's values. -/
theorem lie {l l' : List S48} {d d' : S29} {σ σ' : Int → Option Int} {X X' : Int} {Y Y' : Int → Int} {w : Int} (h : okB l) (h' : okB l') (e : ∀ y, y.f0 ≠ w → (y ∈ l' ↔ y ∈ l)) (k : Cl l d σ X Y) (k' : Cl l' d' σ' X' Y') :
    (if w ∈ ws l' then Vv l w (g d'.f1 ((ws l').idxOf w)) - g d'.f2 ((ws l').idxOf w) else 0) ≤ (if w ∈ ws l then X - Y w else 0) := by
  have hU : 0 ≤ (if w ∈ ws l then X - Y w else 0) := by
    split
    · rename_i hw
      have := k.yx hw
      omega
    · exact Int.le_refl _
  by_cases hw' : w ∈ ws l'
  · rw [if_pos hw']
    obtain ⟨i1, i2⟩ := idx_g hw'
    obtain ⟨p1, p2, p3⟩ := k'.pr h' i1
    have hsl := k'.slotV h' i1
    have hss := k'.slot_neg h' i1
    rw [i2] at p1 hsl hss
    obtain ⟨i, hi⟩ : ∃ i, (ws l').idxOf w = i := ⟨_, rfl⟩
    rw [hi] at p1 hsl hss ⊢
    have hb : but (ws l') w = but (ws l) w := lt_uniq (but_lt (dist_lt _) w) (but_lt (dist_lt _) w) (fun v => by
      rw [but_mem, but_mem, ws_of, ws_of]
      constructor
      · rintro ⟨⟨y, hy, rfl⟩, h1⟩
        exact ⟨⟨y, (e y h1).1 hy, rfl⟩, h1⟩
      · rintro ⟨⟨y, hy, rfl⟩, h1⟩
        exact ⟨⟨y, (e y h1).2 hy, rfl⟩, h1⟩)
    have hV : ∀ v ∈ but (ws l) w, ∀ s, Vv l' v s = Vv l v s := fun v hv s => Vv_same h'.nd h.nd (fun x hx => e x (by rw [hx]; exact (but_mem.1 hv).2)) s
    have hY := k'.y w hw'
    rw [hb] at hY
    have hY2 := hY.congr hV
    have t1 : tot (Vv l') σ' (ws l') = pay (Vv l') σ' w + tot (Vv l') σ' (but (ws l') w) := sum_but (dist_nodup _) hw'
    rw [hb, k'.tv] at t1
    have t2 : tot (Vv l') σ' (but (ws l) w) = tot (Vv l) σ' (but (ws l) w) := sum_congr (fun v hv => by
      unfold pay
      cases σ' v with
      | none => rfl
      | some s => exact hV v hv s)
    have hpay : pay (Vv l) σ' w = Vv l w (g d'.f1 i) := by
      unfold pay
      rcases hss with ⟨s1, s2⟩ | ⟨s, s1, s2, _, _⟩
      · rw [s1, s2]; exact (no_slot h w).symm
      · rw [s1, s2]
    have hin : Inj (but (ws l) w) σ' := by rw [← hb]; exact k'.inj.but w
    have t3 := hY2.1 σ' hin
    by_cases hw : w ∈ ws l
    · rw [if_pos hw]
      have hYY : Y' w = Y w := hY2.uniq (k.y w hw)
      have hall : ∀ v ∈ ws l, v ∈ ws l' := fun v hv => by
        by_cases hvw : v = w
        · rw [hvw]; exact hw'
        · have : v ∈ but (ws l') w := by rw [hb]; exact but_mem.2 ⟨hv, hvw⟩
          exact (but_mem.1 this).1
      have hin2 : Inj (ws l) σ' := fun v hv v' hv' => k'.inj v (hall v hv) v' (hall v' hv')
      have t4 := k.om.1 σ' hin2
      have t5 : tot (Vv l) σ' (ws l) = pay (Vv l) σ' w + tot (Vv l) σ' (but (ws l) w) := sum_but (dist_nodup _) hw
      omega
    · rw [if_neg hw]
      have : Vv l w (g d'.f1 i) = 0 := Vv_zero (.inl hw)
      omega
  · rw [if_neg hw']
    exact hU
theorem armillarylaw23_AuctionTruthful_holds (a0 a1 : List S48) (a2 : Int) (hp0 : ∀ x ∈ a0, p48 x) (h0 : a0.length ≤ 9223372036854775807) (hp1 : ∀ x ∈ a1, p48 x) (h1 : a1.length ≤ 9223372036854775807) (w2 : (Lit.int .u8 a2).wf = true) : ∃ k, armillarylaw23_AuctionTruthful.f k a0 a1 a2 = some true := by
  obtain ⟨l, hg, hm⟩ := made_ev h0
  have ha := u8_wf w2
  have h := hg.ok (by decide) (by decide)
  obtain ⟨w, hw⟩ : ∃ w, (a2 % 6) * 7 = w := ⟨_, rfl⟩
  have hexc := except_ev l w (by have := h.n64; omega)
  have heg := exc_okG hg w
  obtain ⟨l', hg', he, hl⟩ := truthful_l1 h1 ha hw l 6 0 (exc l w) rfl heg (fun y hy => by rw [List.mem_filter]; simp [hy])
  have h' := hg'.ok (by decide) (by decide)
  obtain ⟨d, cols, X, Y, hcl, _, k⟩ := clear_ev h
  obtain ⟨d', cols', X', Y', hcl', _, k'⟩ := clear_ev h'
  obtain ⟨m0, m1, m2, m3⟩ := k'.len0 h'
  have hu := k.util h w
  have hu' := utility_ev h (d := d') (by omega) (by omega) (by omega) (k'.pb h') w
  rw [k'.who] at hu'
  have hle := lie h h' he k k'
  have ew := (who_eq ha).1
  rw [hw] at ew
  refine Ev.get (Ev.bind sanity_ev (Ev.bind hm ?_))
  rw [ew]
  refine Ev.bind hexc (Ev.bind hl (Ev.bind hcl (Ev.bind hcl' (Ev.bind (r := true) ?_ (Ev.const rfl)))))
  refine Ev.congr (fun f => if_pos rfl) (Ev.congr (fun f => if_pos rfl) (Ev.bind1 k.shaped (Ev.congr (fun f => if_pos rfl) (Ev.bind1 k'.shaped (Ev.congr (fun f => if_pos rfl) ?_)))))
  rw [ew]
  exact Ev.bind hu' (Ev.bind hu (Ev.congr (fun f => if_pos hle) (Ev.const rfl)))
end Go.Proofs.Ytihmbmeelheinaa
namespace Go.Proofs.Ytihmbmeelheinaa.auctionTruthful
open Go.ChangeShapes Go.WideShapes Go.ChangeAt Go.RowKit Go.Proofs.Ytihmbmeelheinaa Go.Proofs.Ytihmbmeelheinaa.RW
open Go.ChangeMaps (open_string shut_string)
set_option linter.unusedVariables false
set_option maxRecDepth 1000000
set_option maxHeartbeats 8000000

theorem own : ownKnob Try.prog.godebug = none := by kernel_rfl
theorem laidOut : laidOutB Try.prog = true := by kernel_rfl
theorem lifted (os : Os) (started : os.Started) (H : Type) (enc : TypeId × Value → H) :
  ReturnsInHanded {} Try.checked os 6 .any (Rows.auctionTruthfulSpec.pre6 enc Try.prog Try.f6 Rows.auctionTruthfulRow.domain false) (Rows.auctionTruthfulSpec.post enc Try.prog Try.f6 false true false false) := by
 refine returnsInHanded_of_change (C := Try.checked) own started (by kernel_rfl) Try.func6
  (ChangeSpec.witness6 (enc := enc) (C := Try.checked) false ⟨#[], #[.slice none 0 0, .slice none 0 0, .int .u8 0], []⟩ 8 (by kernel_rfl) (by kernel_rfl) (by kernel_rfl) (by kernel_rfl)) ?_
 intro W base args ds gs before hval0 hW hcnd _
 have hval : ∀ (j : Nat) t v, Try.f6.params[j]? = some t → args[j]? = some v → Value.okWide Try.prog W .any base t v := hval0
 have hW' := hW
 obtain ⟨p, q, hA0, hV, rfl, hfz, hnd⟩ := hW
 have hA : DataW.TrodAll enc Try.prog W 0 (fun _ => true) true Try.f6.params.toList args.toList ds p := hA0
 rw [Try.params6] at hA hval
 obtain ⟨v0, vs0, d0, ds0, p0, q0, hargs, rfl, rfl, h0, z0⟩ := trodAll_cons hA
 obtain ⟨v1, vs1, d1, ds1, p1, q1, rfl, rfl, rfl, h1, z1⟩ := trodAll_cons z0
 obtain ⟨v2, vs2, d2, ds2, p2, q2, rfl, rfl, rfl, h2, z2⟩ := trodAll_cons z1
 obtain ⟨rfl, rfl, rfl⟩ := trodAll_nil z2
 obtain rfl : args = #[v0, v1, v2] := by cases args; simp_all
 obtain ⟨rfl, rfl⟩ := trodVars_none hV
 have k0 := h0
 have lt0 : ∀ x ∈ p0, x.block < W.heap.size := by obtain ⟨m, hm⟩ := k0; exact DataW.trod_lt m _ _ _ hm
 obtain ⟨b0, len0, cap0, rfl⟩ := okWide_slice Try.underlying22 (hval 0 22 v0 rfl rfl)
 obtain ⟨fuel0, hf0⟩ := h0
 obtain ⟨a0, ⟨A0, c0, e0, l0, r0⟩, hp0⟩ := (opens_slice (e := 48) o48 (by kernel_rfl) (by kernel_rfl) (Nat.le_of_ble_eq_true (by kernel_rfl)) : Opens Try.prog (Ty.slice t48) 22 (fun l => ∀ x ∈ l, p48 x)) W 0 _ _ _ _ _ hf0
 obtain ⟨rfl, rfl, rfl⟩ : b0 = A0 ∧ len0 = a0.length ∧ cap0 = c0 := by simpa [Value.cells] using e0
 have k1 := h1
 have lt1 : ∀ x ∈ p1, x.block < W.heap.size := by obtain ⟨m, hm⟩ := k1; exact DataW.trod_lt m _ _ _ hm
 obtain ⟨b1, len1, cap1, rfl⟩ := okWide_slice Try.underlying22 (hval 1 22 v1 rfl rfl)
 obtain ⟨fuel1, hf1⟩ := h1
 obtain ⟨a1, ⟨A1, c1, e1, l1, r1⟩, hp1⟩ := (opens_slice (e := 48) o48 (by kernel_rfl) (by kernel_rfl) (Nat.le_of_ble_eq_true (by kernel_rfl)) : Opens Try.prog (Ty.slice t48) 22 (fun l => ∀ x ∈ l, p48 x)) W 0 _ _ _ _ _ hf1
 obtain ⟨rfl, rfl, rfl⟩ : b1 = A1 ∧ len1 = a1.length ∧ cap1 = c1 := by simpa [Value.cells] using e1
 obtain ⟨a2, rfl, rfl, rfl, w2⟩ := open_int Try.underlying5 (hval 2 5 v2 rfl rfl) h2
 clear hA0 hval0
 obtain ⟨k, hk⟩ := armillarylaw23_AuctionTruthful_holds a0 a1 a2 hp0 r0.1 hp1 r1.1 w2
 refine (armillarylaw23_AuctionTruthful.calls k (wImm W) a0 b0 cap0 a1 b1 cap1 a2 W (wImm_at W) l0 r0 l1 r1 true hk).mono ?_
 rintro e W' ⟨v, rfl, J, rfl, hg⟩
 have bel : Below W.heap.size W W' := ⟨hg.evo.os, hg.evo.tape, hg.evo.output, hg.evo.size, fun k hk => hg.evo.blk k hk (fun h => h)⟩
 exact ⟨_, rfl, _, _, _, [], _, [], hW', trodAll_mk1 (shut_bool Try.underlying4 _), (trodAll_cons_mk (Below.trod laidOut (by kernel_rfl) (of_decide_eq_true (by kernel_rfl)) k0 bel lt0) (trodAll_cons_mk (Below.trod laidOut (by kernel_rfl) (of_decide_eq_true (by kernel_rfl)) k1 bel lt1) (trodAll_cons_mk (shut_int Try.underlying5 w2) trodAll_mk0))), rfl, bel.frame _, fun h => by cases h⟩

theorem over : Rows.auctionTruthfulRow.holds Try.pinned (OpenSpec.ofChange Rows.auctionTruthfulSpec) :=
 OpenClaim.holds_of_wide 6 Try.f6 rfl rfl rfl rfl rfl rfl rfl ⟨rfl, rfl, rfl, rfl, rfl⟩ rfl rfl rfl rfl rfl (by kernel_rfl) Try.func6 (by kernel_rfl)
  (of_decide_eq_true (by kernel_rfl)) (by unfold Func.isWrapper; first | (rw [if_pos (by decide +kernel)]; kernel_rfl) | (rw [if_neg (by decide +kernel)]; exact ⟨rfl, rfl⟩))
  (fun os started H enc _ => lifted os started H enc)
theorem proved : Rows.AuctionTruthfulSaid := over
#print axioms proved
end Go.Proofs.Ytihmbmeelheinaa.auctionTruthful
