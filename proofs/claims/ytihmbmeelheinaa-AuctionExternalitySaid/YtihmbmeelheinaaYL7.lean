/- What a function of the program computes, and the walk that shows it; made by a program of the session's out of the translation; no conditions beyond those that the theorems name. -/
import Derived.Test.YtihmbmeelheinaaY2
import Derived.Test.YtihmbmeelheinaaY6
import Derived.Test.YtihmbmeelheinaaY5
import Derived.Test.YtihmbmeelheinaaY7
import Derived.Test.YtihmbmeelheinaaY8
import Derived.Test.YtihmbmeelheinaaRows
import Derived.WalkKit
import Derived.ProofKit
import Derived.OpenShut
import Derived.ShutString
import Derived.ChangeOld
import Derived.Below
import Derived.Carry
import Derived.WideShapes
namespace Go.Proofs.Ytihmbmeelheinaa
open Go Go.Proofs.Ytihmbmeelheinaa.RW
set_option linter.unusedVariables false
set_option maxRecDepth 100000
set_option maxHeartbeats 8000000

/-! ### armillarylaw23_AuctionExternality: function 7, armillary/armillarylaw23.AuctionExternality -/
noncomputable def K7_0 : Code := cBody Try.f7
noncomputable def O7_47 : List Oper := cOps (cL (cR (cR (cL (cL (cR (cL (cL (cR (cL (cR (cR (cR (cR (cR (cR K7_0))))))))))))))))
def armillarylaw23_AuctionExternality.k1 (t1 : Bool) : (Unit) ⊕ (Bool) → Option (Bool)
 | .inl () => (some t1)
 | .inr r_ => some r_
def armillarylaw23_AuctionExternality.l1 (t2 : List S48) (t3 : S29 × Int) (t4 : Int) : Nat → Int → Option ((Unit) ⊕ (Bool))
 | 0, _ => none
 | k + 1, x2 => (if x2 < (t3.1.f0.length : Int) then (if 0 ≤ x2 then (if x2 < (t3.1.f0.length : Int) then ((armillaryref23_Except.f k t2 (t3.1.f0.getD (x2).toNat 0)).bind fun t5 => ((auction_Clear.f k t5).bind fun t6 => ((if t6.2 ≠ 0 then (some true) else (if 0 ≤ x2 then (if x2 < (t3.1.f2.length : Int) then ((auction_Welfare.f k t5 t6.1).bind fun t7 => (if 0 ≤ x2 then (if x2 < (t3.1.f0.length : Int) then (if 0 ≤ x2 then (if x2 < (t3.1.f1.length : Int) then ((armillaryref23_Value.f k t2 (t3.1.f0.getD (x2).toNat 0) (t3.1.f1.getD (x2).toNat 0)).bind fun t8 => (some ((t3.1.f2.getD (x2).toNat 0) != (W .i64 (t7 - (W .i64 (t4 - t8))))))) else none) else none) else none) else none)) else none) else none)).bind (fun x3 => (if x3 = true then (some (Sum.inr false)) else (armillarylaw23_AuctionExternality.l1 t2 t3 t4 k (W .i64 (x2 + 1)))))))) else none) else none) else (some (Sum.inl ())))
def armillarylaw23_AuctionExternality.k3 (k : Nat) (t1 : Bool) (t2 : List S48) (t3 : S29 × Int) (x1 : Bool) : Option (Bool) := (if x1 = true then (some false) else ((auction_Welfare.f k t2 t3.1).bind fun t4 => ((armillarylaw23_AuctionExternality.l1 t2 t3 t4 k 0).bind (armillarylaw23_AuctionExternality.k1 t1))))
def armillarylaw23_AuctionExternality.f (k : Nat) (a0 : List S48) : Option (Bool) := ((armillarylaw23_sanity.f k ).bind fun t1 => ((armillaryref23_Made.f k a0).bind fun t2 => ((auction_Clear.f k t2).bind fun t3 => ((if t3.2 ≠ 0 then (some true) else ((armillarylaw23_shaped.f t3.1).bind fun t9 => (some (!t9)))).bind (armillarylaw23_AuctionExternality.k3 k t1 t2 t3)))))
def armillarylaw23_AuctionExternality.Post (I : Imm) (w : World) (r : Bool) (v : Value) (w' : World) : Prop :=
 ∃ (J : Imm), v = .bool r ∧ Got w w' I J []
noncomputable def a7_47n : List Nat := [0, 1, 3, 7, 15, 7, 63, 127, 7, 7, 775, 7, 7, 7, 8199, 7, 57351, 122887, 7, 262151, 7, 1835015, 3932167, 8386311, 16776967, 33554183, 67108863, 134217727]
theorem a7_47 : ancs O7_47 [] = a7_47n := by kernel_rfl
theorem a7_47o : drawOk O7_47 a7_47n 26 = true := by kernel_rfl
noncomputable def u7d1l  : List Ld :=
 []
noncomputable def u7d1g  : List (Nat × ((Nat → Wt) → Value)) := [(2, fun u => .bool true)]
noncomputable def u7d1q (t1 : Bool) (t2 : List S48) (A1 : Option Addr) (c1 : Nat) (t3 : S29 × Int) (A2 : Option Addr) (c2 : Nat) (A3 : Option Addr) (c3 : Nat) (A4 : Option Addr) (c4 : Nat) (nx3 : Nat) (t4 : Int) (x2 : Int) (t5 : List S48) (A5 : Option Addr) (c5 : Nat) (t6 : S29 × Int) (A6 : Option Addr) (c6 : Nat) (A7 : Option Addr) (c7 : Nat) (A8 : Option Addr) (c8 : Nat) (nx9 : Nat) (u : Nat → Wt) : Option (List Value × List (Nat × Value) × List (Nat × Nat)) := qSim Try.prog [] [⟨nx3, [.slice A2 t3.1.f0.length c2, .slice A3 t3.1.f1.length c3, .slice A4 t3.1.f2.length c4], 29⟩, ⟨nx9, [.slice A6 t6.1.f0.length c6, .slice A7 t6.1.f1.length c7, .slice A8 t6.1.f2.length c8], 29⟩] O7_47 ⟨78, []⟩ (Ld.vl u7d1l) u7d1g u [.no, .no, .no, .no, .no, .no, .no, .no, .no, .no, .no, .no, .no, .no, .no, .no, .no, .no, .no, .no, .no, .no, .no, .no, .no, .no] 0 (O7_47.take 26) [(11, i6 t6.2), (10, pt nx9 0), (9, .slice A5 t5.length c5), (3, .bool t1), (4, .slice A1 t2.length c1), (5, pt nx3 0), (7, i6 t4), (8, i6 x2)]
noncomputable def u7d1s (t6 : S29 × Int) (u : Nat → Wt) : List Value := [i6 t6.2, .bool (t6.2 != 0), .bool true, undef, undef, undef, undef, undef, undef, undef, undef, undef, undef, undef, undef, undef, undef, undef, undef, undef, undef, undef, undef, undef, undef, undef]
noncomputable def u7d1f (t1 : Bool) (t2 : List S48) (A1 : Option Addr) (c1 : Nat) (nx3 : Nat) (t4 : Int) (x2 : Int) (t5 : List S48) (A5 : Option Addr) (c5 : Nat) (t6 : S29 × Int) (nx9 : Nat) (i : Nat) (u : Nat → Wt) : List (Nat × Value) := foldPut ⟨78, []⟩ [(11, i6 t6.2), (10, pt nx9 0), (9, .slice A5 t5.length c5), (3, .bool t1), (4, .slice A1 t2.length c1), (5, pt nx3 0), (7, i6 t4), (8, i6 x2)] (O7_47.take i) (((u7d1s t6) u).take i)
theorem u7d1v (t1 : Bool) (t2 : List S48) (A1 : Option Addr) (c1 : Nat) (t3 : S29 × Int) (A2 : Option Addr) (c2 : Nat) (A3 : Option Addr) (c3 : Nat) (A4 : Option Addr) (c4 : Nat) (nx3 : Nat) (t4 : Int) (x2 : Int) (t5 : List S48) (A5 : Option Addr) (c5 : Nat) (t6 : S29 × Int) (A6 : Option Addr) (c6 : Nat) (A7 : Option Addr) (c7 : Nat) (A8 : Option Addr) (c8 : Nat) (nx9 : Nat) (u : Nat → Wt) : (u7d1q t1 t2 A1 c1 t3 A2 c2 A3 c3 A4 c4 nx3 t4 x2 t5 A5 c5 t6 A6 c6 A7 c7 A8 c8 nx9 u).map (fun x => (x.1, x.2.1)) = some ((u7d1s t6) u, (u7d1f t1 t2 A1 c1 nx3 t4 x2 t5 A5 c5 t6 nx9 26) u) := by kernel_rfl
theorem u7d1e (t1 : Bool) (t2 : List S48) (A1 : Option Addr) (c1 : Nat) (t3 : S29 × Int) (A2 : Option Addr) (c2 : Nat) (A3 : Option Addr) (c3 : Nat) (A4 : Option Addr) (c4 : Nat) (nx3 : Nat) (t4 : Int) (x2 : Int) (t5 : List S48) (A5 : Option Addr) (c5 : Nat) (t6 : S29 × Int) (A6 : Option Addr) (c6 : Nat) (A7 : Option Addr) (c7 : Nat) (A8 : Option Addr) (c8 : Nat) (nx9 : Nat) (u : Nat → Wt) : (u7d1q t1 t2 A1 c1 t3 A2 c2 A3 c3 A4 c4 nx3 t4 x2 t5 A5 c5 t6 A6 c6 A7 c7 A8 c8 nx9 u).map (fun x => x.2.2.map (·.1)) = (u7d1q t1 t2 A1 c1 t3 A2 c2 A3 c3 A4 c4 nx3 t4 x2 t5 A5 c5 t6 A6 c6 A7 c7 A8 c8 nx9 u).map (fun x => x.2.2.map (·.2)) := by kernel_rfl
noncomputable def u7d2l (t7 : Int) (t8 : Int) : List Ld :=
 [⟨10, fun x => i6 t7, fun x => [], fun x J => True, fun x J J' h f => trivial⟩,
  ⟨23, fun x => i6 t8, fun x => [], fun x J => True, fun x J J' h f => trivial⟩]
noncomputable def u7d2g (x2 : Int) (g2_ : Nat) (o2_ : Nat) (g3_ : Nat) (o3_ : Nat) (g4_ : Nat) (o4_ : Nat) : List (Nat × ((Nat → Wt) → Value)) := [(2, fun u => .bool false), (6, fun u => pt g2_ (o2_ + (x2).toNat * 1)), (16, fun u => pt g3_ (o3_ + (x2).toNat * 1)), (21, fun u => pt g4_ (o4_ + (x2).toNat * 1))]
noncomputable def u7d2q (t1 : Bool) (t2 : List S48) (A1 : Option Addr) (c1 : Nat) (t3 : S29 × Int) (A2 : Option Addr) (c2 : Nat) (A3 : Option Addr) (c3 : Nat) (A4 : Option Addr) (c4 : Nat) (nx3 : Nat) (t4 : Int) (x2 : Int) (t5 : List S48) (A5 : Option Addr) (c5 : Nat) (t6 : S29 × Int) (A6 : Option Addr) (c6 : Nat) (A7 : Option Addr) (c7 : Nat) (A8 : Option Addr) (c8 : Nat) (nx9 : Nat) (g2_ : Nat) (o2_ : Nat) (t7 : Int) (g3_ : Nat) (o3_ : Nat) (g4_ : Nat) (o4_ : Nat) (t8 : Int) (u : Nat → Wt) : Option (List Value × List (Nat × Value) × List (Nat × Nat)) := qSim Try.prog [(⟨g2_, o2_ + (x2).toNat * 1, none⟩, i6 (t3.1.f2.getD (x2).toNat 0)), (⟨g3_, o3_ + (x2).toNat * 1, none⟩, i6 (t3.1.f0.getD (x2).toNat 0)), (⟨g4_, o4_ + (x2).toNat * 1, none⟩, i6 (t3.1.f1.getD (x2).toNat 0))] [⟨nx3, [.slice A2 t3.1.f0.length c2, .slice A3 t3.1.f1.length c3, .slice A4 t3.1.f2.length c4], 29⟩, ⟨nx9, [.slice A6 t6.1.f0.length c6, .slice A7 t6.1.f1.length c7, .slice A8 t6.1.f2.length c8], 29⟩] O7_47 ⟨78, []⟩ (Ld.vl (u7d2l t7 t8)) (u7d2g x2 g2_ o2_ g3_ o3_ g4_ o4_) u [.no, .no, .no, .no, .l 0, .no, .no, .r 0, .no, .l 1, .no, .no, .no, .no, .l 0, .no, .no, .r 1, .no, .l 0, .no, .no, .r 2, .no, .no, .no] 0 (O7_47.take 26) [(11, i6 t6.2), (10, pt nx9 0), (9, .slice A5 t5.length c5), (3, .bool t1), (4, .slice A1 t2.length c1), (5, pt nx3 0), (7, i6 t4), (8, i6 x2)]
noncomputable def u7d2s (t2 : List S48) (A1 : Option Addr) (c1 : Nat) (t3 : S29 × Int) (A2 : Option Addr) (c2 : Nat) (A3 : Option Addr) (c3 : Nat) (A4 : Option Addr) (c4 : Nat) (nx3 : Nat) (t4 : Int) (x2 : Int) (t5 : List S48) (A5 : Option Addr) (c5 : Nat) (t6 : S29 × Int) (A6 : Option Addr) (c6 : Nat) (A7 : Option Addr) (c7 : Nat) (A8 : Option Addr) (c8 : Nat) (g2_ : Nat) (o2_ : Nat) (t7 : Int) (g3_ : Nat) (o3_ : Nat) (g4_ : Nat) (o4_ : Nat) (t8 : Int) (u : Nat → Wt) : List Value := [i6 t6.2, .bool (t6.2 != 0), .bool false, pt nx3 2, .slice A4 t3.1.f2.length c4, i6 x2, pt g2_ (o2_ + (x2).toNat * 1), i6 (t3.1.f2.getD (x2).toNat 0), .slice A5 t5.length c5, .agg #[.slice A6 t6.1.f0.length c6, .slice A7 t6.1.f1.length c7, .slice A8 t6.1.f2.length c8], i6 t7, i6 t4, .slice A1 t2.length c1, pt nx3 0, .slice A2 t3.1.f0.length c2, i6 x2, pt g3_ (o3_ + (x2).toNat * 1), i6 (t3.1.f0.getD (x2).toNat 0), pt nx3 1, .slice A3 t3.1.f1.length c3, i6 x2, pt g4_ (o4_ + (x2).toNat * 1), i6 (t3.1.f1.getD (x2).toNat 0), i6 t8, i6 (W .i64 (t4 - t8)), i6 (W .i64 (t7 - (W .i64 (t4 - t8))))]
noncomputable def u7d2f (t1 : Bool) (t2 : List S48) (A1 : Option Addr) (c1 : Nat) (t3 : S29 × Int) (A2 : Option Addr) (c2 : Nat) (A3 : Option Addr) (c3 : Nat) (A4 : Option Addr) (c4 : Nat) (nx3 : Nat) (t4 : Int) (x2 : Int) (t5 : List S48) (A5 : Option Addr) (c5 : Nat) (t6 : S29 × Int) (A6 : Option Addr) (c6 : Nat) (A7 : Option Addr) (c7 : Nat) (A8 : Option Addr) (c8 : Nat) (nx9 : Nat) (g2_ : Nat) (o2_ : Nat) (t7 : Int) (g3_ : Nat) (o3_ : Nat) (g4_ : Nat) (o4_ : Nat) (t8 : Int) (i : Nat) (u : Nat → Wt) : List (Nat × Value) := foldPut ⟨78, []⟩ [(11, i6 t6.2), (10, pt nx9 0), (9, .slice A5 t5.length c5), (3, .bool t1), (4, .slice A1 t2.length c1), (5, pt nx3 0), (7, i6 t4), (8, i6 x2)] (O7_47.take i) (((u7d2s t2 A1 c1 t3 A2 c2 A3 c3 A4 c4 nx3 t4 x2 t5 A5 c5 t6 A6 c6 A7 c7 A8 c8 g2_ o2_ t7 g3_ o3_ g4_ o4_ t8) u).take i)
theorem u7d2v (t1 : Bool) (t2 : List S48) (A1 : Option Addr) (c1 : Nat) (t3 : S29 × Int) (A2 : Option Addr) (c2 : Nat) (A3 : Option Addr) (c3 : Nat) (A4 : Option Addr) (c4 : Nat) (nx3 : Nat) (t4 : Int) (x2 : Int) (t5 : List S48) (A5 : Option Addr) (c5 : Nat) (t6 : S29 × Int) (A6 : Option Addr) (c6 : Nat) (A7 : Option Addr) (c7 : Nat) (A8 : Option Addr) (c8 : Nat) (nx9 : Nat) (g2_ : Nat) (o2_ : Nat) (t7 : Int) (g3_ : Nat) (o3_ : Nat) (g4_ : Nat) (o4_ : Nat) (t8 : Int) (u : Nat → Wt) : (u7d2q t1 t2 A1 c1 t3 A2 c2 A3 c3 A4 c4 nx3 t4 x2 t5 A5 c5 t6 A6 c6 A7 c7 A8 c8 nx9 g2_ o2_ t7 g3_ o3_ g4_ o4_ t8 u).map (fun x => (x.1, x.2.1)) = some ((u7d2s t2 A1 c1 t3 A2 c2 A3 c3 A4 c4 nx3 t4 x2 t5 A5 c5 t6 A6 c6 A7 c7 A8 c8 g2_ o2_ t7 g3_ o3_ g4_ o4_ t8) u, (u7d2f t1 t2 A1 c1 t3 A2 c2 A3 c3 A4 c4 nx3 t4 x2 t5 A5 c5 t6 A6 c6 A7 c7 A8 c8 nx9 g2_ o2_ t7 g3_ o3_ g4_ o4_ t8 26) u) := by kernel_rfl
theorem u7d2e (t1 : Bool) (t2 : List S48) (A1 : Option Addr) (c1 : Nat) (t3 : S29 × Int) (A2 : Option Addr) (c2 : Nat) (A3 : Option Addr) (c3 : Nat) (A4 : Option Addr) (c4 : Nat) (nx3 : Nat) (t4 : Int) (x2 : Int) (t5 : List S48) (A5 : Option Addr) (c5 : Nat) (t6 : S29 × Int) (A6 : Option Addr) (c6 : Nat) (A7 : Option Addr) (c7 : Nat) (A8 : Option Addr) (c8 : Nat) (nx9 : Nat) (g2_ : Nat) (o2_ : Nat) (t7 : Int) (g3_ : Nat) (o3_ : Nat) (g4_ : Nat) (o4_ : Nat) (t8 : Int) (u : Nat → Wt) : (u7d2q t1 t2 A1 c1 t3 A2 c2 A3 c3 A4 c4 nx3 t4 x2 t5 A5 c5 t6 A6 c6 A7 c7 A8 c8 nx9 g2_ o2_ t7 g3_ o3_ g4_ o4_ t8 u).map (fun x => x.2.2.map (·.1)) = (u7d2q t1 t2 A1 c1 t3 A2 c2 A3 c3 A4 c4 nx3 t4 x2 t5 A5 c5 t6 A6 c6 A7 c7 A8 c8 nx9 g2_ o2_ t7 g3_ o3_ g4_ o4_ t8 u).map (fun x => x.2.2.map (·.2)) := by kernel_rfl
theorem armillarylaw23_AuctionExternality.calls (k : Nat) (I0 : Imm) (a0 : List S48) (Ap0 : Option Addr) (cp0 : Nat) (w : World) (hI : I0.at_ w) (hlp0 : a0.length ≤ cp0) (hrp0 : Rd t48 I0 Ap0 a0) (r : Bool) (h : armillarylaw23_AuctionExternality.f k a0 = some r) :
  Calls Try.prog 7 [.slice Ap0 a0.length cp0].toArray w fun e w' => ∃ v, e = .returned v ∧ armillarylaw23_AuctionExternality.Post I0 w r v w' := by
 have H : ((armillarylaw23_sanity.f k ).bind fun t1 => ((armillaryref23_Made.f k a0).bind fun t2 => ((auction_Clear.f k t2).bind fun t3 => ((if t3.2 ≠ 0 then (some true) else ((armillarylaw23_shaped.f t3.1).bind fun t9 => (some (!t9)))).bind (armillarylaw23_AuctionExternality.k3 k t1 t2 t3))))) = some r := h
 clear h
 refine calls_body Try.func7 (by kernel_rfl) 78 (by kernel_rfl) (by kernel_rfl) ⟨w, fun _ => False, I0⟩ I0 [] [(0, .slice Ap0 a0.length cp0)] (by kernel_rfl) (Sat.start w _ I0 hI) ?_
 generalize w.heap.size = nx0
 show OK _ K7_0 _ _ _ _ _ _ _ _
 refine OK.sr ?_
 refine RL.st 1 [(0, .slice Ap0 a0.length cp0)] ?_
 refine OK.sr ?_
 obtain ⟨t1, hA1, H⟩ := bnd H
 refine RL.callP 11 [] (some 12) (fun w => armillarylaw23_sanity.Post I0 w t1) (by kernel_rfl) (by kernel_rfl) (fun w hs => armillarylaw23_sanity.calls k I0  w hs.im  t1 hA1) ?_
 rintro w v w' hs ⟨I1, rfl, hg⟩
 have hi1 := hg.le
 refine RL.resume (X' := []) rfl (hs.call hg) ?_
 clear hs hg
 generalize w'.heap.size = nx1
 clear w w'
 refine RL.st 1 [(3, .bool t1), (0, .slice Ap0 a0.length cp0)] ?_
 refine OK.sr ?_
 refine RL.s 1 [(13, .slice Ap0 a0.length cp0), (3, .bool t1)] ?_
 obtain ⟨t2, hA2, H⟩ := bnd H
 refine RL.callP 14 [.slice Ap0 a0.length cp0] (some 14) (fun w => armillaryref23_Made.Post I1 w t2) (by kernel_rfl) (by kernel_rfl) (fun w hs => armillaryref23_Made.calls k I1 a0 Ap0 cp0 w hs.im hlp0 (Rd.ext hi1 hrp0) t2 hA2) ?_
 rintro w v w' hs ⟨I2, A1, c1, cs1, rfl, hg, hp1⟩
 have hi2 := hg.le
 refine RL.resume (X' := [orow 48 3 A1 t2.length c1 cs1]) rfl (hs.call hg) ?_
 clear hs hg
 generalize w'.heap.size = nx2
 clear w w'
 refine RL.st 1 [(4, .slice A1 t2.length c1), (3, .bool t1)] ?_
 refine OK.sr ?_
 refine RL.s 1 [(16, .slice A1 t2.length c1), (4, .slice A1 t2.length c1), (3, .bool t1)] ?_
 refine RL.freeze (e := 48) (sz := 3) (S := A1) (n := t2.length) (cap := c1) 0 (by kernel_rfl) hp1 rfl (fun I3 hi3 hl1 hr1 => ?_)
 skip
 obtain ⟨t3, hA3, H⟩ := bnd H
 refine RL.callP 15 [.slice A1 t2.length c1] (some 17) (fun w => auction_Clear.Post I3 w t3) (by kernel_rfl) (by kernel_rfl) (fun w hs => auction_Clear.calls k I3 t2 A1 c1 w hs.im hl1 hr1 t3 hA3) ?_
 rintro w v w' hs ⟨I4, A2, c2, cs2, A3, c3, cs3, A4, c4, cs4, rfl, hg, hp2, hp3, hp4⟩
 have hi4 := hg.le
 refine RL.resume (X' := [orow 3 1 A2 t3.1.f0.length c2 cs2, orow 3 1 A3 t3.1.f1.length c3 cs3, orow 2 1 A4 t3.1.f2.length c4 cs4]) rfl (hs.call hg) ?_
 clear hs hg
 generalize w'.heap.size = nx3
 clear w w'
 refine RL.freeze (e := 3) (sz := 1) (S := A2) (n := t3.1.f0.length) (cap := c2) 0 (by kernel_rfl) hp2 rfl (fun I5 hi5 hl2 hr2 => ?_)
 skip
 refine RL.freeze (e := 3) (sz := 1) (S := A3) (n := t3.1.f1.length) (cap := c3) 0 (by kernel_rfl) (Reps.ext hi5 hp3) rfl (fun I6 hi6 hl3 hr3 => ?_)
 skip
 refine RL.freeze (e := 2) (sz := 1) (S := A4) (n := t3.1.f2.length) (cap := c4) 0 (by kernel_rfl) (Reps.ext (Imm.le_trans hi5 hi6) hp4) rfl (fun I7 hi7 hl4 hr4 => ?_)
 skip
 refine RL.simP (K' := [(6, i6 t3.2), (5, pt nx3 0), (4, .slice A1 t2.length c1), (3, .bool t1)]) (nx' := nx3 + 1) (L' := [⟨nx3, [.slice A2 t3.1.f0.length c2, .slice A3 t3.1.f1.length c3, .slice A4 t3.1.f2.length c4], 29⟩]) [] (RFacts.nil _ _ _) 6 [.no, .no, .no, .no, .l 0, .no] (by kernel_rfl) (by kernel_rfl) ?_
 refine RL.nt ?_
 refine OK.sq ?_
 refine OK.sq ?_
 refine OK.join (fun K' I' _ L' X' => ∃ (x1 : Bool), K' = [(3, .bool t1), (4, .slice A1 t2.length c1), (5, pt nx3 0), (26, .bool x1)] ∧ L' = [⟨nx3, [.slice A2 t3.1.f0.length c2, .slice A3 t3.1.f1.length c3, .slice A4 t3.1.f2.length c4], 29⟩] ∧ X' = [] ∧ Imm.le I7 I' ∧ armillarylaw23_AuctionExternality.k3 k t1 t2 t3 x1 = some r) ?_ ?_
 ·rintro _ I8 nx4 _ _ ⟨x1, rfl, rfl, rfl, hi8, H⟩
  rw [armillarylaw23_AuctionExternality.k3] at H
  refine QN.then_ ?_
  refine OK.cd x1 (fun hb => ?_) (fun hb => ?_)
  ·skip
   have hc := hb
   rw [if_pos hc] at H
   clear hb
   refine OK.sr ?_
   refine RL.st 1 [(2, .bool false)] ?_
   refine OK.re ?_
   refine QN.thenR ?_
   obtain rfl := Option.some.inj H
   refine QN.body rfl [] (RFacts.nil _ _ _) (.no) (.bool false) (by kernel_rfl) (by kernel_rfl) (by kernel_rfl) ?_ _ (.inr rfl)
   exact fun w' hs' => ⟨_, rfl, I8, rfl, hs'.got _ .slnil⟩
  ·skip
   have hc := (Bool.eq_false_iff.1 hb)
   rw [if_neg hc] at H
   clear hb
   refine OK.skt ?_
   refine OK.sr ?_
   refine RL.simK (K' := [(28, .agg #[.slice A2 t3.1.f0.length c2, .slice A3 t3.1.f1.length c3, .slice A4 t3.1.f2.length c4]), (27, .slice A1 t2.length c1), (3, .bool t1), (4, .slice A1 t2.length c1), (5, pt nx3 0)]) [] (RFacts.nil _ _ _) 2 [.no, .l 0] (by kernel_rfl) (by kernel_rfl) ?_
   obtain ⟨t4, hA4, H⟩ := bnd H
   refine RL.callP 23 [.slice A1 t2.length c1, .agg #[.slice A2 t3.1.f0.length c2, .slice A3 t3.1.f1.length c3, .slice A4 t3.1.f2.length c4]] (some 29) (fun w => auction_Welfare.Post I8 w t4) (by kernel_rfl) (by kernel_rfl) (fun w hs => auction_Welfare.calls k I8 t2 A1 c1 t3.1 A2 c2 A3 c3 A4 c4 w hs.im hl1 (Rd.ext (Imm.le_trans (Imm.le_trans (Imm.le_trans (Imm.le_trans hi4 hi5) hi6) hi7) hi8) hr1) hl2 (Rd.ext (Imm.le_trans (Imm.le_trans hi6 hi7) hi8) hr2) hl3 (Rd.ext (Imm.le_trans hi7 hi8) hr3) hl4 (Rd.ext hi8 hr4) t4 hA4) ?_
   rintro w v w' hs ⟨I9, rfl, hg⟩
   have hi9 := hg.le
   refine RL.resume (X' := []) rfl (hs.call hg) ?_
   clear hs hg
   generalize w'.heap.size = nx5
   clear w w'
   refine RL.st 1 [(7, i6 t4), (3, .bool t1), (4, .slice A1 t2.length c1), (5, pt nx3 0)] ?_
   refine OK.sq ?_
   refine OK.sr ?_
   refine RL.st 1 [(8, i6 0), (7, i6 t4), (3, .bool t1), (4, .slice A1 t2.length c1), (5, pt nx3 0)] ?_
   refine OK.join (fun K' I' _ L' X' => K' = [(3, .bool t1)] ∧ L' = [⟨nx3, [.slice A2 t3.1.f0.length c2, .slice A3 t3.1.f1.length c3, .slice A4 t3.1.f2.length c4], 29⟩] ∧ X' = [] ∧ Imm.le I9 I' ∧ armillarylaw23_AuctionExternality.k1 t1 (Sum.inl ()) = some r) ?_ ?_
   ·rintro _ I10 nx6 _ _ ⟨rfl, rfl, rfl, hi10, H⟩
    rw [armillarylaw23_AuctionExternality.k1] at H
    refine QN.then_ ?_
    refine OK.sr ?_
    refine RL.st 2 [(2, .bool t1)] ?_
    refine OK.re ?_
    obtain rfl := Option.some.inj H
    refine QN.body rfl [] (RFacts.nil _ _ _) (.no) (.bool t1) (by kernel_rfl) (by kernel_rfl) (by kernel_rfl) ?_ _ (.inr rfl)
    exact fun w' hs' => ⟨_, rfl, I10, rfl, hs'.got _ .slnil⟩
   ·intro Q_1 hJ2 hQ2
    obtain ⟨y2, H, HK2⟩ := bnd H
    refine OK.bk 0 ?_
    refine OK.sub (K' := [(3, .bool t1), (4, .slice A1 t2.length c1), (5, pt nx3 0), (7, i6 t4), (8, i6 0)]) (L' := [⟨nx3, [.slice A2 t3.1.f0.length c2, .slice A3 t3.1.f1.length c3, .slice A4 t3.1.f2.length c4], 29⟩]) (by kernel_rfl) (.cons_cons _ .slnil) (.refl _) ?_
    refine OK.lp (fun n_ K' I' _ L' X' => ∃ (x2 : Int), K' = [(3, .bool t1), (4, .slice A1 t2.length c1), (5, pt nx3 0), (7, i6 t4), (8, i6 x2)] ∧ L' = [⟨nx3, [.slice A2 t3.1.f0.length c2, .slice A3 t3.1.f1.length c3, .slice A4 t3.1.f2.length c4], 29⟩] ∧ X' = [] ∧ Imm.le I9 I' ∧ armillarylaw23_AuctionExternality.l1 t2 t3 t4 n_ x2 = some y2) k ⟨0, rfl, rfl, rfl, (Imm.le_refl _), H⟩ ?_ ?_
    ·rintro _ _ _ _ _ ⟨x2, rfl, rfl, rfl, _, H⟩
     cases H
    ·rintro kq1 _ I11 nx7 _ _ ⟨x2, rfl, rfl, rfl, hi11, H⟩ Q_l1 hJ3 hQ3
     rw [armillarylaw23_AuctionExternality.l1] at H
     refine OK.sq ?_
     refine OK.sr ?_
     refine RL.simK (K' := [(34, .bool (decide (x2 < (t3.1.f0.length : Int)))), (3, .bool t1), (4, .slice A1 t2.length c1), (5, pt nx3 0), (7, i6 t4), (8, i6 x2)]) [] (RFacts.nil _ _ _) 5 [.no, .no, .l 0, .no, .no] (by kernel_rfl) (by kernel_rfl) ?_
     refine RL.nt ?_
     refine OK.cd (decide (x2 < (t3.1.f0.length : Int))) (fun hb => ?_) (fun hb => ?_)
     ·skip
      have hc := (of_decide_eq_true hb)
      rw [if_pos hc] at H
      clear hb
      refine OK.skt ?_
      refine OK.sq ?_
      refine OK.bk 1 ?_
      refine OK.sr ?_
      refine RL.simK (K' := [(40, i6 x2), (39, .slice A2 t3.1.f0.length c2), (37, .slice A1 t2.length c1), (3, .bool t1), (4, .slice A1 t2.length c1), (5, pt nx3 0), (7, i6 t4), (8, i6 x2)]) [] (RFacts.nil _ _ _) 4 [.no, .no, .l 0, .no] (by kernel_rfl) (by kernel_rfl) ?_
      obtain ⟨hib0, H⟩ := ifs H
      obtain ⟨hib1, H⟩ := ifs H
      obtain ⟨g1_, o1_, hA1_, hc1_⟩ := Ty.int_at (Rd.ext (Imm.le_trans (Imm.le_trans (Imm.le_trans (Imm.le_trans hi6 hi7) hi8) hi9) hi11) hr2) x2 hib0 hib1
      refine RL.idx 1 .i64 x2 hA1_ t3.1.f0.length c2 (some 41) (by kernel_rfl) (by kernel_rfl) (T := 26) (e := 3) (by kernel_rfl) (by kernel_rfl) hib0 hib1 (K' := [(41, pt g1_ (o1_ + (x2).toNat * 1)), (40, i6 x2), (39, .slice A2 t3.1.f0.length c2), (37, .slice A1 t2.length c1), (3, .bool t1), (4, .slice A1 t2.length c1), (5, pt nx3 0), (7, i6 t4), (8, i6 x2)]) (by kernel_rfl) ?_
      refine RL.simK (K' := [(42, i6 (t3.1.f0.getD (x2).toNat 0)), (37, .slice A1 t2.length c1), (3, .bool t1), (4, .slice A1 t2.length c1), (5, pt nx3 0), (7, i6 t4), (8, i6 x2)]) [(⟨g1_, o1_ + (x2).toNat * 1, none⟩, i6 (t3.1.f0.getD (x2).toNat 0))] (RFacts.imm (hc1_ 0 _ rfl) (RFacts.nil _ _ _)) 1 [.r 0] (by kernel_rfl) (by kernel_rfl) ?_
      obtain ⟨t5, hA5, H⟩ := bnd H
      refine RL.callP 27 [.slice A1 t2.length c1, i6 (t3.1.f0.getD (x2).toNat 0)] (some 43) (fun w => armillaryref23_Except.Post I11 w t5) (by kernel_rfl) (by kernel_rfl) (fun w hs => armillaryref23_Except.calls kq1 I11 t2 A1 c1 (t3.1.f0.getD (x2).toNat 0) w hs.im hl1 (Rd.ext (Imm.le_trans (Imm.le_trans (Imm.le_trans (Imm.le_trans (Imm.le_trans (Imm.le_trans hi4 hi5) hi6) hi7) hi8) hi9) hi11) hr1) t5 hA5) ?_
      rintro w v w' hs ⟨I12, A5, c5, cs5, rfl, hg, hp5⟩
      have hi12 := hg.le
      refine RL.resume (X' := [orow 48 3 A5 t5.length c5 cs5]) rfl (hs.call hg) ?_
      clear hs hg
      generalize w'.heap.size = nx8
      clear w w'
      refine RL.st 1 [(9, .slice A5 t5.length c5), (3, .bool t1), (4, .slice A1 t2.length c1), (5, pt nx3 0), (7, i6 t4), (8, i6 x2)] ?_
      refine OK.sr ?_
      refine RL.s 1 [(45, .slice A5 t5.length c5), (9, .slice A5 t5.length c5), (3, .bool t1), (4, .slice A1 t2.length c1), (5, pt nx3 0), (7, i6 t4), (8, i6 x2)] ?_
      refine RL.freeze (e := 48) (sz := 3) (S := A5) (n := t5.length) (cap := c5) 0 (by kernel_rfl) hp5 rfl (fun I13 hi13 hl5 hr5 => ?_)
      skip
      obtain ⟨t6, hA6, H⟩ := bnd H
      refine RL.callP 15 [.slice A5 t5.length c5] (some 46) (fun w => auction_Clear.Post I13 w t6) (by kernel_rfl) (by kernel_rfl) (fun w hs => auction_Clear.calls kq1 I13 t5 A5 c5 w hs.im hl5 hr5 t6 hA6) ?_
      rintro w v w' hs ⟨I14, A6, c6, cs6, A7, c7, cs7, A8, c8, cs8, rfl, hg, hp6, hp7, hp8⟩
      have hi14 := hg.le
      refine RL.resume (X' := [orow 3 1 A6 t6.1.f0.length c6 cs6, orow 3 1 A7 t6.1.f1.length c7 cs7, orow 2 1 A8 t6.1.f2.length c8 cs8]) rfl (hs.call hg) ?_
      clear hs hg
      generalize w'.heap.size = nx9
      clear w w'
      refine RL.freeze (e := 3) (sz := 1) (S := A6) (n := t6.1.f0.length) (cap := c6) 0 (by kernel_rfl) hp6 rfl (fun I15 hi15 hl6 hr6 => ?_)
      skip
      refine RL.freeze (e := 3) (sz := 1) (S := A7) (n := t6.1.f1.length) (cap := c7) 0 (by kernel_rfl) (Reps.ext hi15 hp7) rfl (fun I16 hi16 hl7 hr7 => ?_)
      skip
      refine RL.freeze (e := 2) (sz := 1) (S := A8) (n := t6.1.f2.length) (cap := c8) 0 (by kernel_rfl) (Reps.ext (Imm.le_trans hi15 hi16) hp8) rfl (fun I17 hi17 hl8 hr8 => ?_)
      skip
      refine RL.simP (K' := [(11, i6 t6.2), (10, pt nx9 0), (9, .slice A5 t5.length c5), (3, .bool t1), (4, .slice A1 t2.length c1), (5, pt nx3 0), (7, i6 t4), (8, i6 x2)]) (nx' := nx9 + 1) (L' := [⟨nx3, [.slice A2 t3.1.f0.length c2, .slice A3 t3.1.f1.length c3, .slice A4 t3.1.f2.length c4], 29⟩, ⟨nx9, [.slice A6 t6.1.f0.length c6, .slice A7 t6.1.f1.length c7, .slice A8 t6.1.f2.length c8], 29⟩]) [] (RFacts.nil _ _ _) 6 [.no, .no, .no, .no, .l 1, .no] (by kernel_rfl) (by kernel_rfl) ?_
      refine RL.nt ?_
      refine OK.sq ?_
      refine OK.join (fun K' I' _ L' X' => ∃ (x3 : Bool), K' = [(3, .bool t1), (4, .slice A1 t2.length c1), (5, pt nx3 0), (7, i6 t4), (8, i6 x2), (76, .bool x3)] ∧ L' = [⟨nx3, [.slice A2 t3.1.f0.length c2, .slice A3 t3.1.f1.length c3, .slice A4 t3.1.f2.length c4], 29⟩, ⟨nx9, [.slice A6 t6.1.f0.length c6, .slice A7 t6.1.f1.length c7, .slice A8 t6.1.f2.length c8], 29⟩] ∧ X' = [] ∧ Imm.le I17 I' ∧ (if x3 = true then (some (Sum.inr false)) else (armillarylaw23_AuctionExternality.l1 t2 t3 t4 kq1 (W .i64 (x2 + 1)))) = some y2) ?_ ?_
      ·rintro _ I18 nx10 _ _ ⟨x3, rfl, rfl, rfl, hi18, H⟩
       replace H : (if x3 = true then (some (Sum.inr false)) else (armillarylaw23_AuctionExternality.l1 t2 t3 t4 kq1 (W .i64 (x2 + 1)))) = some y2 := H
       refine QN.then_ ?_
       refine OK.cd x3 (fun hb => ?_) (fun hb => ?_)
       ·skip
        have hc := hb
        rw [if_pos hc] at H
        clear hb
        refine OK.sr ?_
        refine RL.st 1 [(2, .bool false)] ?_
        refine OK.re ?_
        refine QN.blkR ?_
        refine QN.thenR ?_
        refine QN.outR hQ3 ?_
        refine QN.blkR ?_
        refine QN.outR hQ2 ?_
        refine QN.thenR ?_
        obtain rfl := Option.some.inj H
        replace H : some false = some r := HK2
        obtain rfl := Option.some.inj H
        refine QN.body rfl [] (RFacts.nil _ _ _) (.no) (.bool false) (by kernel_rfl) (by kernel_rfl) (by kernel_rfl) ?_ _ (.inr rfl)
        exact fun w' hs' => ⟨_, rfl, I18, rfl, hs'.got _ .slnil⟩
       ·skip
        have hc := (Bool.eq_false_iff.1 hb)
        rw [if_neg hc] at H
        clear hb
        refine OK.sk ?_
        refine QN.blkN ?_
        refine QN.then_ ?_
        refine OK.rg ?_
        refine RL.s 3 [(8, i6 (W .i64 (x2 + 1))), (3, .bool t1), (4, .slice A1 t2.length c1), (5, pt nx3 0), (7, i6 t4)] ?_
        refine RL.nil (by kernel_rfl) ?_
        exact QN.sb (hJ3 _ _ _ _ _ ⟨W .i64 (x2 + 1), rfl, rfl, rfl, (Imm.le_trans (Imm.le_trans (Imm.le_trans (Imm.le_trans (Imm.le_trans (Imm.le_trans (Imm.le_trans hi11 hi12) hi13) hi14) hi15) hi16) hi17) hi18), H⟩) (.cons_cons _ (.cons _ .slnil)) (.refl _)
      ·intro Q_2 hJ4 hQ4
       obtain ⟨y3, H, HK3⟩ := bnd H
       refine OK.cases (t6.2 != 0) (fun hb1 => ?_) (fun hb1 => ?_)
       ·have hc1 := (bne_iff_ne.1 hb1)
        rw [if_pos hc1] at H
        refine OK.drawnC 12 26 O7_47 a7_47n (by kernel_rfl) (by kernel_rfl) u7d1l u7d1g [] (RI.nil _) [.no, .no, .no, .no, .no, .no, .no, .no, .no, .no, .no, .no, .no, .no, .no, .no, .no, .no, .no, .no, .no, .no, .no, .no, .no, .no] a7_47 a7_47o (by kernel_rfl) (by kernel_rfl) (u7d1s t6) (u7d1f t1 t2 A1 c1 nx3 t4 x2 t5 A5 c5 t6 nx9 26) (u7d1v t1 t2 A1 c1 t3 A2 c2 A3 c3 A4 c4 nx3 t4 x2 t5 A5 c5 t6 A6 c6 A7 c7 A8 c8 nx9) (u7d1e t1 t2 A1 c1 t3 A2 c2 A3 c3 A4 c4 nx3 t4 x2 t5 A5 c5 t6 A6 c6 A7 c7 A8 c8 nx9) [] framesOk.nil ?_ [u7d1f t1 t2 A1 c1 nx3 t4 x2 t5 A5 c5 t6 nx9 2] (framesOk.cons (fun u => rfl) framesOk.nil) ?_ ?_
        ·refine LoudsG.nil
        ·refine Givens.cons (fun u w =>  ?_) (fun _ _ _ => rfl) (Givens.nil)
         ·exact giv_run (v := .bool (t6.2 != 0)) (by kernel_rfl) (by rw [hb1]; try rfl) w
        intro u I19 nx11 hi19 hF
        clear hF
        refine RL.norm (K' := ((74, undef) :: (73, undef) :: (72, undef) :: (71, undef) :: (70, undef) :: (69, undef) :: (68, undef) :: (67, undef) :: (66, undef) :: (65, undef) :: (64, undef) :: (63, undef) :: (62, undef) :: (61, undef) :: (60, undef) :: (59, undef) :: (58, undef) :: (57, undef) :: (56, undef) :: (55, undef) :: (54, undef) :: (53, undef) :: (52, undef) :: (51, .bool true) :: (50, .bool (t6.2 != 0)) :: (49, i6 t6.2) :: (11, i6 t6.2) :: (10, pt nx9 0) :: (9, .slice A5 t5.length c5) :: (3, .bool t1) :: (4, .slice A1 t2.length c1) :: (5, pt nx3 0) :: (7, i6 t4) :: (8, i6 x2) :: [])) (X' := []) (by kernel_rfl) rfl rfl rfl ?_
        refine RL.s 2 [(76, .bool true), (3, .bool t1), (4, .slice A1 t2.length c1), (5, pt nx3 0), (7, i6 t4), (8, i6 x2)] ?_
        refine RL.nil (by kernel_rfl) ?_
        obtain rfl := Option.some.inj H
        exact QN.sb (hJ4 _ _ _ _ _ ⟨true, rfl, rfl, rfl, hi19, HK3⟩) (.cons_cons _ (.cons_cons _ .slnil)) (.refl _)
       ·have hc1 := (not_not_intro (bne_eq_false_iff_eq.1 hb1))
        rw [if_neg hc1] at H
        obtain ⟨hi0_1, H⟩ := ifs H
        obtain ⟨hi1_1, H⟩ := ifs H
        obtain ⟨g2_, o2_, hA2_, hc2_⟩ := Ty.int_at (Rd.ext (Imm.le_trans (Imm.le_trans (Imm.le_trans (Imm.le_trans (Imm.le_trans (Imm.le_trans (Imm.le_trans (Imm.le_trans hi8 hi9) hi11) hi12) hi13) hi14) hi15) hi16) hi17) hr4) x2 hi0_1 hi1_1
        obtain ⟨t7, hA7, H⟩ := bnd H
        obtain ⟨hi0_2, H⟩ := ifs H
        obtain ⟨hi1_2, H⟩ := ifs H
        obtain ⟨g3_, o3_, hA3_, hc3_⟩ := Ty.int_at (Rd.ext (Imm.le_trans (Imm.le_trans (Imm.le_trans (Imm.le_trans (Imm.le_trans (Imm.le_trans (Imm.le_trans (Imm.le_trans (Imm.le_trans (Imm.le_trans hi6 hi7) hi8) hi9) hi11) hi12) hi13) hi14) hi15) hi16) hi17) hr2) x2 hi0_2 hi1_2
        obtain ⟨hi0_3, H⟩ := ifs H
        obtain ⟨hi1_3, H⟩ := ifs H
        obtain ⟨g4_, o4_, hA4_, hc4_⟩ := Ty.int_at (Rd.ext (Imm.le_trans (Imm.le_trans (Imm.le_trans (Imm.le_trans (Imm.le_trans (Imm.le_trans (Imm.le_trans (Imm.le_trans (Imm.le_trans hi7 hi8) hi9) hi11) hi12) hi13) hi14) hi15) hi16) hi17) hr3) x2 hi0_3 hi1_3
        obtain ⟨t8, hA8, H⟩ := bnd H
        refine OK.drawnC 12 26 O7_47 a7_47n (by kernel_rfl) (by kernel_rfl) (u7d2l t7 t8) (u7d2g x2 g2_ o2_ g3_ o3_ g4_ o4_) [(⟨g2_, o2_ + (x2).toNat * 1, none⟩, i6 (t3.1.f2.getD (x2).toNat 0)), (⟨g3_, o3_ + (x2).toNat * 1, none⟩, i6 (t3.1.f0.getD (x2).toNat 0)), (⟨g4_, o4_ + (x2).toNat * 1, none⟩, i6 (t3.1.f1.getD (x2).toNat 0))] (RI.cons (hc2_ 0 _ rfl) (RI.cons (hc3_ 0 _ rfl) (RI.cons (hc4_ 0 _ rfl) (RI.nil _)))) [.no, .no, .no, .no, .l 0, .no, .no, .r 0, .no, .l 1, .no, .no, .no, .no, .l 0, .no, .no, .r 1, .no, .l 0, .no, .no, .r 2, .no, .no, .no] a7_47 a7_47o (by kernel_rfl) (by kernel_rfl) (u7d2s t2 A1 c1 t3 A2 c2 A3 c3 A4 c4 nx3 t4 x2 t5 A5 c5 t6 A6 c6 A7 c7 A8 c8 g2_ o2_ t7 g3_ o3_ g4_ o4_ t8) (u7d2f t1 t2 A1 c1 t3 A2 c2 A3 c3 A4 c4 nx3 t4 x2 t5 A5 c5 t6 A6 c6 A7 c7 A8 c8 nx9 g2_ o2_ t7 g3_ o3_ g4_ o4_ t8 26) (u7d2v t1 t2 A1 c1 t3 A2 c2 A3 c3 A4 c4 nx3 t4 x2 t5 A5 c5 t6 A6 c6 A7 c7 A8 c8 nx9 g2_ o2_ t7 g3_ o3_ g4_ o4_ t8) (u7d2e t1 t2 A1 c1 t3 A2 c2 A3 c3 A4 c4 nx3 t4 x2 t5 A5 c5 t6 A6 c6 A7 c7 A8 c8 nx9 g2_ o2_ t7 g3_ o3_ g4_ o4_ t8) [u7d2f t1 t2 A1 c1 t3 A2 c2 A3 c3 A4 c4 nx3 t4 x2 t5 A5 c5 t6 A6 c6 A7 c7 A8 c8 nx9 g2_ o2_ t7 g3_ o3_ g4_ o4_ t8 10, u7d2f t1 t2 A1 c1 t3 A2 c2 A3 c3 A4 c4 nx3 t4 x2 t5 A5 c5 t6 A6 c6 A7 c7 A8 c8 nx9 g2_ o2_ t7 g3_ o3_ g4_ o4_ t8 23] (framesOk.cons (fun u => rfl) (framesOk.cons (fun u => rfl) framesOk.nil)) ?_ [u7d2f t1 t2 A1 c1 t3 A2 c2 A3 c3 A4 c4 nx3 t4 x2 t5 A5 c5 t6 A6 c6 A7 c7 A8 c8 nx9 g2_ o2_ t7 g3_ o3_ g4_ o4_ t8 2, u7d2f t1 t2 A1 c1 t3 A2 c2 A3 c3 A4 c4 nx3 t4 x2 t5 A5 c5 t6 A6 c6 A7 c7 A8 c8 nx9 g2_ o2_ t7 g3_ o3_ g4_ o4_ t8 6, u7d2f t1 t2 A1 c1 t3 A2 c2 A3 c3 A4 c4 nx3 t4 x2 t5 A5 c5 t6 A6 c6 A7 c7 A8 c8 nx9 g2_ o2_ t7 g3_ o3_ g4_ o4_ t8 16, u7d2f t1 t2 A1 c1 t3 A2 c2 A3 c3 A4 c4 nx3 t4 x2 t5 A5 c5 t6 A6 c6 A7 c7 A8 c8 nx9 g2_ o2_ t7 g3_ o3_ g4_ o4_ t8 21] (framesOk.cons (fun u => rfl) (framesOk.cons (fun u => rfl) (framesOk.cons (fun u => rfl) (framesOk.cons (fun u => rfl) framesOk.nil)))) ?_ ?_
        ·refine LoudsG.cons ?_ (LoudsG.cons ?_ (LoudsG.nil))
         ·intro D u J w hp hJ hs hF
          refine Does.call 23 [.slice A5 t5.length c5, .agg #[.slice A6 t6.1.f0.length c6, .slice A7 t6.1.f1.length c7, .slice A8 t6.1.f2.length c8]] (by kernel_rfl) ((auction_Welfare.calls kq1 J t5 A5 c5 t6.1 A6 c6 A7 c7 A8 c8 w hs.im hl5 (Rd.ext (Imm.le_trans (Imm.le_trans (Imm.le_trans (Imm.le_trans hi14 hi15) hi16) hi17) hJ) hr5) hl6 (Rd.ext (Imm.le_trans (Imm.le_trans hi16 hi17) hJ) hr6) hl7 (Rd.ext (Imm.le_trans hi17 hJ) hr7) hl8 (Rd.ext hJ hr8) t7 hA7).mono ?_)
          rintro e w' ⟨v, rfl, J2, rfl, hg⟩
          exact ⟨_, rfl, fun _ => (none, 0, []), J2, rfl, hg, trivial⟩
         ·intro D u J w hp hJ hs hF
          refine Does.call 26 [.slice A1 t2.length c1, i6 (t3.1.f0.getD (x2).toNat 0), i6 (t3.1.f1.getD (x2).toNat 0)] (by kernel_rfl) ((armillaryref23_Value.calls kq1 J t2 A1 c1 (t3.1.f0.getD (x2).toNat 0) (t3.1.f1.getD (x2).toNat 0) w hs.im hl1 (Rd.ext (Imm.le_trans (Imm.le_trans (Imm.le_trans (Imm.le_trans (Imm.le_trans (Imm.le_trans (Imm.le_trans (Imm.le_trans (Imm.le_trans (Imm.le_trans (Imm.le_trans (Imm.le_trans (Imm.le_trans hi4 hi5) hi6) hi7) hi8) hi9) hi11) hi12) hi13) hi14) hi15) hi16) hi17) hJ) hr1) t8 hA8).mono ?_)
          rintro e w' ⟨v, rfl, J2, rfl, hg⟩
          exact ⟨_, rfl, fun _ => (none, 0, []), J2, rfl, hg, trivial⟩
        ·refine Givens.cons (fun u w =>  ?_) (fun _ _ _ => rfl) (Givens.cons (fun u w =>  ?_) (fun _ _ _ => rfl) (Givens.cons (fun u w =>  ?_) (fun _ _ _ => rfl) (Givens.cons (fun u w =>  ?_) (fun _ _ _ => rfl) (Givens.nil))))
         ·exact giv_run (v := .bool (t6.2 != 0)) (by kernel_rfl) (by rw [hb1]; try rfl) w
         ·exact giv_idx (T := 27) (e := 2) 1 .i64 x2 hA2_ t3.1.f2.length c4 (by kernel_rfl) (by kernel_rfl) (by kernel_rfl) hi0_1 hi1_1 w
         ·exact giv_idx (T := 26) (e := 3) 1 .i64 x2 hA3_ t3.1.f0.length c2 (by kernel_rfl) (by kernel_rfl) (by kernel_rfl) hi0_2 hi1_2 w
         ·exact giv_idx (T := 26) (e := 3) 1 .i64 x2 hA4_ t3.1.f1.length c3 (by kernel_rfl) (by kernel_rfl) (by kernel_rfl) hi0_3 hi1_3 w
        intro u I20 nx12 hi20 hF
        clear hF
        refine RL.norm (K' := ((74, i6 (W .i64 (t7 - (W .i64 (t4 - t8))))) :: (73, i6 (W .i64 (t4 - t8))) :: (72, i6 t8) :: (71, i6 (t3.1.f1.getD (x2).toNat 0)) :: (70, pt g4_ (o4_ + (x2).toNat * 1)) :: (69, i6 x2) :: (68, .slice A3 t3.1.f1.length c3) :: (67, pt nx3 1) :: (66, i6 (t3.1.f0.getD (x2).toNat 0)) :: (65, pt g3_ (o3_ + (x2).toNat * 1)) :: (64, i6 x2) :: (63, .slice A2 t3.1.f0.length c2) :: (62, pt nx3 0) :: (61, .slice A1 t2.length c1) :: (60, i6 t4) :: (59, i6 t7) :: (58, .agg #[.slice A6 t6.1.f0.length c6, .slice A7 t6.1.f1.length c7, .slice A8 t6.1.f2.length c8]) :: (57, .slice A5 t5.length c5) :: (56, i6 (t3.1.f2.getD (x2).toNat 0)) :: (55, pt g2_ (o2_ + (x2).toNat * 1)) :: (54, i6 x2) :: (53, .slice A4 t3.1.f2.length c4) :: (52, pt nx3 2) :: (51, .bool false) :: (50, .bool (t6.2 != 0)) :: (49, i6 t6.2) :: (11, i6 t6.2) :: (10, pt nx9 0) :: (9, .slice A5 t5.length c5) :: (3, .bool t1) :: (4, .slice A1 t2.length c1) :: (5, pt nx3 0) :: (7, i6 t4) :: (8, i6 x2) :: [])) (X' := []) (by kernel_rfl) rfl rfl rfl ?_
        refine RL.s 2 [(76, .bool ((t3.1.f2.getD (x2).toNat 0) != (W .i64 (t7 - (W .i64 (t4 - t8)))))), (3, .bool t1), (4, .slice A1 t2.length c1), (5, pt nx3 0), (7, i6 t4), (8, i6 x2)] ?_
        refine RL.nil (by kernel_rfl) ?_
        obtain rfl := Option.some.inj H
        exact QN.sb (hJ4 _ _ _ _ _ ⟨((t3.1.f2.getD (x2).toNat 0) != (W .i64 (t7 - (W .i64 (t4 - t8))))), rfl, rfl, rfl, hi20, HK3⟩) (.cons_cons _ (.cons_cons _ .slnil)) (.refl _)
     ·skip
      have hc := (of_decide_eq_false hb)
      rw [if_neg hc] at H
      clear hb
      refine OK.ex 0 ?_
      refine QN.thenE ?_
      refine QN.outE hQ3 ?_
      refine QN.blkE ?_
      obtain rfl := Option.some.inj H
      exact QN.sb (hJ2 _ _ _ _ _ ⟨rfl, rfl, rfl, hi11, HK2⟩) (.cons_cons _ .slnil) (.refl _)
 ·intro Q_3 hJ1 hQ1
  obtain ⟨y1, H, HK1⟩ := bnd H
  refine OK.rg ?_
  refine RL.s 3 [(22, .bool (t3.2 != 0)), (5, pt nx3 0), (4, .slice A1 t2.length c1), (3, .bool t1)] ?_
  refine RL.cases (t3.2 != 0) (fun hb => ?_) (fun hb => ?_)
  ·have hc := (bne_iff_ne.1 hb)
   rw [hb]
   rw [if_pos hc] at H; clear hb
   refine RL.s 4 [(26, .bool true), (5, pt nx3 0), (4, .slice A1 t2.length c1), (3, .bool t1)] ?_
   refine RL.nil (by kernel_rfl) ?_
   obtain rfl := Option.some.inj H
   exact QN.sb (hJ1 _ _ _ _ _ ⟨true, rfl, rfl, rfl, (Imm.le_refl _), HK1⟩) (.cons_cons _ .slnil) (.refl _)
  ·have hc := (not_not_intro (bne_eq_false_iff_eq.1 hb))
   rw [hb]
   rw [if_neg hc] at H; clear hb
   refine RL.simK (K' := [(23, .agg #[.slice A2 t3.1.f0.length c2, .slice A3 t3.1.f1.length c3, .slice A4 t3.1.f2.length c4]), (22, .bool false), (5, pt nx3 0), (4, .slice A1 t2.length c1), (3, .bool t1)]) [] (RFacts.nil _ _ _) 1 [.l 0] (by kernel_rfl) (by kernel_rfl) ?_
   obtain ⟨t9, hA9, H⟩ := bnd H
   refine RL.callP 25 [.agg #[.slice A2 t3.1.f0.length c2, .slice A3 t3.1.f1.length c3, .slice A4 t3.1.f2.length c4]] (some 24) (fun w => armillarylaw23_shaped.Post I7 w t9) (by kernel_rfl) (by kernel_rfl) (fun w hs => armillarylaw23_shaped.calls I7 t3.1 A2 c2 A3 c3 A4 c4 w hs.im hl2 (Rd.ext (Imm.le_trans hi6 hi7) hr2) hl3 (Rd.ext hi7 hr3) hl4 hr4 t9 hA9) ?_
   rintro w v w' hs ⟨I21, rfl, hg⟩
   have hi21 := hg.le
   refine RL.resume (X' := []) rfl (hs.call hg) ?_
   clear hs hg
   generalize w'.heap.size = nx13
   clear w w'
   refine RL.s 2 [(26, .bool (!t9)), (5, pt nx3 0), (4, .slice A1 t2.length c1), (3, .bool t1)] ?_
   refine RL.nil (by kernel_rfl) ?_
   obtain rfl := Option.some.inj H
   exact QN.sb (hJ1 _ _ _ _ _ ⟨(!t9), rfl, rfl, rfl, hi21, HK1⟩) (.cons_cons _ .slnil) (.refl _)

end Go.Proofs.Ytihmbmeelheinaa
namespace Go.Proofs.Ytihmbmeelheinaa
open Go Go.Proofs.Ytihmbmeelheinaa.RW Go.Proofs.Ytihmbmeelheinaa.auc
open Go.Proofs.Ytihmbmeelheinaa.hun (g sm Solved)
set_option linter.unusedVariables false
theorem externality_l1 {l : List S48} {d : S29} {σ : Int → Option Int} {X : Int} {Y : Int → Int} (k : Cl l d σ X Y) (hg : okG 36 1048576 l) (h : okB l) : ∀ (q n : Nat), q + n = (ws l).length → Ev (fun f => armillarylaw23_AuctionExternality.l1 l (d, 0) X f (n : Int)) (.inl ())
  | 0, n, e => by
    obtain ⟨n0, n1, n2, n3⟩ := k.len0 h
    exact Ev.succ (g := fun _ => some _) (fun f => by rw [armillarylaw23_AuctionExternality.l1, if_neg (by show ¬ (n : Int) < (d.f0.length : Int); omega)]) (Ev.const rfl)
  | q + 1, n, e => by
    obtain ⟨n0, n1, n2, n3⟩ := k.len0 h
    have hn : n < (ws l).length := by omega
    have ih := externality_l1 k hg h q (n + 1) (by omega)
    have c0 : (n : Int) < (((d, (0 : Int)).1.f0.length : Nat) : Int) := by show (n : Int) < (d.f0.length : Int); omega
    have c1 : (n : Int) < (((d, (0 : Int)).1.f1.length : Nat) : Int) := by show (n : Int) < (d.f1.length : Int); omega
    have c2 : (n : Int) < (((d, (0 : Int)).1.f2.length : Nat) : Int) := by show (n : Int) < (d.f2.length : Int); omega
    have cp : (0 : Int) ≤ (n : Int) := by omega
    obtain ⟨p1, p2, p3⟩ := k.pr h hn
    have hv := h.vb (g (ws l) n) (g d.f1 n)
    have hx := k.xb
    have hy := k.yb (g (ws l) n)
    have hval := value_ev l (g d.f0 n) (g d.f1 n) (by have := h.n64; omega)
    have hexc := except_ev l (g d.f0 n) (by have := h.n64; omega)
    have h' := exc_ok hg (by decide) (by decide) (g (ws l) n)
    obtain ⟨d', cols', X', Y', hc', _, k'⟩ := clear_ev h'
    have hX := k.without h (g_mem hn) k'
    have hw' := k'.welfare h'
    rw [k.who] at hval hexc
    refine Ev.succ (fun f => by rw [armillarylaw23_AuctionExternality.l1, if_pos c0, if_pos cp, if_pos c0, Wn (by omega), tn]) ?_
    show Ev (fun f => (armillaryref23_Except.f f l (g d.f0 n)).bind _) _
    rw [k.who]
    refine Ev.bind hexc (Ev.bind hc' (Ev.bind (r := false) ?_ (Ev.congr (fun f => if_neg (by decide)) ih)))
    refine Ev.congr (fun f => if_neg (by simp)) (Ev.congr (fun f => if_pos cp) (Ev.congr (fun f => if_pos c2) (Ev.bind hw' ?_)))
    refine Ev.congr (fun f => if_pos cp) (Ev.congr (fun f => if_pos (by rw [← k.who]; exact c0)) (Ev.congr (fun f => if_pos cp) (Ev.congr (fun f => if_pos c1) (Ev.bind hval (Ev.const ?_)))))
    rw [W64 (x := X - _) (by omega) (by omega), W64 (by omega) (by omega), hX]
    have : d.f2.getD n 0 = Y (g (ws l) n) - (X - Vv l (g (ws l) n) (g d.f1 n)) := p1
    show some (d.f2.getD n 0 != _) = _
    rw [this]
    simp
theorem armillarylaw23_AuctionExternality_holds (a0 : List S48) (hp0 : ∀ x ∈ a0, p48 x) (h0 : a0.length ≤ 9223372036854775807) : ∃ k, armillarylaw23_AuctionExternality.f k a0 = some true := by
  obtain ⟨l, hg, hm⟩ := made_ev h0
  have h := hg.ok (by decide) (by decide)
  obtain ⟨d, cols, X, Y, hc, ⟨e, hs⟩, k⟩ := clear_ev h
  refine Ev.get (Ev.bind sanity_ev (Ev.bind hm (Ev.bind hc (Ev.bind1 (r := false) ?_ (Ev.congr (fun f => if_neg (by decide)) (Ev.bind (k.welfare h) (Ev.bind (externality_l1 k hg h (ws l).length 0 rfl) (Ev.const rfl))))))))
  rw [if_neg (by simp), k.shaped]
  rfl
end Go.Proofs.Ytihmbmeelheinaa
namespace Go.Proofs.Ytihmbmeelheinaa.auctionExternality
open Go.ChangeShapes Go.WideShapes Go.ChangeAt Go.RowKit Go.Proofs.Ytihmbmeelheinaa Go.Proofs.Ytihmbmeelheinaa.RW
open Go.ChangeMaps (open_string shut_string)
set_option linter.unusedVariables false
set_option maxRecDepth 1000000
set_option maxHeartbeats 8000000

theorem own : ownKnob Try.prog.godebug = none := by kernel_rfl
theorem laidOut : laidOutB Try.prog = true := by kernel_rfl
theorem lifted (os : Os) (started : os.Started) (H : Type) (enc : TypeId × Value → H) :
  ReturnsInHanded {} Try.checked os 7 .any (Rows.auctionExternalitySpec.pre6 enc Try.prog Try.f7 Rows.auctionExternalityRow.domain false) (Rows.auctionExternalitySpec.post enc Try.prog Try.f7 false true false false) := by
 refine returnsInHanded_of_change (C := Try.checked) own started (by kernel_rfl) Try.func7
  (ChangeSpec.witness6 (enc := enc) (C := Try.checked) false ⟨#[], #[.slice none 0 0], []⟩ 8 (by kernel_rfl) (by kernel_rfl) (by kernel_rfl) (by kernel_rfl)) ?_
 intro W base args ds gs before hval0 hW hcnd _
 have hval : ∀ (j : Nat) t v, Try.f7.params[j]? = some t → args[j]? = some v → Value.okWide Try.prog W .any base t v := hval0
 have hW' := hW
 obtain ⟨p, q, hA0, hV, rfl, hfz, hnd⟩ := hW
 have hA : DataW.TrodAll enc Try.prog W 0 (fun _ => true) true Try.f7.params.toList args.toList ds p := hA0
 rw [Try.params7] at hA hval
 obtain ⟨v0, vs0, d0, ds0, p0, q0, hargs, rfl, rfl, h0, z0⟩ := trodAll_cons hA
 obtain ⟨rfl, rfl, rfl⟩ := trodAll_nil z0
 obtain rfl : args = #[v0] := by cases args; simp_all
 obtain ⟨rfl, rfl⟩ := trodVars_none hV
 have k0 := h0
 have lt0 : ∀ x ∈ p0, x.block < W.heap.size := by obtain ⟨m, hm⟩ := k0; exact DataW.trod_lt m _ _ _ hm
 obtain ⟨b0, len0, cap0, rfl⟩ := okWide_slice Try.underlying22 (hval 0 22 v0 rfl rfl)
 obtain ⟨fuel0, hf0⟩ := h0
 obtain ⟨a0, ⟨A0, c0, e0, l0, r0⟩, hp0⟩ := (opens_slice (e := 48) o48 (by kernel_rfl) (by kernel_rfl) (Nat.le_of_ble_eq_true (by kernel_rfl)) : Opens Try.prog (Ty.slice t48) 22 (fun l => ∀ x ∈ l, p48 x)) W 0 _ _ _ _ _ hf0
 obtain ⟨rfl, rfl, rfl⟩ : b0 = A0 ∧ len0 = a0.length ∧ cap0 = c0 := by simpa [Value.cells] using e0
 clear hA0 hval0
 obtain ⟨k, hk⟩ := armillarylaw23_AuctionExternality_holds a0 hp0 r0.1
 refine (armillarylaw23_AuctionExternality.calls k (wImm W) a0 b0 cap0 W (wImm_at W) l0 r0 true hk).mono ?_
 rintro e W' ⟨v, rfl, J, rfl, hg⟩
 have bel : Below W.heap.size W W' := ⟨hg.evo.os, hg.evo.tape, hg.evo.output, hg.evo.size, fun k hk => hg.evo.blk k hk (fun h => h)⟩
 exact ⟨_, rfl, _, _, _, [], _, [], hW', trodAll_mk1 (shut_bool Try.underlying4 _), (trodAll_cons_mk (Below.trod laidOut (by kernel_rfl) (of_decide_eq_true (by kernel_rfl)) k0 bel lt0) trodAll_mk0), rfl, bel.frame _, fun h => by cases h⟩

theorem over : Rows.auctionExternalityRow.holds Try.pinned (OpenSpec.ofChange Rows.auctionExternalitySpec) :=
 OpenClaim.holds_of_wide 7 Try.f7 rfl rfl rfl rfl rfl rfl rfl ⟨rfl, rfl, rfl, rfl, rfl⟩ rfl rfl rfl rfl rfl (by kernel_rfl) Try.func7 (by kernel_rfl)
  (of_decide_eq_true (by kernel_rfl)) (by unfold Func.isWrapper; first | (rw [if_pos (by decide +kernel)]; kernel_rfl) | (rw [if_neg (by decide +kernel)]; exact ⟨rfl, rfl⟩))
  (fun os started H enc _ => lifted os started H enc)
theorem proved : Rows.AuctionExternalitySaid := over
#print axioms proved
end Go.Proofs.Ytihmbmeelheinaa.auctionExternality
