/- Words of the walk, the functions' walks and plain laws, joined; no conditions beyond those that the theorems name. -/
import Derived.Test.YtieakigoinebdaaX32
import Derived.Test.YtieakigoinebdaaX36
namespace Go.Proofs.Ytieakigoinebdaa
open Go Go.Proofs.Ytieakigoinebdaa.RW
set_option linter.unusedVariables false
set_option maxRecDepth 100000
set_option maxHeartbeats 8000000

/-! ### armillaryref29_decided: function 36, armillary/armillaryref29.decided -/
noncomputable def K36_0 : Code := cBody Try.f36
noncomputable def K36_1 : Code := cL K36_0
noncomputable def O36_1 : List Oper := cOps K36_1
noncomputable def K36_3 : Code := cR K36_0
noncomputable def K36_4 : Code := cL K36_3
noncomputable def K36_5 : Code := cL K36_4
noncomputable def O36_5 : List Oper := cOps K36_5
noncomputable def K36_7 : Code := cR K36_4
noncomputable def K36_8 : Code := cL K36_7
noncomputable def K36_9 : Code := cL K36_8
noncomputable def K36_10 : Code := cL K36_9
noncomputable def K36_11 : Code := cL K36_10
noncomputable def O36_11 : List Oper := cOps K36_11
noncomputable def K36_13 : Code := cR K36_10
noncomputable def K36_14 : Code := cL K36_13
noncomputable def K36_15 : Code := cR K36_13
noncomputable def K36_16 : Code := cR K36_9
noncomputable def K36_17 : Code := cL K36_16
noncomputable def K36_18 : Code := cL K36_17
noncomputable def K36_19 : Code := cL K36_18
noncomputable def K36_20 : Code := cL K36_19
noncomputable def O36_20 : List Oper := cOps K36_20
noncomputable def K36_22 : Code := cR K36_19
noncomputable def K36_23 : Code := cL K36_22
noncomputable def K36_24 : Code := cR K36_22
noncomputable def K36_25 : Code := cR K36_18
noncomputable def K36_26 : Code := cL K36_25
noncomputable def O36_26 : List Oper := cOps K36_26
noncomputable def K36_28 : Code := cR K36_25
noncomputable def K36_29 : Code := cL K36_28
noncomputable def K36_30 : Code := cL K36_29
noncomputable def O36_30 : List Oper := cOps K36_30
noncomputable def K36_32 : Code := cR K36_29
noncomputable def K36_33 : Code := cL K36_32
noncomputable def K36_34 : Code := cL K36_33
noncomputable def K36_35 : Code := cL K36_34
noncomputable def K36_36 : Code := cL K36_35
noncomputable def O36_36 : List Oper := cOps K36_36
noncomputable def K36_38 : Code := cR K36_35
noncomputable def K36_39 : Code := cL K36_38
noncomputable def K36_40 : Code := cR K36_38
noncomputable def K36_41 : Code := cR K36_34
noncomputable def K36_42 : Code := cL K36_41
noncomputable def K36_43 : Code := cL K36_42
noncomputable def K36_44 : Code := cL K36_43
noncomputable def O36_44 : List Oper := cOps K36_44
noncomputable def K36_46 : Code := cR K36_43
noncomputable def K36_47 : Code := cL K36_46
noncomputable def O36_47 : List Oper := cOps K36_47
noncomputable def K36_49 : Code := cR K36_46
noncomputable def K36_50 : Code := cR K36_41
noncomputable def O36_50 : List Oper := cOps K36_50
noncomputable def K36_52 : Code := cR K36_28
noncomputable def K36_53 : Code := cL K36_52
noncomputable def O36_53 : List Oper := cOps K36_53
noncomputable def K36_55 : Code := cR K36_52
noncomputable def K36_56 : Code := cL K36_55
noncomputable def K36_57 : Code := cL K36_56
noncomputable def O36_57 : List Oper := cOps K36_57
noncomputable def K36_59 : Code := cR K36_56
noncomputable def K36_60 : Code := cR K36_55
noncomputable def K36_61 : Code := cR K36_16
noncomputable def O36_61 : List Oper := cOps K36_61
noncomputable def K36_63 : Code := cR K36_3
noncomputable def K36_64 : Code := cL K36_63
noncomputable def O36_64 : List Oper := cOps K36_64
noncomputable def K36_66 : Code := cR K36_63
def armillaryref29_decided.k1  : (Unit) ⊕ (Int × Bool) → Option (Int × Bool)
 | .inl () => (some (0, false))
 | .inr r_ => some r_
def armillaryref29_decided.k3 (a0 : List S32) (a1 : Int) (x1 : Int) (x3 : Int) : Option ((Unit) ⊕ (Int × Bool)) := ((armillaryref29_Size.f a1).bind fun t1 => (if x3 ≥ t1 then (if 0 ≤ x1 then (if x1 < (a0.length : Int) then (some (Sum.inr ((a0.getD (x1).toNat z32).f4, true))) else none) else none) else (some (Sum.inl ()))))
def armillaryref29_decided.l2 (a0 : List S32) (a1 : Int) (a2 : S24) (a3 : Int) (x1 : Int) : Nat → Int → Int → Option (Int)
 | 0, _, _ => none
 | k + 1, x4, x5 => (if x5 < (a0.length : Int) then ((if 0 ≤ x5 then (if x5 < (a0.length : Int) then (if ((a0.getD (x5).toNat z32).f0) = a3 then (if 0 ≤ x5 then (if x5 < (a0.length : Int) then (if ((a0.getD (x5).toNat z32).f2) = a2.f0 then (if 0 ≤ x5 then (if x5 < (a0.length : Int) then (if ((a0.getD (x5).toNat z32).f3) = a2.f1 then (if 0 ≤ x5 then (if x5 < (a0.length : Int) then (if 0 ≤ x1 then (if x1 < (a0.length : Int) then (if ((a0.getD (x5).toNat z32).f4) = ((a0.getD (x1).toNat z32).f4) then ((armillaryref29_counts.f k a0 a1 x5).bind fun t2 => (some t2)) else (some false)) else none) else none) else none) else none) else (some false)) else none) else none) else (some false)) else none) else none) else (some false)) else none) else none).bind (fun x6 => ((if x6 = true then (some (W .i64 (x4 + 1))) else (some x4)).bind (fun x7 => (armillaryref29_decided.l2 a0 a1 a2 a3 x1 k x7 (W .i64 (x5 + 1))))))) else (some x4))
def armillaryref29_decided.k6 (a0 : List S32) (a1 : Int) (a2 : S24) (a3 : Int) (x1 : Int) (kq1 : Nat) (x2 : Bool) : Option ((Unit) ⊕ (Int × Bool)) := (if x2 = true then (some (Sum.inl ())) else ((armillaryref29_decided.l2 a0 a1 a2 a3 x1 kq1 0 0).bind (armillaryref29_decided.k3 a0 a1 x1)))
def armillaryref29_decided.l1 (a0 : List S32) (a1 : Int) (a2 : S24) (a3 : Int) : Nat → Int → Option ((Unit) ⊕ (Int × Bool))
 | 0, _ => none
 | k + 1, x1 => (if x1 < (a0.length : Int) then (((if 0 ≤ x1 then (if x1 < (a0.length : Int) then (if ((a0.getD (x1).toNat z32).f0) ≠ a3 then (some true) else (if 0 ≤ x1 then (if x1 < (a0.length : Int) then (if ((a0.getD (x1).toNat z32).f2) ≠ a2.f0 then (some true) else (if 0 ≤ x1 then (if x1 < (a0.length : Int) then (if ((a0.getD (x1).toNat z32).f3) ≠ a2.f1 then (some true) else (if 0 ≤ x1 then (if x1 < (a0.length : Int) then ((armillaryref29_Valid.f k (a0.getD (x1).toNat z32) a1).bind fun t3 => (some (!t3))) else none) else none)) else none) else none)) else none) else none)) else none) else none).bind (armillaryref29_decided.k6 a0 a1 a2 a3 x1 k)).bind (fun s_ => match s_ with | .inl _ => (armillaryref29_decided.l1 a0 a1 a2 a3 k (W .i64 (x1 + 1))) | .inr r_ => some (Sum.inr r_))) else (some (Sum.inl ())))
def armillaryref29_decided.f (k : Nat) (a0 : List S32) (a1 : Int) (a2 : S24) (a3 : Int) : Option (Int × Bool) := ((armillaryref29_decided.l1 a0 a1 a2 a3 k 0).bind (armillaryref29_decided.k1))
def armillaryref29_decided.Post (I : Imm) (w : World) (r : Int × Bool) (v : Value) (w' : World) : Prop :=
 ∃ (J : Imm), v = .tuple #[.int .u32 r.1, .bool r.2] ∧ Got w w' I J []
noncomputable def a36_44n : List Nat := (0 :: 0 :: 3 :: 7 :: 15 :: 0 :: 63 :: 127 :: 255 :: 255 :: 1023 :: 2047 :: 4095 :: 255 :: 8447 :: 32767 :: 65535 :: 131071 :: 262143 :: 262143 :: 1048575 :: 2097151 :: 4194303 :: 262143 :: 8650751 :: 33554431 :: 67108863 :: 134217727 :: 268435455 :: 268435455 :: 1073741823 :: 2147483647 :: 4294967295 :: 268435455 :: 268435455 :: 26038239231 :: 60397977599 :: 129117454335 :: 274877906943 :: 549755813887 :: 1099511627775 :: 2199023255551 :: 2199023255551 :: 2199023255551 :: 17592186044415 :: 35184372088831 :: [])
theorem a36_44 : ancs O36_44 [] = a36_44n := by kernel_rfl
theorem a36_44o : drawOk O36_44 a36_44n 44 = true := by kernel_rfl
noncomputable def u36d1l  : List Ld :=
 []
noncomputable def u36d1g (x1 : Int) (x5 : Int) (g2_ : Nat) (o2_ : Nat) (g3_ : Nat) (o3_ : Nat) (g4_ : Nat) (o4_ : Nat) (g5_ : Nat) (o5_ : Nat) (g6_ : Nat) (o6_ : Nat) : List (Nat × ((Nat → Wt) → Value)) := [(2, fun u => .pointer (some ⟨g2_, o2_ + (x5).toNat * 8, none⟩)), (7, fun u => .bool true), (10, fun u => .pointer (some ⟨g3_, o3_ + (x5).toNat * 8, none⟩)), (17, fun u => .bool true), (20, fun u => .pointer (some ⟨g4_, o4_ + (x5).toNat * 8, none⟩)), (27, fun u => .bool true), (30, fun u => .pointer (some ⟨g5_, o5_ + (x5).toNat * 8, none⟩)), (35, fun u => .pointer (some ⟨g6_, o6_ + (x1).toNat * 8, none⟩)), (40, fun u => .bool true)]
noncomputable def u36d1q (a0 : List S32) (Ap0 : Option Addr) (cp0 : Nat) (a1 : Int) (a2 : S24) (a3 : Int) (nx0 : Nat) (x1 : Int) (x4 : Int) (x5 : Int) (g2_ : Nat) (o2_ : Nat) (g3_ : Nat) (o3_ : Nat) (g4_ : Nat) (o4_ : Nat) (g5_ : Nat) (o5_ : Nat) (g6_ : Nat) (o6_ : Nat) (u : Nat → Wt) : Option (List Value × List (Nat × Value) × List (Nat × Nat)) := qSim Try.prog [(⟨g2_, o2_ + (x5).toNat * 8, none⟩, .int .i64 ((a0.getD (x5).toNat z32).f0)), (⟨g3_, o3_ + (x5).toNat * 8 + 2, none⟩, .int .i64 ((a0.getD (x5).toNat z32).f2)), (⟨g4_, o4_ + (x5).toNat * 8 + 3, none⟩, .int .i64 ((a0.getD (x5).toNat z32).f3)), (⟨g5_, o5_ + (x5).toNat * 8 + 4, none⟩, .int .u32 ((a0.getD (x5).toNat z32).f4)), (⟨g6_, o6_ + (x1).toNat * 8 + 4, none⟩, .int .u32 ((a0.getD (x1).toNat z32).f4))] [⟨nx0, [.int .i64 a2.f0, .int .i64 a2.f1], 24⟩] O36_44 ⟨118, []⟩ (Ld.vl u36d1l) (u36d1g x1 x5 g2_ o2_ g3_ o3_ g4_ o4_ g5_ o5_ g6_ o6_) u (.no :: .no :: .no :: .no :: .r 0 :: .no :: .no :: .no :: .no :: .no :: .no :: .no :: .r 1 :: .no :: .l 0 :: .no :: .no :: .no :: .no :: .no :: .no :: .no :: .r 2 :: .no :: .l 0 :: .no :: .no :: .no :: .no :: .no :: .no :: .no :: .r 3 :: .no :: .no :: .no :: .no :: .r 4 :: .no :: .no :: .no :: .no :: .no :: .no :: []) 0 (O36_44.take 44) [(58, .bool (decide (x5 < (a0.length : Int)))), (0, .slice Ap0 a0.length cp0), (1, .int .i64 a1), (3, .int .i64 a3), (6, .pointer (some ⟨nx0, 0, none⟩)), (10, .int .i64 x1), (11, .int .i64 x4), (12, .int .i64 x5)]
noncomputable def u36d1s (a0 : List S32) (Ap0 : Option Addr) (cp0 : Nat) (a1 : Int) (a2 : S24) (a3 : Int) (nx0 : Nat) (x1 : Int) (x5 : Int) (g2_ : Nat) (o2_ : Nat) (g3_ : Nat) (o3_ : Nat) (g4_ : Nat) (o4_ : Nat) (g5_ : Nat) (o5_ : Nat) (g6_ : Nat) (o6_ : Nat) (u : Nat → Wt) : List Value := (.slice Ap0 a0.length cp0 :: .int .i64 x5 :: .pointer (some ⟨g2_, o2_ + (x5).toNat * 8, none⟩) :: .pointer (some ⟨g2_, o2_ + (x5).toNat * 8, none⟩) :: .int .i64 ((a0.getD (x5).toNat z32).f0) :: .int .i64 a3 :: .bool (((a0.getD (x5).toNat z32).f0) == a3) :: .bool true :: .slice Ap0 a0.length cp0 :: .int .i64 x5 :: .pointer (some ⟨g3_, o3_ + (x5).toNat * 8, none⟩) :: .pointer (some ⟨g3_, o3_ + (x5).toNat * 8 + 2, none⟩) :: .int .i64 ((a0.getD (x5).toNat z32).f2) :: .pointer (some ⟨nx0, 0, none⟩) :: .int .i64 a2.f0 :: .bool (((a0.getD (x5).toNat z32).f2) == a2.f0) :: .bool (((a0.getD (x5).toNat z32).f2) == a2.f0) :: .bool true :: .slice Ap0 a0.length cp0 :: .int .i64 x5 :: .pointer (some ⟨g4_, o4_ + (x5).toNat * 8, none⟩) :: .pointer (some ⟨g4_, o4_ + (x5).toNat * 8 + 3, none⟩) :: .int .i64 ((a0.getD (x5).toNat z32).f3) :: .pointer (some ⟨nx0, 1, none⟩) :: .int .i64 a2.f1 :: .bool (((a0.getD (x5).toNat z32).f3) == a2.f1) :: .bool (((a0.getD (x5).toNat z32).f3) == a2.f1) :: .bool true :: .slice Ap0 a0.length cp0 :: .int .i64 x5 :: .pointer (some ⟨g5_, o5_ + (x5).toNat * 8, none⟩) :: .pointer (some ⟨g5_, o5_ + (x5).toNat * 8 + 4, none⟩) :: .int .u32 ((a0.getD (x5).toNat z32).f4) :: .slice Ap0 a0.length cp0 :: .int .i64 x1 :: .pointer (some ⟨g6_, o6_ + (x1).toNat * 8, none⟩) :: .pointer (some ⟨g6_, o6_ + (x1).toNat * 8 + 4, none⟩) :: .int .u32 ((a0.getD (x1).toNat z32).f4) :: .bool (((a0.getD (x5).toNat z32).f4) == ((a0.getD (x1).toNat z32).f4)) :: .bool (((a0.getD (x5).toNat z32).f4) == ((a0.getD (x1).toNat z32).f4)) :: .bool true :: .slice Ap0 a0.length cp0 :: .int .i64 a1 :: .int .i64 x5 :: [])
noncomputable def u36d1f (a0 : List S32) (Ap0 : Option Addr) (cp0 : Nat) (a1 : Int) (a2 : S24) (a3 : Int) (nx0 : Nat) (x1 : Int) (x4 : Int) (x5 : Int) (g2_ : Nat) (o2_ : Nat) (g3_ : Nat) (o3_ : Nat) (g4_ : Nat) (o4_ : Nat) (g5_ : Nat) (o5_ : Nat) (g6_ : Nat) (o6_ : Nat) (i : Nat) (u : Nat → Wt) : List (Nat × Value) := foldPut ⟨118, []⟩ [(58, .bool (decide (x5 < (a0.length : Int)))), (0, .slice Ap0 a0.length cp0), (1, .int .i64 a1), (3, .int .i64 a3), (6, .pointer (some ⟨nx0, 0, none⟩)), (10, .int .i64 x1), (11, .int .i64 x4), (12, .int .i64 x5)] (O36_44.take i) (((u36d1s a0 Ap0 cp0 a1 a2 a3 nx0 x1 x5 g2_ o2_ g3_ o3_ g4_ o4_ g5_ o5_ g6_ o6_) u).take i)
theorem u36d1v (a0 : List S32) (Ap0 : Option Addr) (cp0 : Nat) (a1 : Int) (a2 : S24) (a3 : Int) (nx0 : Nat) (x1 : Int) (x4 : Int) (x5 : Int) (g2_ : Nat) (o2_ : Nat) (g3_ : Nat) (o3_ : Nat) (g4_ : Nat) (o4_ : Nat) (g5_ : Nat) (o5_ : Nat) (g6_ : Nat) (o6_ : Nat) (u : Nat → Wt) : (u36d1q a0 Ap0 cp0 a1 a2 a3 nx0 x1 x4 x5 g2_ o2_ g3_ o3_ g4_ o4_ g5_ o5_ g6_ o6_ u).map (fun x => (x.1, x.2.1)) = some ((u36d1s a0 Ap0 cp0 a1 a2 a3 nx0 x1 x5 g2_ o2_ g3_ o3_ g4_ o4_ g5_ o5_ g6_ o6_) u, (u36d1f a0 Ap0 cp0 a1 a2 a3 nx0 x1 x4 x5 g2_ o2_ g3_ o3_ g4_ o4_ g5_ o5_ g6_ o6_ 44) u) := by kernel_rfl
theorem u36d1e (a0 : List S32) (Ap0 : Option Addr) (cp0 : Nat) (a1 : Int) (a2 : S24) (a3 : Int) (nx0 : Nat) (x1 : Int) (x4 : Int) (x5 : Int) (g2_ : Nat) (o2_ : Nat) (g3_ : Nat) (o3_ : Nat) (g4_ : Nat) (o4_ : Nat) (g5_ : Nat) (o5_ : Nat) (g6_ : Nat) (o6_ : Nat) (u : Nat → Wt) : (u36d1q a0 Ap0 cp0 a1 a2 a3 nx0 x1 x4 x5 g2_ o2_ g3_ o3_ g4_ o4_ g5_ o5_ g6_ o6_ u).map (fun x => x.2.2.map (·.1)) = (u36d1q a0 Ap0 cp0 a1 a2 a3 nx0 x1 x4 x5 g2_ o2_ g3_ o3_ g4_ o4_ g5_ o5_ g6_ o6_ u).map (fun x => x.2.2.map (·.2)) := by kernel_rfl
noncomputable def u36d2l  : List Ld :=
 []
noncomputable def u36d2g (x1 : Int) (x5 : Int) (g2_ : Nat) (o2_ : Nat) (g3_ : Nat) (o3_ : Nat) (g4_ : Nat) (o4_ : Nat) (g5_ : Nat) (o5_ : Nat) (g6_ : Nat) (o6_ : Nat) : List (Nat × ((Nat → Wt) → Value)) := [(2, fun u => .pointer (some ⟨g2_, o2_ + (x5).toNat * 8, none⟩)), (7, fun u => .bool true), (10, fun u => .pointer (some ⟨g3_, o3_ + (x5).toNat * 8, none⟩)), (17, fun u => .bool true), (20, fun u => .pointer (some ⟨g4_, o4_ + (x5).toNat * 8, none⟩)), (27, fun u => .bool true), (30, fun u => .pointer (some ⟨g5_, o5_ + (x5).toNat * 8, none⟩)), (35, fun u => .pointer (some ⟨g6_, o6_ + (x1).toNat * 8, none⟩)), (40, fun u => .bool false)]
noncomputable def u36d2q (a0 : List S32) (Ap0 : Option Addr) (cp0 : Nat) (a1 : Int) (a2 : S24) (a3 : Int) (nx0 : Nat) (x1 : Int) (x4 : Int) (x5 : Int) (g2_ : Nat) (o2_ : Nat) (g3_ : Nat) (o3_ : Nat) (g4_ : Nat) (o4_ : Nat) (g5_ : Nat) (o5_ : Nat) (g6_ : Nat) (o6_ : Nat) (u : Nat → Wt) : Option (List Value × List (Nat × Value) × List (Nat × Nat)) := qSim Try.prog [(⟨g2_, o2_ + (x5).toNat * 8, none⟩, .int .i64 ((a0.getD (x5).toNat z32).f0)), (⟨g3_, o3_ + (x5).toNat * 8 + 2, none⟩, .int .i64 ((a0.getD (x5).toNat z32).f2)), (⟨g4_, o4_ + (x5).toNat * 8 + 3, none⟩, .int .i64 ((a0.getD (x5).toNat z32).f3)), (⟨g5_, o5_ + (x5).toNat * 8 + 4, none⟩, .int .u32 ((a0.getD (x5).toNat z32).f4)), (⟨g6_, o6_ + (x1).toNat * 8 + 4, none⟩, .int .u32 ((a0.getD (x1).toNat z32).f4))] [⟨nx0, [.int .i64 a2.f0, .int .i64 a2.f1], 24⟩] O36_44 ⟨118, []⟩ (Ld.vl u36d2l) (u36d2g x1 x5 g2_ o2_ g3_ o3_ g4_ o4_ g5_ o5_ g6_ o6_) u (.no :: .no :: .no :: .no :: .r 0 :: .no :: .no :: .no :: .no :: .no :: .no :: .no :: .r 1 :: .no :: .l 0 :: .no :: .no :: .no :: .no :: .no :: .no :: .no :: .r 2 :: .no :: .l 0 :: .no :: .no :: .no :: .no :: .no :: .no :: .no :: .r 3 :: .no :: .no :: .no :: .no :: .r 4 :: .no :: .no :: .no :: .no :: .no :: .no :: []) 0 (O36_44.take 44) [(58, .bool (decide (x5 < (a0.length : Int)))), (0, .slice Ap0 a0.length cp0), (1, .int .i64 a1), (3, .int .i64 a3), (6, .pointer (some ⟨nx0, 0, none⟩)), (10, .int .i64 x1), (11, .int .i64 x4), (12, .int .i64 x5)]
noncomputable def u36d2s (a0 : List S32) (Ap0 : Option Addr) (cp0 : Nat) (a2 : S24) (a3 : Int) (nx0 : Nat) (x1 : Int) (x5 : Int) (g2_ : Nat) (o2_ : Nat) (g3_ : Nat) (o3_ : Nat) (g4_ : Nat) (o4_ : Nat) (g5_ : Nat) (o5_ : Nat) (g6_ : Nat) (o6_ : Nat) (u : Nat → Wt) : List Value := (.slice Ap0 a0.length cp0 :: .int .i64 x5 :: .pointer (some ⟨g2_, o2_ + (x5).toNat * 8, none⟩) :: .pointer (some ⟨g2_, o2_ + (x5).toNat * 8, none⟩) :: .int .i64 ((a0.getD (x5).toNat z32).f0) :: .int .i64 a3 :: .bool (((a0.getD (x5).toNat z32).f0) == a3) :: .bool true :: .slice Ap0 a0.length cp0 :: .int .i64 x5 :: .pointer (some ⟨g3_, o3_ + (x5).toNat * 8, none⟩) :: .pointer (some ⟨g3_, o3_ + (x5).toNat * 8 + 2, none⟩) :: .int .i64 ((a0.getD (x5).toNat z32).f2) :: .pointer (some ⟨nx0, 0, none⟩) :: .int .i64 a2.f0 :: .bool (((a0.getD (x5).toNat z32).f2) == a2.f0) :: .bool (((a0.getD (x5).toNat z32).f2) == a2.f0) :: .bool true :: .slice Ap0 a0.length cp0 :: .int .i64 x5 :: .pointer (some ⟨g4_, o4_ + (x5).toNat * 8, none⟩) :: .pointer (some ⟨g4_, o4_ + (x5).toNat * 8 + 3, none⟩) :: .int .i64 ((a0.getD (x5).toNat z32).f3) :: .pointer (some ⟨nx0, 1, none⟩) :: .int .i64 a2.f1 :: .bool (((a0.getD (x5).toNat z32).f3) == a2.f1) :: .bool (((a0.getD (x5).toNat z32).f3) == a2.f1) :: .bool true :: .slice Ap0 a0.length cp0 :: .int .i64 x5 :: .pointer (some ⟨g5_, o5_ + (x5).toNat * 8, none⟩) :: .pointer (some ⟨g5_, o5_ + (x5).toNat * 8 + 4, none⟩) :: .int .u32 ((a0.getD (x5).toNat z32).f4) :: .slice Ap0 a0.length cp0 :: .int .i64 x1 :: .pointer (some ⟨g6_, o6_ + (x1).toNat * 8, none⟩) :: .pointer (some ⟨g6_, o6_ + (x1).toNat * 8 + 4, none⟩) :: .int .u32 ((a0.getD (x1).toNat z32).f4) :: .bool (((a0.getD (x5).toNat z32).f4) == ((a0.getD (x1).toNat z32).f4)) :: .bool (((a0.getD (x5).toNat z32).f4) == ((a0.getD (x1).toNat z32).f4)) :: .bool false :: undef :: undef :: undef :: [])
noncomputable def u36d2f (a0 : List S32) (Ap0 : Option Addr) (cp0 : Nat) (a1 : Int) (a2 : S24) (a3 : Int) (nx0 : Nat) (x1 : Int) (x4 : Int) (x5 : Int) (g2_ : Nat) (o2_ : Nat) (g3_ : Nat) (o3_ : Nat) (g4_ : Nat) (o4_ : Nat) (g5_ : Nat) (o5_ : Nat) (g6_ : Nat) (o6_ : Nat) (i : Nat) (u : Nat → Wt) : List (Nat × Value) := foldPut ⟨118, []⟩ [(58, .bool (decide (x5 < (a0.length : Int)))), (0, .slice Ap0 a0.length cp0), (1, .int .i64 a1), (3, .int .i64 a3), (6, .pointer (some ⟨nx0, 0, none⟩)), (10, .int .i64 x1), (11, .int .i64 x4), (12, .int .i64 x5)] (O36_44.take i) (((u36d2s a0 Ap0 cp0 a2 a3 nx0 x1 x5 g2_ o2_ g3_ o3_ g4_ o4_ g5_ o5_ g6_ o6_) u).take i)
theorem u36d2v (a0 : List S32) (Ap0 : Option Addr) (cp0 : Nat) (a1 : Int) (a2 : S24) (a3 : Int) (nx0 : Nat) (x1 : Int) (x4 : Int) (x5 : Int) (g2_ : Nat) (o2_ : Nat) (g3_ : Nat) (o3_ : Nat) (g4_ : Nat) (o4_ : Nat) (g5_ : Nat) (o5_ : Nat) (g6_ : Nat) (o6_ : Nat) (u : Nat → Wt) : (u36d2q a0 Ap0 cp0 a1 a2 a3 nx0 x1 x4 x5 g2_ o2_ g3_ o3_ g4_ o4_ g5_ o5_ g6_ o6_ u).map (fun x => (x.1, x.2.1)) = some ((u36d2s a0 Ap0 cp0 a2 a3 nx0 x1 x5 g2_ o2_ g3_ o3_ g4_ o4_ g5_ o5_ g6_ o6_) u, (u36d2f a0 Ap0 cp0 a1 a2 a3 nx0 x1 x4 x5 g2_ o2_ g3_ o3_ g4_ o4_ g5_ o5_ g6_ o6_ 44) u) := by kernel_rfl
theorem u36d2e (a0 : List S32) (Ap0 : Option Addr) (cp0 : Nat) (a1 : Int) (a2 : S24) (a3 : Int) (nx0 : Nat) (x1 : Int) (x4 : Int) (x5 : Int) (g2_ : Nat) (o2_ : Nat) (g3_ : Nat) (o3_ : Nat) (g4_ : Nat) (o4_ : Nat) (g5_ : Nat) (o5_ : Nat) (g6_ : Nat) (o6_ : Nat) (u : Nat → Wt) : (u36d2q a0 Ap0 cp0 a1 a2 a3 nx0 x1 x4 x5 g2_ o2_ g3_ o3_ g4_ o4_ g5_ o5_ g6_ o6_ u).map (fun x => x.2.2.map (·.1)) = (u36d2q a0 Ap0 cp0 a1 a2 a3 nx0 x1 x4 x5 g2_ o2_ g3_ o3_ g4_ o4_ g5_ o5_ g6_ o6_ u).map (fun x => x.2.2.map (·.2)) := by kernel_rfl
noncomputable def u36d3l  : List Ld :=
 []
noncomputable def u36d3g (x5 : Int) (g2_ : Nat) (o2_ : Nat) (g3_ : Nat) (o3_ : Nat) (g4_ : Nat) (o4_ : Nat) : List (Nat × ((Nat → Wt) → Value)) := [(2, fun u => .pointer (some ⟨g2_, o2_ + (x5).toNat * 8, none⟩)), (7, fun u => .bool true), (10, fun u => .pointer (some ⟨g3_, o3_ + (x5).toNat * 8, none⟩)), (17, fun u => .bool true), (20, fun u => .pointer (some ⟨g4_, o4_ + (x5).toNat * 8, none⟩)), (27, fun u => .bool false)]
noncomputable def u36d3q (a0 : List S32) (Ap0 : Option Addr) (cp0 : Nat) (a1 : Int) (a2 : S24) (a3 : Int) (nx0 : Nat) (x1 : Int) (x4 : Int) (x5 : Int) (g2_ : Nat) (o2_ : Nat) (g3_ : Nat) (o3_ : Nat) (g4_ : Nat) (o4_ : Nat) (u : Nat → Wt) : Option (List Value × List (Nat × Value) × List (Nat × Nat)) := qSim Try.prog [(⟨g2_, o2_ + (x5).toNat * 8, none⟩, .int .i64 ((a0.getD (x5).toNat z32).f0)), (⟨g3_, o3_ + (x5).toNat * 8 + 2, none⟩, .int .i64 ((a0.getD (x5).toNat z32).f2)), (⟨g4_, o4_ + (x5).toNat * 8 + 3, none⟩, .int .i64 ((a0.getD (x5).toNat z32).f3))] [⟨nx0, [.int .i64 a2.f0, .int .i64 a2.f1], 24⟩] O36_44 ⟨118, []⟩ (Ld.vl u36d3l) (u36d3g x5 g2_ o2_ g3_ o3_ g4_ o4_) u (.no :: .no :: .no :: .no :: .r 0 :: .no :: .no :: .no :: .no :: .no :: .no :: .no :: .r 1 :: .no :: .l 0 :: .no :: .no :: .no :: .no :: .no :: .no :: .no :: .r 2 :: .no :: .l 0 :: .no :: .no :: .no :: .no :: .no :: .no :: .no :: .no :: .no :: .no :: .no :: .no :: .no :: .no :: .no :: .no :: .no :: .no :: .no :: []) 0 (O36_44.take 44) [(58, .bool (decide (x5 < (a0.length : Int)))), (0, .slice Ap0 a0.length cp0), (1, .int .i64 a1), (3, .int .i64 a3), (6, .pointer (some ⟨nx0, 0, none⟩)), (10, .int .i64 x1), (11, .int .i64 x4), (12, .int .i64 x5)]
noncomputable def u36d3s (a0 : List S32) (Ap0 : Option Addr) (cp0 : Nat) (a2 : S24) (a3 : Int) (nx0 : Nat) (x5 : Int) (g2_ : Nat) (o2_ : Nat) (g3_ : Nat) (o3_ : Nat) (g4_ : Nat) (o4_ : Nat) (u : Nat → Wt) : List Value := (.slice Ap0 a0.length cp0 :: .int .i64 x5 :: .pointer (some ⟨g2_, o2_ + (x5).toNat * 8, none⟩) :: .pointer (some ⟨g2_, o2_ + (x5).toNat * 8, none⟩) :: .int .i64 ((a0.getD (x5).toNat z32).f0) :: .int .i64 a3 :: .bool (((a0.getD (x5).toNat z32).f0) == a3) :: .bool true :: .slice Ap0 a0.length cp0 :: .int .i64 x5 :: .pointer (some ⟨g3_, o3_ + (x5).toNat * 8, none⟩) :: .pointer (some ⟨g3_, o3_ + (x5).toNat * 8 + 2, none⟩) :: .int .i64 ((a0.getD (x5).toNat z32).f2) :: .pointer (some ⟨nx0, 0, none⟩) :: .int .i64 a2.f0 :: .bool (((a0.getD (x5).toNat z32).f2) == a2.f0) :: .bool (((a0.getD (x5).toNat z32).f2) == a2.f0) :: .bool true :: .slice Ap0 a0.length cp0 :: .int .i64 x5 :: .pointer (some ⟨g4_, o4_ + (x5).toNat * 8, none⟩) :: .pointer (some ⟨g4_, o4_ + (x5).toNat * 8 + 3, none⟩) :: .int .i64 ((a0.getD (x5).toNat z32).f3) :: .pointer (some ⟨nx0, 1, none⟩) :: .int .i64 a2.f1 :: .bool (((a0.getD (x5).toNat z32).f3) == a2.f1) :: .bool (((a0.getD (x5).toNat z32).f3) == a2.f1) :: .bool false :: undef :: undef :: undef :: undef :: undef :: undef :: undef :: undef :: undef :: undef :: undef :: .bool false :: .bool false :: undef :: undef :: undef :: [])
noncomputable def u36d3f (a0 : List S32) (Ap0 : Option Addr) (cp0 : Nat) (a1 : Int) (a2 : S24) (a3 : Int) (nx0 : Nat) (x1 : Int) (x4 : Int) (x5 : Int) (g2_ : Nat) (o2_ : Nat) (g3_ : Nat) (o3_ : Nat) (g4_ : Nat) (o4_ : Nat) (i : Nat) (u : Nat → Wt) : List (Nat × Value) := foldPut ⟨118, []⟩ [(58, .bool (decide (x5 < (a0.length : Int)))), (0, .slice Ap0 a0.length cp0), (1, .int .i64 a1), (3, .int .i64 a3), (6, .pointer (some ⟨nx0, 0, none⟩)), (10, .int .i64 x1), (11, .int .i64 x4), (12, .int .i64 x5)] (O36_44.take i) (((u36d3s a0 Ap0 cp0 a2 a3 nx0 x5 g2_ o2_ g3_ o3_ g4_ o4_) u).take i)
theorem u36d3v (a0 : List S32) (Ap0 : Option Addr) (cp0 : Nat) (a1 : Int) (a2 : S24) (a3 : Int) (nx0 : Nat) (x1 : Int) (x4 : Int) (x5 : Int) (g2_ : Nat) (o2_ : Nat) (g3_ : Nat) (o3_ : Nat) (g4_ : Nat) (o4_ : Nat) (u : Nat → Wt) : (u36d3q a0 Ap0 cp0 a1 a2 a3 nx0 x1 x4 x5 g2_ o2_ g3_ o3_ g4_ o4_ u).map (fun x => (x.1, x.2.1)) = some ((u36d3s a0 Ap0 cp0 a2 a3 nx0 x5 g2_ o2_ g3_ o3_ g4_ o4_) u, (u36d3f a0 Ap0 cp0 a1 a2 a3 nx0 x1 x4 x5 g2_ o2_ g3_ o3_ g4_ o4_ 44) u) := by kernel_rfl
theorem u36d3e (a0 : List S32) (Ap0 : Option Addr) (cp0 : Nat) (a1 : Int) (a2 : S24) (a3 : Int) (nx0 : Nat) (x1 : Int) (x4 : Int) (x5 : Int) (g2_ : Nat) (o2_ : Nat) (g3_ : Nat) (o3_ : Nat) (g4_ : Nat) (o4_ : Nat) (u : Nat → Wt) : (u36d3q a0 Ap0 cp0 a1 a2 a3 nx0 x1 x4 x5 g2_ o2_ g3_ o3_ g4_ o4_ u).map (fun x => x.2.2.map (·.1)) = (u36d3q a0 Ap0 cp0 a1 a2 a3 nx0 x1 x4 x5 g2_ o2_ g3_ o3_ g4_ o4_ u).map (fun x => x.2.2.map (·.2)) := by kernel_rfl
noncomputable def u36d4l  : List Ld :=
 []
noncomputable def u36d4g (x5 : Int) (g2_ : Nat) (o2_ : Nat) (g3_ : Nat) (o3_ : Nat) : List (Nat × ((Nat → Wt) → Value)) := [(2, fun u => .pointer (some ⟨g2_, o2_ + (x5).toNat * 8, none⟩)), (7, fun u => .bool true), (10, fun u => .pointer (some ⟨g3_, o3_ + (x5).toNat * 8, none⟩)), (17, fun u => .bool false)]
noncomputable def u36d4q (a0 : List S32) (Ap0 : Option Addr) (cp0 : Nat) (a1 : Int) (a2 : S24) (a3 : Int) (nx0 : Nat) (x1 : Int) (x4 : Int) (x5 : Int) (g2_ : Nat) (o2_ : Nat) (g3_ : Nat) (o3_ : Nat) (u : Nat → Wt) : Option (List Value × List (Nat × Value) × List (Nat × Nat)) := qSim Try.prog [(⟨g2_, o2_ + (x5).toNat * 8, none⟩, .int .i64 ((a0.getD (x5).toNat z32).f0)), (⟨g3_, o3_ + (x5).toNat * 8 + 2, none⟩, .int .i64 ((a0.getD (x5).toNat z32).f2))] [⟨nx0, [.int .i64 a2.f0, .int .i64 a2.f1], 24⟩] O36_44 ⟨118, []⟩ (Ld.vl u36d4l) (u36d4g x5 g2_ o2_ g3_ o3_) u (.no :: .no :: .no :: .no :: .r 0 :: .no :: .no :: .no :: .no :: .no :: .no :: .no :: .r 1 :: .no :: .l 0 :: .no :: .no :: .no :: .no :: .no :: .no :: .no :: .no :: .no :: .no :: .no :: .no :: .no :: .no :: .no :: .no :: .no :: .no :: .no :: .no :: .no :: .no :: .no :: .no :: .no :: .no :: .no :: .no :: .no :: []) 0 (O36_44.take 44) [(58, .bool (decide (x5 < (a0.length : Int)))), (0, .slice Ap0 a0.length cp0), (1, .int .i64 a1), (3, .int .i64 a3), (6, .pointer (some ⟨nx0, 0, none⟩)), (10, .int .i64 x1), (11, .int .i64 x4), (12, .int .i64 x5)]
noncomputable def u36d4s (a0 : List S32) (Ap0 : Option Addr) (cp0 : Nat) (a2 : S24) (a3 : Int) (nx0 : Nat) (x5 : Int) (g2_ : Nat) (o2_ : Nat) (g3_ : Nat) (o3_ : Nat) (u : Nat → Wt) : List Value := (.slice Ap0 a0.length cp0 :: .int .i64 x5 :: .pointer (some ⟨g2_, o2_ + (x5).toNat * 8, none⟩) :: .pointer (some ⟨g2_, o2_ + (x5).toNat * 8, none⟩) :: .int .i64 ((a0.getD (x5).toNat z32).f0) :: .int .i64 a3 :: .bool (((a0.getD (x5).toNat z32).f0) == a3) :: .bool true :: .slice Ap0 a0.length cp0 :: .int .i64 x5 :: .pointer (some ⟨g3_, o3_ + (x5).toNat * 8, none⟩) :: .pointer (some ⟨g3_, o3_ + (x5).toNat * 8 + 2, none⟩) :: .int .i64 ((a0.getD (x5).toNat z32).f2) :: .pointer (some ⟨nx0, 0, none⟩) :: .int .i64 a2.f0 :: .bool (((a0.getD (x5).toNat z32).f2) == a2.f0) :: .bool (((a0.getD (x5).toNat z32).f2) == a2.f0) :: .bool false :: undef :: undef :: undef :: undef :: undef :: undef :: undef :: undef :: .bool false :: .bool false :: undef :: undef :: undef :: undef :: undef :: undef :: undef :: undef :: undef :: undef :: undef :: .bool false :: .bool false :: undef :: undef :: undef :: [])
noncomputable def u36d4f (a0 : List S32) (Ap0 : Option Addr) (cp0 : Nat) (a1 : Int) (a2 : S24) (a3 : Int) (nx0 : Nat) (x1 : Int) (x4 : Int) (x5 : Int) (g2_ : Nat) (o2_ : Nat) (g3_ : Nat) (o3_ : Nat) (i : Nat) (u : Nat → Wt) : List (Nat × Value) := foldPut ⟨118, []⟩ [(58, .bool (decide (x5 < (a0.length : Int)))), (0, .slice Ap0 a0.length cp0), (1, .int .i64 a1), (3, .int .i64 a3), (6, .pointer (some ⟨nx0, 0, none⟩)), (10, .int .i64 x1), (11, .int .i64 x4), (12, .int .i64 x5)] (O36_44.take i) (((u36d4s a0 Ap0 cp0 a2 a3 nx0 x5 g2_ o2_ g3_ o3_) u).take i)
theorem u36d4v (a0 : List S32) (Ap0 : Option Addr) (cp0 : Nat) (a1 : Int) (a2 : S24) (a3 : Int) (nx0 : Nat) (x1 : Int) (x4 : Int) (x5 : Int) (g2_ : Nat) (o2_ : Nat) (g3_ : Nat) (o3_ : Nat) (u : Nat → Wt) : (u36d4q a0 Ap0 cp0 a1 a2 a3 nx0 x1 x4 x5 g2_ o2_ g3_ o3_ u).map (fun x => (x.1, x.2.1)) = some ((u36d4s a0 Ap0 cp0 a2 a3 nx0 x5 g2_ o2_ g3_ o3_) u, (u36d4f a0 Ap0 cp0 a1 a2 a3 nx0 x1 x4 x5 g2_ o2_ g3_ o3_ 44) u) := by kernel_rfl
theorem u36d4e (a0 : List S32) (Ap0 : Option Addr) (cp0 : Nat) (a1 : Int) (a2 : S24) (a3 : Int) (nx0 : Nat) (x1 : Int) (x4 : Int) (x5 : Int) (g2_ : Nat) (o2_ : Nat) (g3_ : Nat) (o3_ : Nat) (u : Nat → Wt) : (u36d4q a0 Ap0 cp0 a1 a2 a3 nx0 x1 x4 x5 g2_ o2_ g3_ o3_ u).map (fun x => x.2.2.map (·.1)) = (u36d4q a0 Ap0 cp0 a1 a2 a3 nx0 x1 x4 x5 g2_ o2_ g3_ o3_ u).map (fun x => x.2.2.map (·.2)) := by kernel_rfl
noncomputable def u36d5l  : List Ld :=
 []
noncomputable def u36d5g (x5 : Int) (g2_ : Nat) (o2_ : Nat) : List (Nat × ((Nat → Wt) → Value)) := [(2, fun u => .pointer (some ⟨g2_, o2_ + (x5).toNat * 8, none⟩)), (7, fun u => .bool false)]
noncomputable def u36d5q (a0 : List S32) (Ap0 : Option Addr) (cp0 : Nat) (a1 : Int) (a2 : S24) (a3 : Int) (nx0 : Nat) (x1 : Int) (x4 : Int) (x5 : Int) (g2_ : Nat) (o2_ : Nat) (u : Nat → Wt) : Option (List Value × List (Nat × Value) × List (Nat × Nat)) := qSim Try.prog [(⟨g2_, o2_ + (x5).toNat * 8, none⟩, .int .i64 ((a0.getD (x5).toNat z32).f0))] [⟨nx0, [.int .i64 a2.f0, .int .i64 a2.f1], 24⟩] O36_44 ⟨118, []⟩ (Ld.vl u36d5l) (u36d5g x5 g2_ o2_) u (.no :: .no :: .no :: .no :: .r 0 :: .no :: .no :: .no :: .no :: .no :: .no :: .no :: .no :: .no :: .no :: .no :: .no :: .no :: .no :: .no :: .no :: .no :: .no :: .no :: .no :: .no :: .no :: .no :: .no :: .no :: .no :: .no :: .no :: .no :: .no :: .no :: .no :: .no :: .no :: .no :: .no :: .no :: .no :: .no :: []) 0 (O36_44.take 44) [(58, .bool (decide (x5 < (a0.length : Int)))), (0, .slice Ap0 a0.length cp0), (1, .int .i64 a1), (3, .int .i64 a3), (6, .pointer (some ⟨nx0, 0, none⟩)), (10, .int .i64 x1), (11, .int .i64 x4), (12, .int .i64 x5)]
noncomputable def u36d5s (a0 : List S32) (Ap0 : Option Addr) (cp0 : Nat) (a3 : Int) (x5 : Int) (g2_ : Nat) (o2_ : Nat) (u : Nat → Wt) : List Value := (.slice Ap0 a0.length cp0 :: .int .i64 x5 :: .pointer (some ⟨g2_, o2_ + (x5).toNat * 8, none⟩) :: .pointer (some ⟨g2_, o2_ + (x5).toNat * 8, none⟩) :: .int .i64 ((a0.getD (x5).toNat z32).f0) :: .int .i64 a3 :: .bool (((a0.getD (x5).toNat z32).f0) == a3) :: .bool false :: undef :: undef :: undef :: undef :: undef :: undef :: undef :: undef :: .bool false :: .bool false :: undef :: undef :: undef :: undef :: undef :: undef :: undef :: undef :: .bool false :: .bool false :: undef :: undef :: undef :: undef :: undef :: undef :: undef :: undef :: undef :: undef :: undef :: .bool false :: .bool false :: undef :: undef :: undef :: [])
noncomputable def u36d5f (a0 : List S32) (Ap0 : Option Addr) (cp0 : Nat) (a1 : Int) (a3 : Int) (nx0 : Nat) (x1 : Int) (x4 : Int) (x5 : Int) (g2_ : Nat) (o2_ : Nat) (i : Nat) (u : Nat → Wt) : List (Nat × Value) := foldPut ⟨118, []⟩ [(58, .bool (decide (x5 < (a0.length : Int)))), (0, .slice Ap0 a0.length cp0), (1, .int .i64 a1), (3, .int .i64 a3), (6, .pointer (some ⟨nx0, 0, none⟩)), (10, .int .i64 x1), (11, .int .i64 x4), (12, .int .i64 x5)] (O36_44.take i) (((u36d5s a0 Ap0 cp0 a3 x5 g2_ o2_) u).take i)
theorem u36d5v (a0 : List S32) (Ap0 : Option Addr) (cp0 : Nat) (a1 : Int) (a2 : S24) (a3 : Int) (nx0 : Nat) (x1 : Int) (x4 : Int) (x5 : Int) (g2_ : Nat) (o2_ : Nat) (u : Nat → Wt) : (u36d5q a0 Ap0 cp0 a1 a2 a3 nx0 x1 x4 x5 g2_ o2_ u).map (fun x => (x.1, x.2.1)) = some ((u36d5s a0 Ap0 cp0 a3 x5 g2_ o2_) u, (u36d5f a0 Ap0 cp0 a1 a3 nx0 x1 x4 x5 g2_ o2_ 44) u) := by kernel_rfl
theorem u36d5e (a0 : List S32) (Ap0 : Option Addr) (cp0 : Nat) (a1 : Int) (a2 : S24) (a3 : Int) (nx0 : Nat) (x1 : Int) (x4 : Int) (x5 : Int) (g2_ : Nat) (o2_ : Nat) (u : Nat → Wt) : (u36d5q a0 Ap0 cp0 a1 a2 a3 nx0 x1 x4 x5 g2_ o2_ u).map (fun x => x.2.2.map (·.1)) = (u36d5q a0 Ap0 cp0 a1 a2 a3 nx0 x1 x4 x5 g2_ o2_ u).map (fun x => x.2.2.map (·.2)) := by kernel_rfl
noncomputable def a36_20n : List Nat := (0 :: 0 :: 3 :: 7 :: 15 :: 0 :: 63 :: 127 :: 255 :: 255 :: 1023 :: 2047 :: 4095 :: 255 :: 8447 :: 32767 :: 65535 :: 131071 :: 262143 :: 262143 :: 1048575 :: 2097151 :: 4194303 :: 262143 :: 8650751 :: 33554431 :: 67108863 :: 134217727 :: 268435455 :: 268435455 :: 1073741823 :: 2147483647 :: 268435455 :: 8589934591 :: 17179869183 :: 34359738367 :: [])
theorem a36_20 : ancs O36_20 [] = a36_20n := by kernel_rfl
theorem a36_20o : drawOk O36_20 a36_20n 33 = true := by kernel_rfl
noncomputable def u36d6l  : List Ld :=
 []
noncomputable def u36d6g (x1 : Int) (g7_ : Nat) (o7_ : Nat) : List (Nat × ((Nat → Wt) → Value)) := [(2, fun u => .pointer (some ⟨g7_, o7_ + (x1).toNat * 8, none⟩)), (7, fun u => .bool true)]
noncomputable def u36d6q (a0 : List S32) (Ap0 : Option Addr) (cp0 : Nat) (a1 : Int) (a2 : S24) (a3 : Int) (nx0 : Nat) (x1 : Int) (g7_ : Nat) (o7_ : Nat) (u : Nat → Wt) : Option (List Value × List (Nat × Value) × List (Nat × Nat)) := qSim Try.prog [(⟨g7_, o7_ + (x1).toNat * 8, none⟩, .int .i64 ((a0.getD (x1).toNat z32).f0))] [⟨nx0, [.int .i64 a2.f0, .int .i64 a2.f1], 24⟩] O36_20 ⟨118, []⟩ (Ld.vl u36d6l) (u36d6g x1 g7_ o7_) u (.no :: .no :: .no :: .no :: .r 0 :: .no :: .no :: .no :: .no :: .no :: .no :: .no :: .no :: .no :: .no :: .no :: .no :: .no :: .no :: .no :: .no :: .no :: .no :: .no :: .no :: .no :: .no :: .no :: .no :: .no :: .no :: .no :: .no :: []) 0 (O36_20.take 33) [(16, .bool (decide (x1 < (a0.length : Int)))), (0, .slice Ap0 a0.length cp0), (1, .int .i64 a1), (3, .int .i64 a3), (6, .pointer (some ⟨nx0, 0, none⟩)), (10, .int .i64 x1)]
noncomputable def u36d6s (a0 : List S32) (Ap0 : Option Addr) (cp0 : Nat) (a3 : Int) (x1 : Int) (g7_ : Nat) (o7_ : Nat) (u : Nat → Wt) : List Value := (.slice Ap0 a0.length cp0 :: .int .i64 x1 :: .pointer (some ⟨g7_, o7_ + (x1).toNat * 8, none⟩) :: .pointer (some ⟨g7_, o7_ + (x1).toNat * 8, none⟩) :: .int .i64 ((a0.getD (x1).toNat z32).f0) :: .int .i64 a3 :: .bool (((a0.getD (x1).toNat z32).f0) != a3) :: .bool true :: undef :: undef :: undef :: undef :: undef :: undef :: undef :: undef :: .bool true :: .bool true :: undef :: undef :: undef :: undef :: undef :: undef :: undef :: undef :: .bool true :: .bool true :: undef :: undef :: undef :: undef :: undef :: [])
noncomputable def u36d6f (a0 : List S32) (Ap0 : Option Addr) (cp0 : Nat) (a1 : Int) (a3 : Int) (nx0 : Nat) (x1 : Int) (g7_ : Nat) (o7_ : Nat) (i : Nat) (u : Nat → Wt) : List (Nat × Value) := foldPut ⟨118, []⟩ [(16, .bool (decide (x1 < (a0.length : Int)))), (0, .slice Ap0 a0.length cp0), (1, .int .i64 a1), (3, .int .i64 a3), (6, .pointer (some ⟨nx0, 0, none⟩)), (10, .int .i64 x1)] (O36_20.take i) (((u36d6s a0 Ap0 cp0 a3 x1 g7_ o7_) u).take i)
theorem u36d6v (a0 : List S32) (Ap0 : Option Addr) (cp0 : Nat) (a1 : Int) (a2 : S24) (a3 : Int) (nx0 : Nat) (x1 : Int) (g7_ : Nat) (o7_ : Nat) (u : Nat → Wt) : (u36d6q a0 Ap0 cp0 a1 a2 a3 nx0 x1 g7_ o7_ u).map (fun x => (x.1, x.2.1)) = some ((u36d6s a0 Ap0 cp0 a3 x1 g7_ o7_) u, (u36d6f a0 Ap0 cp0 a1 a3 nx0 x1 g7_ o7_ 33) u) := by kernel_rfl
theorem u36d6e (a0 : List S32) (Ap0 : Option Addr) (cp0 : Nat) (a1 : Int) (a2 : S24) (a3 : Int) (nx0 : Nat) (x1 : Int) (g7_ : Nat) (o7_ : Nat) (u : Nat → Wt) : (u36d6q a0 Ap0 cp0 a1 a2 a3 nx0 x1 g7_ o7_ u).map (fun x => x.2.2.map (·.1)) = (u36d6q a0 Ap0 cp0 a1 a2 a3 nx0 x1 g7_ o7_ u).map (fun x => x.2.2.map (·.2)) := by kernel_rfl
noncomputable def u36d7l  : List Ld :=
 []
noncomputable def u36d7g (x1 : Int) (g7_ : Nat) (o7_ : Nat) (g8_ : Nat) (o8_ : Nat) : List (Nat × ((Nat → Wt) → Value)) := [(2, fun u => .pointer (some ⟨g7_, o7_ + (x1).toNat * 8, none⟩)), (7, fun u => .bool false), (10, fun u => .pointer (some ⟨g8_, o8_ + (x1).toNat * 8, none⟩)), (17, fun u => .bool true)]
noncomputable def u36d7q (a0 : List S32) (Ap0 : Option Addr) (cp0 : Nat) (a1 : Int) (a2 : S24) (a3 : Int) (nx0 : Nat) (x1 : Int) (g7_ : Nat) (o7_ : Nat) (g8_ : Nat) (o8_ : Nat) (u : Nat → Wt) : Option (List Value × List (Nat × Value) × List (Nat × Nat)) := qSim Try.prog [(⟨g7_, o7_ + (x1).toNat * 8, none⟩, .int .i64 ((a0.getD (x1).toNat z32).f0)), (⟨g8_, o8_ + (x1).toNat * 8 + 2, none⟩, .int .i64 ((a0.getD (x1).toNat z32).f2))] [⟨nx0, [.int .i64 a2.f0, .int .i64 a2.f1], 24⟩] O36_20 ⟨118, []⟩ (Ld.vl u36d7l) (u36d7g x1 g7_ o7_ g8_ o8_) u (.no :: .no :: .no :: .no :: .r 0 :: .no :: .no :: .no :: .no :: .no :: .no :: .no :: .r 1 :: .no :: .l 0 :: .no :: .no :: .no :: .no :: .no :: .no :: .no :: .no :: .no :: .no :: .no :: .no :: .no :: .no :: .no :: .no :: .no :: .no :: []) 0 (O36_20.take 33) [(16, .bool (decide (x1 < (a0.length : Int)))), (0, .slice Ap0 a0.length cp0), (1, .int .i64 a1), (3, .int .i64 a3), (6, .pointer (some ⟨nx0, 0, none⟩)), (10, .int .i64 x1)]
noncomputable def u36d7s (a0 : List S32) (Ap0 : Option Addr) (cp0 : Nat) (a2 : S24) (a3 : Int) (nx0 : Nat) (x1 : Int) (g7_ : Nat) (o7_ : Nat) (g8_ : Nat) (o8_ : Nat) (u : Nat → Wt) : List Value := (.slice Ap0 a0.length cp0 :: .int .i64 x1 :: .pointer (some ⟨g7_, o7_ + (x1).toNat * 8, none⟩) :: .pointer (some ⟨g7_, o7_ + (x1).toNat * 8, none⟩) :: .int .i64 ((a0.getD (x1).toNat z32).f0) :: .int .i64 a3 :: .bool (((a0.getD (x1).toNat z32).f0) != a3) :: .bool false :: .slice Ap0 a0.length cp0 :: .int .i64 x1 :: .pointer (some ⟨g8_, o8_ + (x1).toNat * 8, none⟩) :: .pointer (some ⟨g8_, o8_ + (x1).toNat * 8 + 2, none⟩) :: .int .i64 ((a0.getD (x1).toNat z32).f2) :: .pointer (some ⟨nx0, 0, none⟩) :: .int .i64 a2.f0 :: .bool (((a0.getD (x1).toNat z32).f2) != a2.f0) :: .bool (((a0.getD (x1).toNat z32).f2) != a2.f0) :: .bool true :: undef :: undef :: undef :: undef :: undef :: undef :: undef :: undef :: .bool true :: .bool true :: undef :: undef :: undef :: undef :: undef :: [])
noncomputable def u36d7f (a0 : List S32) (Ap0 : Option Addr) (cp0 : Nat) (a1 : Int) (a2 : S24) (a3 : Int) (nx0 : Nat) (x1 : Int) (g7_ : Nat) (o7_ : Nat) (g8_ : Nat) (o8_ : Nat) (i : Nat) (u : Nat → Wt) : List (Nat × Value) := foldPut ⟨118, []⟩ [(16, .bool (decide (x1 < (a0.length : Int)))), (0, .slice Ap0 a0.length cp0), (1, .int .i64 a1), (3, .int .i64 a3), (6, .pointer (some ⟨nx0, 0, none⟩)), (10, .int .i64 x1)] (O36_20.take i) (((u36d7s a0 Ap0 cp0 a2 a3 nx0 x1 g7_ o7_ g8_ o8_) u).take i)
theorem u36d7v (a0 : List S32) (Ap0 : Option Addr) (cp0 : Nat) (a1 : Int) (a2 : S24) (a3 : Int) (nx0 : Nat) (x1 : Int) (g7_ : Nat) (o7_ : Nat) (g8_ : Nat) (o8_ : Nat) (u : Nat → Wt) : (u36d7q a0 Ap0 cp0 a1 a2 a3 nx0 x1 g7_ o7_ g8_ o8_ u).map (fun x => (x.1, x.2.1)) = some ((u36d7s a0 Ap0 cp0 a2 a3 nx0 x1 g7_ o7_ g8_ o8_) u, (u36d7f a0 Ap0 cp0 a1 a2 a3 nx0 x1 g7_ o7_ g8_ o8_ 33) u) := by kernel_rfl
theorem u36d7e (a0 : List S32) (Ap0 : Option Addr) (cp0 : Nat) (a1 : Int) (a2 : S24) (a3 : Int) (nx0 : Nat) (x1 : Int) (g7_ : Nat) (o7_ : Nat) (g8_ : Nat) (o8_ : Nat) (u : Nat → Wt) : (u36d7q a0 Ap0 cp0 a1 a2 a3 nx0 x1 g7_ o7_ g8_ o8_ u).map (fun x => x.2.2.map (·.1)) = (u36d7q a0 Ap0 cp0 a1 a2 a3 nx0 x1 g7_ o7_ g8_ o8_ u).map (fun x => x.2.2.map (·.2)) := by kernel_rfl
noncomputable def u36d8l  : List Ld :=
 []
noncomputable def u36d8g (x1 : Int) (g7_ : Nat) (o7_ : Nat) (g8_ : Nat) (o8_ : Nat) (g9_ : Nat) (o9_ : Nat) : List (Nat × ((Nat → Wt) → Value)) := [(2, fun u => .pointer (some ⟨g7_, o7_ + (x1).toNat * 8, none⟩)), (7, fun u => .bool false), (10, fun u => .pointer (some ⟨g8_, o8_ + (x1).toNat * 8, none⟩)), (17, fun u => .bool false), (20, fun u => .pointer (some ⟨g9_, o9_ + (x1).toNat * 8, none⟩)), (27, fun u => .bool true)]
noncomputable def u36d8q (a0 : List S32) (Ap0 : Option Addr) (cp0 : Nat) (a1 : Int) (a2 : S24) (a3 : Int) (nx0 : Nat) (x1 : Int) (g7_ : Nat) (o7_ : Nat) (g8_ : Nat) (o8_ : Nat) (g9_ : Nat) (o9_ : Nat) (u : Nat → Wt) : Option (List Value × List (Nat × Value) × List (Nat × Nat)) := qSim Try.prog [(⟨g7_, o7_ + (x1).toNat * 8, none⟩, .int .i64 ((a0.getD (x1).toNat z32).f0)), (⟨g8_, o8_ + (x1).toNat * 8 + 2, none⟩, .int .i64 ((a0.getD (x1).toNat z32).f2)), (⟨g9_, o9_ + (x1).toNat * 8 + 3, none⟩, .int .i64 ((a0.getD (x1).toNat z32).f3))] [⟨nx0, [.int .i64 a2.f0, .int .i64 a2.f1], 24⟩] O36_20 ⟨118, []⟩ (Ld.vl u36d8l) (u36d8g x1 g7_ o7_ g8_ o8_ g9_ o9_) u (.no :: .no :: .no :: .no :: .r 0 :: .no :: .no :: .no :: .no :: .no :: .no :: .no :: .r 1 :: .no :: .l 0 :: .no :: .no :: .no :: .no :: .no :: .no :: .no :: .r 2 :: .no :: .l 0 :: .no :: .no :: .no :: .no :: .no :: .no :: .no :: .no :: []) 0 (O36_20.take 33) [(16, .bool (decide (x1 < (a0.length : Int)))), (0, .slice Ap0 a0.length cp0), (1, .int .i64 a1), (3, .int .i64 a3), (6, .pointer (some ⟨nx0, 0, none⟩)), (10, .int .i64 x1)]
noncomputable def u36d8s (a0 : List S32) (Ap0 : Option Addr) (cp0 : Nat) (a2 : S24) (a3 : Int) (nx0 : Nat) (x1 : Int) (g7_ : Nat) (o7_ : Nat) (g8_ : Nat) (o8_ : Nat) (g9_ : Nat) (o9_ : Nat) (u : Nat → Wt) : List Value := (.slice Ap0 a0.length cp0 :: .int .i64 x1 :: .pointer (some ⟨g7_, o7_ + (x1).toNat * 8, none⟩) :: .pointer (some ⟨g7_, o7_ + (x1).toNat * 8, none⟩) :: .int .i64 ((a0.getD (x1).toNat z32).f0) :: .int .i64 a3 :: .bool (((a0.getD (x1).toNat z32).f0) != a3) :: .bool false :: .slice Ap0 a0.length cp0 :: .int .i64 x1 :: .pointer (some ⟨g8_, o8_ + (x1).toNat * 8, none⟩) :: .pointer (some ⟨g8_, o8_ + (x1).toNat * 8 + 2, none⟩) :: .int .i64 ((a0.getD (x1).toNat z32).f2) :: .pointer (some ⟨nx0, 0, none⟩) :: .int .i64 a2.f0 :: .bool (((a0.getD (x1).toNat z32).f2) != a2.f0) :: .bool (((a0.getD (x1).toNat z32).f2) != a2.f0) :: .bool false :: .slice Ap0 a0.length cp0 :: .int .i64 x1 :: .pointer (some ⟨g9_, o9_ + (x1).toNat * 8, none⟩) :: .pointer (some ⟨g9_, o9_ + (x1).toNat * 8 + 3, none⟩) :: .int .i64 ((a0.getD (x1).toNat z32).f3) :: .pointer (some ⟨nx0, 1, none⟩) :: .int .i64 a2.f1 :: .bool (((a0.getD (x1).toNat z32).f3) != a2.f1) :: .bool (((a0.getD (x1).toNat z32).f3) != a2.f1) :: .bool true :: undef :: undef :: undef :: undef :: undef :: [])
noncomputable def u36d8f (a0 : List S32) (Ap0 : Option Addr) (cp0 : Nat) (a1 : Int) (a2 : S24) (a3 : Int) (nx0 : Nat) (x1 : Int) (g7_ : Nat) (o7_ : Nat) (g8_ : Nat) (o8_ : Nat) (g9_ : Nat) (o9_ : Nat) (i : Nat) (u : Nat → Wt) : List (Nat × Value) := foldPut ⟨118, []⟩ [(16, .bool (decide (x1 < (a0.length : Int)))), (0, .slice Ap0 a0.length cp0), (1, .int .i64 a1), (3, .int .i64 a3), (6, .pointer (some ⟨nx0, 0, none⟩)), (10, .int .i64 x1)] (O36_20.take i) (((u36d8s a0 Ap0 cp0 a2 a3 nx0 x1 g7_ o7_ g8_ o8_ g9_ o9_) u).take i)
theorem u36d8v (a0 : List S32) (Ap0 : Option Addr) (cp0 : Nat) (a1 : Int) (a2 : S24) (a3 : Int) (nx0 : Nat) (x1 : Int) (g7_ : Nat) (o7_ : Nat) (g8_ : Nat) (o8_ : Nat) (g9_ : Nat) (o9_ : Nat) (u : Nat → Wt) : (u36d8q a0 Ap0 cp0 a1 a2 a3 nx0 x1 g7_ o7_ g8_ o8_ g9_ o9_ u).map (fun x => (x.1, x.2.1)) = some ((u36d8s a0 Ap0 cp0 a2 a3 nx0 x1 g7_ o7_ g8_ o8_ g9_ o9_) u, (u36d8f a0 Ap0 cp0 a1 a2 a3 nx0 x1 g7_ o7_ g8_ o8_ g9_ o9_ 33) u) := by kernel_rfl
theorem u36d8e (a0 : List S32) (Ap0 : Option Addr) (cp0 : Nat) (a1 : Int) (a2 : S24) (a3 : Int) (nx0 : Nat) (x1 : Int) (g7_ : Nat) (o7_ : Nat) (g8_ : Nat) (o8_ : Nat) (g9_ : Nat) (o9_ : Nat) (u : Nat → Wt) : (u36d8q a0 Ap0 cp0 a1 a2 a3 nx0 x1 g7_ o7_ g8_ o8_ g9_ o9_ u).map (fun x => x.2.2.map (·.1)) = (u36d8q a0 Ap0 cp0 a1 a2 a3 nx0 x1 g7_ o7_ g8_ o8_ g9_ o9_ u).map (fun x => x.2.2.map (·.2)) := by kernel_rfl
noncomputable def u36d9l  : List Ld :=
 []
noncomputable def u36d9g (x1 : Int) (g7_ : Nat) (o7_ : Nat) (g8_ : Nat) (o8_ : Nat) (g9_ : Nat) (o9_ : Nat) (g10_ : Nat) (o10_ : Nat) : List (Nat × ((Nat → Wt) → Value)) := [(2, fun u => .pointer (some ⟨g7_, o7_ + (x1).toNat * 8, none⟩)), (7, fun u => .bool false), (10, fun u => .pointer (some ⟨g8_, o8_ + (x1).toNat * 8, none⟩)), (17, fun u => .bool false), (20, fun u => .pointer (some ⟨g9_, o9_ + (x1).toNat * 8, none⟩)), (27, fun u => .bool false), (30, fun u => .pointer (some ⟨g10_, o10_ + (x1).toNat * 8, none⟩))]
noncomputable def u36d9q (a0 : List S32) (Ap0 : Option Addr) (cp0 : Nat) (a1 : Int) (a2 : S24) (a3 : Int) (nx0 : Nat) (x1 : Int) (g7_ : Nat) (o7_ : Nat) (g8_ : Nat) (o8_ : Nat) (g9_ : Nat) (o9_ : Nat) (A10_5_2_ : Option Addr) (c10_5_2_ : Nat) (g10_ : Nat) (o10_ : Nat) (u : Nat → Wt) : Option (List Value × List (Nat × Value) × List (Nat × Nat)) := qSim Try.prog [(⟨g7_, o7_ + (x1).toNat * 8, none⟩, .int .i64 ((a0.getD (x1).toNat z32).f0)), (⟨g8_, o8_ + (x1).toNat * 8 + 2, none⟩, .int .i64 ((a0.getD (x1).toNat z32).f2)), (⟨g9_, o9_ + (x1).toNat * 8 + 3, none⟩, .int .i64 ((a0.getD (x1).toNat z32).f3)), (⟨g10_, o10_ + (x1).toNat * 8, none⟩, .int .i64 ((a0.getD (x1).toNat z32).f0)), (⟨g10_, o10_ + (x1).toNat * 8 + 1, none⟩, .int .i64 ((a0.getD (x1).toNat z32).f1)), (⟨g10_, o10_ + (x1).toNat * 8 + 2, none⟩, .int .i64 ((a0.getD (x1).toNat z32).f2)), (⟨g10_, o10_ + (x1).toNat * 8 + 3, none⟩, .int .i64 ((a0.getD (x1).toNat z32).f3)), (⟨g10_, o10_ + (x1).toNat * 8 + 4, none⟩, .int .u32 ((a0.getD (x1).toNat z32).f4)), (⟨g10_, o10_ + (x1).toNat * 8 + 5, none⟩, .int .i64 ((a0.getD (x1).toNat z32).f5.f0)), (⟨g10_, o10_ + (x1).toNat * 8 + 6, none⟩, .string ((a0.getD (x1).toNat z32).f5.f1)), (⟨g10_, o10_ + (x1).toNat * 8 + 7, none⟩, .slice A10_5_2_ (((a0.getD (x1).toNat z32).f5.f2).length) c10_5_2_)] [⟨nx0, [.int .i64 a2.f0, .int .i64 a2.f1], 24⟩] O36_20 ⟨118, []⟩ (Ld.vl u36d9l) (u36d9g x1 g7_ o7_ g8_ o8_ g9_ o9_ g10_ o10_) u (.no :: .no :: .no :: .no :: .r 0 :: .no :: .no :: .no :: .no :: .no :: .no :: .no :: .r 1 :: .no :: .l 0 :: .no :: .no :: .no :: .no :: .no :: .no :: .no :: .r 2 :: .no :: .l 0 :: .no :: .no :: .no :: .no :: .no :: .no :: .r 3 :: .no :: []) 0 (O36_20.take 33) [(16, .bool (decide (x1 < (a0.length : Int)))), (0, .slice Ap0 a0.length cp0), (1, .int .i64 a1), (3, .int .i64 a3), (6, .pointer (some ⟨nx0, 0, none⟩)), (10, .int .i64 x1)]
noncomputable def u36d9s (a0 : List S32) (Ap0 : Option Addr) (cp0 : Nat) (a1 : Int) (a2 : S24) (a3 : Int) (nx0 : Nat) (x1 : Int) (g7_ : Nat) (o7_ : Nat) (g8_ : Nat) (o8_ : Nat) (g9_ : Nat) (o9_ : Nat) (A10_5_2_ : Option Addr) (c10_5_2_ : Nat) (g10_ : Nat) (o10_ : Nat) (u : Nat → Wt) : List Value := (.slice Ap0 a0.length cp0 :: .int .i64 x1 :: .pointer (some ⟨g7_, o7_ + (x1).toNat * 8, none⟩) :: .pointer (some ⟨g7_, o7_ + (x1).toNat * 8, none⟩) :: .int .i64 ((a0.getD (x1).toNat z32).f0) :: .int .i64 a3 :: .bool (((a0.getD (x1).toNat z32).f0) != a3) :: .bool false :: .slice Ap0 a0.length cp0 :: .int .i64 x1 :: .pointer (some ⟨g8_, o8_ + (x1).toNat * 8, none⟩) :: .pointer (some ⟨g8_, o8_ + (x1).toNat * 8 + 2, none⟩) :: .int .i64 ((a0.getD (x1).toNat z32).f2) :: .pointer (some ⟨nx0, 0, none⟩) :: .int .i64 a2.f0 :: .bool (((a0.getD (x1).toNat z32).f2) != a2.f0) :: .bool (((a0.getD (x1).toNat z32).f2) != a2.f0) :: .bool false :: .slice Ap0 a0.length cp0 :: .int .i64 x1 :: .pointer (some ⟨g9_, o9_ + (x1).toNat * 8, none⟩) :: .pointer (some ⟨g9_, o9_ + (x1).toNat * 8 + 3, none⟩) :: .int .i64 ((a0.getD (x1).toNat z32).f3) :: .pointer (some ⟨nx0, 1, none⟩) :: .int .i64 a2.f1 :: .bool (((a0.getD (x1).toNat z32).f3) != a2.f1) :: .bool (((a0.getD (x1).toNat z32).f3) != a2.f1) :: .bool false :: .slice Ap0 a0.length cp0 :: .int .i64 x1 :: .pointer (some ⟨g10_, o10_ + (x1).toNat * 8, none⟩) :: .agg #[.int .i64 ((a0.getD (x1).toNat z32).f0), .int .i64 ((a0.getD (x1).toNat z32).f1), .int .i64 ((a0.getD (x1).toNat z32).f2), .int .i64 ((a0.getD (x1).toNat z32).f3), .int .u32 ((a0.getD (x1).toNat z32).f4), .int .i64 ((a0.getD (x1).toNat z32).f5.f0), .string ((a0.getD (x1).toNat z32).f5.f1), .slice A10_5_2_ (((a0.getD (x1).toNat z32).f5.f2).length) c10_5_2_] :: .int .i64 a1 :: [])
noncomputable def u36d9f (a0 : List S32) (Ap0 : Option Addr) (cp0 : Nat) (a1 : Int) (a2 : S24) (a3 : Int) (nx0 : Nat) (x1 : Int) (g7_ : Nat) (o7_ : Nat) (g8_ : Nat) (o8_ : Nat) (g9_ : Nat) (o9_ : Nat) (A10_5_2_ : Option Addr) (c10_5_2_ : Nat) (g10_ : Nat) (o10_ : Nat) (i : Nat) (u : Nat → Wt) : List (Nat × Value) := foldPut ⟨118, []⟩ [(16, .bool (decide (x1 < (a0.length : Int)))), (0, .slice Ap0 a0.length cp0), (1, .int .i64 a1), (3, .int .i64 a3), (6, .pointer (some ⟨nx0, 0, none⟩)), (10, .int .i64 x1)] (O36_20.take i) (((u36d9s a0 Ap0 cp0 a1 a2 a3 nx0 x1 g7_ o7_ g8_ o8_ g9_ o9_ A10_5_2_ c10_5_2_ g10_ o10_) u).take i)
theorem u36d9v (a0 : List S32) (Ap0 : Option Addr) (cp0 : Nat) (a1 : Int) (a2 : S24) (a3 : Int) (nx0 : Nat) (x1 : Int) (g7_ : Nat) (o7_ : Nat) (g8_ : Nat) (o8_ : Nat) (g9_ : Nat) (o9_ : Nat) (A10_5_2_ : Option Addr) (c10_5_2_ : Nat) (g10_ : Nat) (o10_ : Nat) (u : Nat → Wt) : (u36d9q a0 Ap0 cp0 a1 a2 a3 nx0 x1 g7_ o7_ g8_ o8_ g9_ o9_ A10_5_2_ c10_5_2_ g10_ o10_ u).map (fun x => (x.1, x.2.1)) = some ((u36d9s a0 Ap0 cp0 a1 a2 a3 nx0 x1 g7_ o7_ g8_ o8_ g9_ o9_ A10_5_2_ c10_5_2_ g10_ o10_) u, (u36d9f a0 Ap0 cp0 a1 a2 a3 nx0 x1 g7_ o7_ g8_ o8_ g9_ o9_ A10_5_2_ c10_5_2_ g10_ o10_ 33) u) := by kernel_rfl
theorem u36d9e (a0 : List S32) (Ap0 : Option Addr) (cp0 : Nat) (a1 : Int) (a2 : S24) (a3 : Int) (nx0 : Nat) (x1 : Int) (g7_ : Nat) (o7_ : Nat) (g8_ : Nat) (o8_ : Nat) (g9_ : Nat) (o9_ : Nat) (A10_5_2_ : Option Addr) (c10_5_2_ : Nat) (g10_ : Nat) (o10_ : Nat) (u : Nat → Wt) : (u36d9q a0 Ap0 cp0 a1 a2 a3 nx0 x1 g7_ o7_ g8_ o8_ g9_ o9_ A10_5_2_ c10_5_2_ g10_ o10_ u).map (fun x => x.2.2.map (·.1)) = (u36d9q a0 Ap0 cp0 a1 a2 a3 nx0 x1 g7_ o7_ g8_ o8_ g9_ o9_ A10_5_2_ c10_5_2_ g10_ o10_ u).map (fun x => x.2.2.map (·.2)) := by kernel_rfl
theorem armillaryref29_decided.calls (k : Nat) (I0 : Imm) (a0 : List S32) (Ap0 : Option Addr) (cp0 : Nat) (a1 : Int) (a2 : S24) (a3 : Int) (w : World) (hI : I0.at_ w) (hlp0 : a0.length ≤ cp0) (hrp0 : Rd t32 I0 Ap0 a0) (r : Int × Bool) (h : armillaryref29_decided.f k a0 a1 a2 a3 = some r) :
  Calls Try.prog 36 [.slice Ap0 a0.length cp0, .int .i64 a1, .agg #[.int .i64 a2.f0, .int .i64 a2.f1], .int .i64 a3].toArray w fun e w' => ∃ v, e = .returned v ∧ armillaryref29_decided.Post I0 w r v w' := by
 have H : ((armillaryref29_decided.l1 a0 a1 a2 a3 k 0).bind (armillaryref29_decided.k1)) = some r := h
 clear h
 refine calls_body Try.func36 (by kernel_rfl) 118 (by kernel_rfl) (by kernel_rfl) ⟨w, fun _ => False, I0⟩ I0 [] [(0, .slice Ap0 a0.length cp0), (1, .int .i64 a1), (2, .agg #[.int .i64 a2.f0, .int .i64 a2.f1]), (3, .int .i64 a3)] (by kernel_rfl) (Sat.start w _ I0 hI) ?_
 generalize w.heap.size = nx0
 show OK _ K36_0 _ _ _ _ _ _ _ _
 refine OK.seq K36_1 K36_3 (by kernel_rfl) ?_
 refine OK.region 0 O36_1 (by kernel_rfl) ?_
 refine RL.simP (K' := [(6, .pointer (some ⟨nx0, 0, none⟩)), (0, .slice Ap0 a0.length cp0), (1, .int .i64 a1), (3, .int .i64 a3)]) (nx' := nx0 + 1) (L' := [⟨nx0, [.int .i64 a2.f0, .int .i64 a2.f1], 24⟩]) [] (RFacts.nil _ _ _) 3 [.no, .no, .no] (by kernel_rfl) (by kernel_rfl) ?_
 refine RL.nil (by kernel_rfl) ?_
 refine QN.then_ ?_
 refine OK.seq K36_4 K36_63 (by kernel_rfl) ?_
 refine OK.seq K36_5 K36_7 (by kernel_rfl) ?_
 refine OK.region 1 O36_5 (by kernel_rfl) ?_
 refine RL.simK (K' := [(10, .int .i64 0), (6, .pointer (some ⟨nx0, 0, none⟩)), (0, .slice Ap0 a0.length cp0), (1, .int .i64 a1), (3, .int .i64 a3)]) [] (RFacts.nil _ _ _) 1 [.no] (by kernel_rfl) (by kernel_rfl) ?_
 refine RL.nil (by kernel_rfl) ?_
 refine QN.then_ ?_
 refine OK.join (fun K' I' _ L' X' => K' = [] ∧ L' = [⟨nx0, [.int .i64 a2.f0, .int .i64 a2.f1], 24⟩] ∧ X' = [] ∧ Imm.le I0 I' ∧ armillaryref29_decided.k1 (Sum.inl ()) = some r) ?_ ?_
 ·rintro _ I1 nx1 _ _ ⟨rfl, rfl, rfl, hi1, H⟩
  replace H : (some (0, false)) = some r := H
  refine QN.then_ ?_
  refine OK.seq K36_64 K36_66 (by kernel_rfl) ?_
  refine OK.region 13 O36_64 (by kernel_rfl) ?_
  refine RL.simK (K' := [(9, .bool false), (8, .int .u32 0)]) [] (RFacts.nil _ _ _) 2 [.no, .no] (by kernel_rfl) (by kernel_rfl) ?_
  refine RL.nil (by kernel_rfl) ?_
  refine QN.then_ ?_
  refine OK.ret (by kernel_rfl) ?_
  obtain rfl := Option.some.inj H
  refine QN.body rfl [] (RFacts.nil _ _ _) (.no) (.tuple #[.int .u32 0, .bool false]) (by kernel_rfl) (by kernel_rfl) (by kernel_rfl) ?_ _ (.inr rfl)
  exact fun w' hs' => ⟨_, rfl, I1, rfl, hs'.got _ .slnil⟩
 ·intro Q_1 hJ1 hQ1
  obtain ⟨y1, H, HK1⟩ := Option.bind_eq_some_iff.mp H
  refine OK.block 0 K36_8 (by kernel_rfl) ?_
  refine OK.sub (K' := [(0, .slice Ap0 a0.length cp0), (1, .int .i64 a1), (3, .int .i64 a3), (6, .pointer (some ⟨nx0, 0, none⟩)), (10, .int .i64 0)]) (L' := [⟨nx0, [.int .i64 a2.f0, .int .i64 a2.f1], 24⟩]) (by kernel_rfl) (.cons_cons _ .slnil) (.refl _) ?_
  refine OK.loopInv K36_9 (by kernel_rfl) (fun n_ K' I' _ L' X' => ∃ (x1 : Int), K' = [(0, .slice Ap0 a0.length cp0), (1, .int .i64 a1), (3, .int .i64 a3), (6, .pointer (some ⟨nx0, 0, none⟩)), (10, .int .i64 x1)] ∧ L' = [⟨nx0, [.int .i64 a2.f0, .int .i64 a2.f1], 24⟩] ∧ X' = [] ∧ Imm.le I0 I' ∧ armillaryref29_decided.l1 a0 a1 a2 a3 n_ x1 = some y1) k ⟨0, rfl, rfl, rfl, (Imm.le_refl _), H⟩ ?_ ?_
  ·rintro _ _ _ _ _ ⟨x1, rfl, rfl, rfl, _, H⟩
   cases H
  ·rintro kq1 _ I2 nx2 _ _ ⟨x1, rfl, rfl, rfl, hi2, H⟩ Q_l1 hJ2 hQ2
   replace H : (if x1 < (a0.length : Int) then (((if 0 ≤ x1 then (if x1 < (a0.length : Int) then (if ((a0.getD (x1).toNat z32).f0) ≠ a3 then (some true) else (if 0 ≤ x1 then (if x1 < (a0.length : Int) then (if ((a0.getD (x1).toNat z32).f2) ≠ a2.f0 then (some true) else (if 0 ≤ x1 then (if x1 < (a0.length : Int) then (if ((a0.getD (x1).toNat z32).f3) ≠ a2.f1 then (some true) else (if 0 ≤ x1 then (if x1 < (a0.length : Int) then ((armillaryref29_Valid.f kq1 (a0.getD (x1).toNat z32) a1).bind fun t3 => (some (!t3))) else none) else none)) else none) else none)) else none) else none)) else none) else none).bind (armillaryref29_decided.k6 a0 a1 a2 a3 x1 kq1)).bind (fun s_ => match s_ with | .inl _ => (armillaryref29_decided.l1 a0 a1 a2 a3 kq1 (W .i64 (x1 + 1))) | .inr r_ => some (Sum.inr r_))) else (some (Sum.inl ()))) = some y1 := H
   refine OK.seq K36_10 K36_16 (by kernel_rfl) ?_
   refine OK.seq K36_11 K36_13 (by kernel_rfl) ?_
   refine OK.region 2 O36_11 (by kernel_rfl) ?_
   refine RL.simK (K' := [(16, .bool (decide (x1 < (a0.length : Int)))), (0, .slice Ap0 a0.length cp0), (1, .int .i64 a1), (3, .int .i64 a3), (6, .pointer (some ⟨nx0, 0, none⟩)), (10, .int .i64 x1)]) [] (RFacts.nil _ _ _) 4 [.no, .no, .no, .no] (by kernel_rfl) (by kernel_rfl) ?_
   refine RL.nil (by kernel_rfl) ?_
   refine QN.then_ ?_
   refine OK.cond (.tmp 16) K36_14 K36_15 (decide (x1 < (a0.length : Int))) (by kernel_rfl) (by kernel_rfl) (by kernel_rfl) (fun hb => ?_) (fun hb => ?_)
   ·skip
    have hc := (of_decide_eq_true hb)
    rw [if_pos hc] at H
    clear hb
    refine OK.skip (by kernel_rfl) ?_
    refine QN.then_ ?_
    refine OK.seq K36_17 K36_61 (by kernel_rfl) ?_
    refine OK.join (fun K' I' _ L' X' => K' = [(0, .slice Ap0 a0.length cp0), (1, .int .i64 a1), (3, .int .i64 a3), (6, .pointer (some ⟨nx0, 0, none⟩)), (10, .int .i64 x1)] ∧ L' = [⟨nx0, [.int .i64 a2.f0, .int .i64 a2.f1], 24⟩] ∧ X' = [] ∧ Imm.le I2 I' ∧ (armillaryref29_decided.l1 a0 a1 a2 a3 kq1 (W .i64 (x1 + 1))) = some y1) ?_ ?_
    ·rintro _ I3 nx3 _ _ ⟨rfl, rfl, rfl, hi3, H⟩
     replace H : (armillaryref29_decided.l1 a0 a1 a2 a3 kq1 (W .i64 (x1 + 1))) = some y1 := H
     refine QN.then_ ?_
     refine OK.region 3 O36_61 (by kernel_rfl) ?_
     refine RL.simK (K' := [(10, .int .i64 (W .i64 (x1 + 1))), (0, .slice Ap0 a0.length cp0), (1, .int .i64 a1), (3, .int .i64 a3), (6, .pointer (some ⟨nx0, 0, none⟩))]) [] (RFacts.nil _ _ _) 3 [.no, .no, .no] (by kernel_rfl) (by kernel_rfl) ?_
     refine RL.nil (by kernel_rfl) ?_
     refine QN.sub (K' := [(0, .slice Ap0 a0.length cp0), (1, .int .i64 a1), (3, .int .i64 a3), (6, .pointer (some ⟨nx0, 0, none⟩)), (10, .int .i64 (W .i64 (x1 + 1)))]) (L' := [⟨nx0, [.int .i64 a2.f0, .int .i64 a2.f1], 24⟩]) (by kernel_rfl) (.cons_cons _ .slnil) (.refl _) ?_
     exact hJ2 _ _ _ _ _ ⟨W .i64 (x1 + 1), rfl, rfl, rfl, (Imm.le_trans hi2 hi3), H⟩
    ·intro Q_2 hJ3 hQ3
     obtain ⟨y2, H, HK2⟩ := Option.bind_eq_some_iff.mp H
     refine OK.block 1 K36_18 (by kernel_rfl) ?_
     refine OK.seq K36_19 K36_25 (by kernel_rfl) ?_
     refine OK.seq K36_20 K36_22 (by kernel_rfl) ?_
     refine OK.join (fun K' I' _ L' X' => ∃ (x2 : Bool), K' = [(0, .slice Ap0 a0.length cp0), (1, .int .i64 a1), (3, .int .i64 a3), (6, .pointer (some ⟨nx0, 0, none⟩)), (10, .int .i64 x1), (54, .bool x2)] ∧ L' = [⟨nx0, [.int .i64 a2.f0, .int .i64 a2.f1], 24⟩] ∧ X' = [] ∧ Imm.le I2 I' ∧ armillaryref29_decided.k6 a0 a1 a2 a3 x1 kq1 x2 = some y2) ?_ ?_
     ·rintro _ I4 nx4 _ _ ⟨x2, rfl, rfl, rfl, hi4, H⟩
      replace H : (if x2 = true then (some (Sum.inl ())) else ((armillaryref29_decided.l2 a0 a1 a2 a3 x1 kq1 0 0).bind (armillaryref29_decided.k3 a0 a1 x1))) = some y2 := H
      refine QN.then_ ?_
      refine OK.cond (.tmp 54) K36_23 K36_24 x2 (by kernel_rfl) (by kernel_rfl) (by kernel_rfl) (fun hb => ?_) (fun hb => ?_)
      ·skip
       have hc := hb
       rw [if_pos hc] at H
       clear hb
       refine OK.exit 1 (by kernel_rfl) ?_
       refine QN.thenE ?_
       refine QN.blkE ?_
       obtain rfl := Option.some.inj H
       refine QN.sub (K' := [(0, .slice Ap0 a0.length cp0), (1, .int .i64 a1), (3, .int .i64 a3), (6, .pointer (some ⟨nx0, 0, none⟩)), (10, .int .i64 x1)]) (L' := [⟨nx0, [.int .i64 a2.f0, .int .i64 a2.f1], 24⟩]) (by kernel_rfl) (.cons_cons _ .slnil) (.refl _) ?_
       exact hJ3 _ _ _ _ _ ⟨rfl, rfl, rfl, hi4, HK2⟩
      ·skip
       have hc := (Bool.eq_false_iff.1 hb)
       rw [if_neg hc] at H
       clear hb
       refine OK.skip (by kernel_rfl) ?_
       refine QN.then_ ?_
       refine OK.seq K36_26 K36_28 (by kernel_rfl) ?_
       refine OK.region 5 O36_26 (by kernel_rfl) ?_
       refine RL.simK (K' := [(11, .int .i64 0), (0, .slice Ap0 a0.length cp0), (1, .int .i64 a1), (3, .int .i64 a3), (6, .pointer (some ⟨nx0, 0, none⟩)), (10, .int .i64 x1)]) [] (RFacts.nil _ _ _) 1 [.no] (by kernel_rfl) (by kernel_rfl) ?_
       refine RL.nil (by kernel_rfl) ?_
       refine QN.then_ ?_
       refine OK.seq K36_29 K36_52 (by kernel_rfl) ?_
       refine OK.seq K36_30 K36_32 (by kernel_rfl) ?_
       refine OK.region 6 O36_30 (by kernel_rfl) ?_
       refine RL.simK (K' := [(12, .int .i64 0), (11, .int .i64 0), (0, .slice Ap0 a0.length cp0), (1, .int .i64 a1), (3, .int .i64 a3), (6, .pointer (some ⟨nx0, 0, none⟩)), (10, .int .i64 x1)]) [] (RFacts.nil _ _ _) 1 [.no] (by kernel_rfl) (by kernel_rfl) ?_
       refine RL.nil (by kernel_rfl) ?_
       refine QN.then_ ?_
       refine OK.join (fun K' I' _ L' X' => ∃ (x3 : Int), K' = [(0, .slice Ap0 a0.length cp0), (1, .int .i64 a1), (3, .int .i64 a3), (6, .pointer (some ⟨nx0, 0, none⟩)), (10, .int .i64 x1), (11, .int .i64 x3)] ∧ L' = [⟨nx0, [.int .i64 a2.f0, .int .i64 a2.f1], 24⟩] ∧ X' = [] ∧ Imm.le I4 I' ∧ armillaryref29_decided.k3 a0 a1 x1 x3 = some y2) ?_ ?_
       ·rintro _ I5 nx5 _ _ ⟨x3, rfl, rfl, rfl, hi5, H⟩
        replace H : ((armillaryref29_Size.f a1).bind fun t1 => (if x3 ≥ t1 then (if 0 ≤ x1 then (if x1 < (a0.length : Int) then (some (Sum.inr ((a0.getD (x1).toNat z32).f4, true))) else none) else none) else (some (Sum.inl ())))) = some y2 := H
        refine QN.then_ ?_
        refine OK.seq K36_53 K36_55 (by kernel_rfl) ?_
        refine OK.region 11 O36_53 (by kernel_rfl) ?_
        refine RL.simK (K' := [(110, .int .i64 a1), (109, .int .i64 x3), (0, .slice Ap0 a0.length cp0), (1, .int .i64 a1), (3, .int .i64 a3), (6, .pointer (some ⟨nx0, 0, none⟩)), (10, .int .i64 x1)]) [] (RFacts.nil _ _ _) 2 [.no, .no] (by kernel_rfl) (by kernel_rfl) ?_
        obtain ⟨t1, hA1, H⟩ := Option.bind_eq_some_iff.mp H
        refine RL.callP 23 [.int .i64 a1] (some 111) (fun w => armillaryref29_Size.Post I5 w t1) (by kernel_rfl) (by kernel_rfl) (fun w hs => armillaryref29_Size.calls I5 a1 w hs.im  t1 hA1) ?_
        rintro w v w' hs ⟨I6, rfl, hg⟩
        have hi6 := hg.le
        refine RL.resume (X' := []) rfl (hs.call hg) ?_
        clear hs hg
        generalize w'.heap.size = nx6
        clear w w'
        refine RL.simK (K' := [(112, .bool (decide (x3 ≥ t1))), (0, .slice Ap0 a0.length cp0), (1, .int .i64 a1), (3, .int .i64 a3), (6, .pointer (some ⟨nx0, 0, none⟩)), (10, .int .i64 x1)]) [] (RFacts.nil _ _ _) 1 [.no] (by kernel_rfl) (by kernel_rfl) ?_
        refine RL.nil (by kernel_rfl) ?_
        refine QN.then_ ?_
        refine OK.cond (.tmp 112) K36_56 K36_60 (decide (x3 ≥ t1)) (by kernel_rfl) (by kernel_rfl) (by kernel_rfl) (fun hb => ?_) (fun hb => ?_)
        ·skip
         have hc := (of_decide_eq_true hb)
         rw [if_pos hc] at H
         clear hb
         refine OK.seq K36_57 K36_59 (by kernel_rfl) ?_
         refine OK.region 12 O36_57 (by kernel_rfl) ?_
         refine RL.simK (K' := [(114, .int .i64 x1), (113, .slice Ap0 a0.length cp0)]) [] (RFacts.nil _ _ _) 2 [.no, .no] (by kernel_rfl) (by kernel_rfl) ?_
         by_cases hib0 : 0 ≤ x1
         case neg => rw [if_neg hib0] at H; cases H
         rw [if_pos hib0] at H
         by_cases hib1 : x1 < (a0.length : Int)
         case neg => rw [if_neg hib1] at H; cases H
         rw [if_pos hib1] at H
         obtain ⟨g1_, o1_, hA1_, A1_5_2_, c1_5_2_, hl1_5_2_, hr1_5_2_, hc1_⟩ := t32_at (Rd.ext (Imm.le_trans (Imm.le_trans (Imm.le_trans hi2 hi4) hi5) hi6) hrp0) x1 hib0 hib1
         refine RL.idx 8 .i64 x1 hA1_ a0.length cp0 (some 115) (by kernel_rfl) (by kernel_rfl) (T := 22) (e := 32) (by kernel_rfl) (by kernel_rfl) hib0 hib1 (K' := [(115, .pointer (some ⟨g1_, o1_ + (x1).toNat * 8, none⟩)), (114, .int .i64 x1), (113, .slice Ap0 a0.length cp0)]) (by kernel_rfl) ?_
         refine RL.simK (K' := [(9, .bool true), (8, .int .u32 ((a0.getD (x1).toNat z32).f4))]) [(⟨g1_, o1_ + (x1).toNat * 8 + 4, none⟩, .int .u32 ((a0.getD (x1).toNat z32).f4))] (RFacts.imm (hc1_ 4 _ rfl) (RFacts.nil _ _ _)) 4 [.no, .r 0, .no, .no] (by kernel_rfl) (by kernel_rfl) ?_
         refine RL.nil (by kernel_rfl) ?_
         refine QN.then_ ?_
         refine OK.ret (by kernel_rfl) ?_
         refine QN.blkR ?_
         refine QN.outR hQ3 ?_
         refine QN.thenR ?_
         refine QN.outR hQ2 ?_
         refine QN.blkR ?_
         refine QN.outR hQ1 ?_
         refine QN.thenR ?_
         obtain rfl := Option.some.inj H
         replace H : some (Sum.inr ((a0.getD (x1).toNat z32).f4, true)) = some y1 := HK2
         obtain rfl := Option.some.inj H
         replace H : some ((a0.getD (x1).toNat z32).f4, true) = some r := HK1
         obtain rfl := Option.some.inj H
         refine QN.body rfl [] (RFacts.nil _ _ _) (.no) (.tuple #[.int .u32 ((a0.getD (x1).toNat z32).f4), .bool true]) (by kernel_rfl) (by kernel_rfl) (by kernel_rfl) ?_ _ (.inr rfl)
         exact fun w' hs' => ⟨_, rfl, I6, rfl, hs'.got _ .slnil⟩
        ·skip
         have hc := (of_decide_eq_false hb)
         rw [if_neg hc] at H
         clear hb
         refine OK.skip (by kernel_rfl) ?_
         refine QN.blkN ?_
         obtain rfl := Option.some.inj H
         refine QN.sub (K' := [(0, .slice Ap0 a0.length cp0), (1, .int .i64 a1), (3, .int .i64 a3), (6, .pointer (some ⟨nx0, 0, none⟩)), (10, .int .i64 x1)]) (L' := [⟨nx0, [.int .i64 a2.f0, .int .i64 a2.f1], 24⟩]) (by kernel_rfl) (.cons_cons _ .slnil) (.refl _) ?_
         exact hJ3 _ _ _ _ _ ⟨rfl, rfl, rfl, (Imm.le_trans (Imm.le_trans hi4 hi5) hi6), HK2⟩
       ·intro Q_3 hJ5 hQ5
        obtain ⟨y4, H, HK4⟩ := Option.bind_eq_some_iff.mp H
        refine OK.block 2 K36_33 (by kernel_rfl) ?_
        refine OK.sub (K' := [(0, .slice Ap0 a0.length cp0), (1, .int .i64 a1), (3, .int .i64 a3), (6, .pointer (some ⟨nx0, 0, none⟩)), (10, .int .i64 x1), (11, .int .i64 0), (12, .int .i64 0)]) (L' := [⟨nx0, [.int .i64 a2.f0, .int .i64 a2.f1], 24⟩]) (by kernel_rfl) (.cons_cons _ .slnil) (.refl _) ?_
        refine OK.loopInv K36_34 (by kernel_rfl) (fun n_ K' I' _ L' X' => ∃ (x4 : Int) (x5 : Int), K' = [(0, .slice Ap0 a0.length cp0), (1, .int .i64 a1), (3, .int .i64 a3), (6, .pointer (some ⟨nx0, 0, none⟩)), (10, .int .i64 x1), (11, .int .i64 x4), (12, .int .i64 x5)] ∧ L' = [⟨nx0, [.int .i64 a2.f0, .int .i64 a2.f1], 24⟩] ∧ X' = [] ∧ Imm.le I4 I' ∧ armillaryref29_decided.l2 a0 a1 a2 a3 x1 n_ x4 x5 = some y4) kq1 ⟨0, 0, rfl, rfl, rfl, (Imm.le_refl _), H⟩ ?_ ?_
        ·rintro _ _ _ _ _ ⟨x4, x5, rfl, rfl, rfl, _, H⟩
         cases H
        ·rintro kq2 _ I7 nx7 _ _ ⟨x4, x5, rfl, rfl, rfl, hi7, H⟩ Q_l2 hJ6 hQ6
         replace H : (if x5 < (a0.length : Int) then ((if 0 ≤ x5 then (if x5 < (a0.length : Int) then (if ((a0.getD (x5).toNat z32).f0) = a3 then (if 0 ≤ x5 then (if x5 < (a0.length : Int) then (if ((a0.getD (x5).toNat z32).f2) = a2.f0 then (if 0 ≤ x5 then (if x5 < (a0.length : Int) then (if ((a0.getD (x5).toNat z32).f3) = a2.f1 then (if 0 ≤ x5 then (if x5 < (a0.length : Int) then (if 0 ≤ x1 then (if x1 < (a0.length : Int) then (if ((a0.getD (x5).toNat z32).f4) = ((a0.getD (x1).toNat z32).f4) then ((armillaryref29_counts.f kq2 a0 a1 x5).bind fun t2 => (some t2)) else (some false)) else none) else none) else none) else none) else (some false)) else none) else none) else (some false)) else none) else none) else (some false)) else none) else none).bind (fun x6 => ((if x6 = true then (some (W .i64 (x4 + 1))) else (some x4)).bind (fun x7 => (armillaryref29_decided.l2 a0 a1 a2 a3 x1 kq2 x7 (W .i64 (x5 + 1))))))) else (some x4)) = some y4 := H
         refine OK.seq K36_35 K36_41 (by kernel_rfl) ?_
         refine OK.seq K36_36 K36_38 (by kernel_rfl) ?_
         refine OK.region 7 O36_36 (by kernel_rfl) ?_
         refine RL.simK (K' := [(58, .bool (decide (x5 < (a0.length : Int)))), (0, .slice Ap0 a0.length cp0), (1, .int .i64 a1), (3, .int .i64 a3), (6, .pointer (some ⟨nx0, 0, none⟩)), (10, .int .i64 x1), (11, .int .i64 x4), (12, .int .i64 x5)]) [] (RFacts.nil _ _ _) 4 [.no, .no, .no, .no] (by kernel_rfl) (by kernel_rfl) ?_
         refine RL.nil (by kernel_rfl) ?_
         refine QN.then_ ?_
         refine OK.cond (.tmp 58) K36_39 K36_40 (decide (x5 < (a0.length : Int))) (by kernel_rfl) (by kernel_rfl) (by kernel_rfl) (fun hb => ?_) (fun hb => ?_)
         ·skip
          have hc := (of_decide_eq_true hb)
          rw [if_pos hc] at H
          clear hb
          refine OK.skip (by kernel_rfl) ?_
          refine QN.then_ ?_
          refine OK.seq K36_42 K36_50 (by kernel_rfl) ?_
          refine OK.block 3 K36_43 (by kernel_rfl) ?_
          refine OK.seq K36_44 K36_46 (by kernel_rfl) ?_
          refine OK.join (fun K' I' _ L' X' => ∃ (x6 : Bool), K' = [(0, .slice Ap0 a0.length cp0), (1, .int .i64 a1), (3, .int .i64 a3), (6, .pointer (some ⟨nx0, 0, none⟩)), (10, .int .i64 x1), (11, .int .i64 x4), (12, .int .i64 x5), (106, .bool x6)] ∧ L' = [⟨nx0, [.int .i64 a2.f0, .int .i64 a2.f1], 24⟩] ∧ X' = [] ∧ Imm.le I7 I' ∧ ((if x6 = true then (some (W .i64 (x4 + 1))) else (some x4)).bind (fun x7 => (armillaryref29_decided.l2 a0 a1 a2 a3 x1 kq2 x7 (W .i64 (x5 + 1))))) = some y4) ?_ ?_
          ·rintro _ I8 nx8 _ _ ⟨x6, rfl, rfl, rfl, hi8, H⟩
           replace H : ((if x6 = true then (some (W .i64 (x4 + 1))) else (some x4)).bind (fun x7 => (armillaryref29_decided.l2 a0 a1 a2 a3 x1 kq2 x7 (W .i64 (x5 + 1))))) = some y4 := H
           refine QN.then_ ?_
           refine OK.join (fun K' I' _ L' X' => ∃ (x7 : Int), K' = [(0, .slice Ap0 a0.length cp0), (1, .int .i64 a1), (3, .int .i64 a3), (6, .pointer (some ⟨nx0, 0, none⟩)), (10, .int .i64 x1), (11, .int .i64 x7), (12, .int .i64 x5)] ∧ L' = [⟨nx0, [.int .i64 a2.f0, .int .i64 a2.f1], 24⟩] ∧ X' = [] ∧ Imm.le I8 I' ∧ (armillaryref29_decided.l2 a0 a1 a2 a3 x1 kq2 x7 (W .i64 (x5 + 1))) = some y4) ?_ ?_
           ·rintro _ I9 nx9 _ _ ⟨x7, rfl, rfl, rfl, hi9, H⟩
            replace H : (armillaryref29_decided.l2 a0 a1 a2 a3 x1 kq2 x7 (W .i64 (x5 + 1))) = some y4 := H
            refine QN.blkN ?_
            refine QN.then_ ?_
            refine OK.region 8 O36_50 (by kernel_rfl) ?_
            refine RL.simK (K' := [(12, .int .i64 (W .i64 (x5 + 1))), (0, .slice Ap0 a0.length cp0), (1, .int .i64 a1), (3, .int .i64 a3), (6, .pointer (some ⟨nx0, 0, none⟩)), (10, .int .i64 x1), (11, .int .i64 x7)]) [] (RFacts.nil _ _ _) 3 [.no, .no, .no] (by kernel_rfl) (by kernel_rfl) ?_
            refine RL.nil (by kernel_rfl) ?_
            refine QN.sub (K' := [(0, .slice Ap0 a0.length cp0), (1, .int .i64 a1), (3, .int .i64 a3), (6, .pointer (some ⟨nx0, 0, none⟩)), (10, .int .i64 x1), (11, .int .i64 x7), (12, .int .i64 (W .i64 (x5 + 1)))]) (L' := [⟨nx0, [.int .i64 a2.f0, .int .i64 a2.f1], 24⟩]) (by kernel_rfl) (.cons_cons _ .slnil) (.refl _) ?_
            exact hJ6 _ _ _ _ _ ⟨x7, W .i64 (x5 + 1), rfl, rfl, rfl, (Imm.le_trans (Imm.le_trans hi7 hi8) hi9), H⟩
           ·intro Q_4 hJ8 hQ8
            obtain ⟨y6, H, HK6⟩ := Option.bind_eq_some_iff.mp H
            refine OK.cond (.tmp 106) K36_47 K36_49 x6 (by kernel_rfl) (by kernel_rfl) (by kernel_rfl) (fun hb => ?_) (fun hb => ?_)
            ·skip
             have hc := hb
             rw [if_pos hc] at H
             clear hb
             refine OK.region 10 O36_47 (by kernel_rfl) ?_
             refine RL.simK (K' := [(11, .int .i64 (W .i64 (x4 + 1))), (0, .slice Ap0 a0.length cp0), (1, .int .i64 a1), (3, .int .i64 a3), (6, .pointer (some ⟨nx0, 0, none⟩)), (10, .int .i64 x1), (12, .int .i64 x5)]) [] (RFacts.nil _ _ _) 3 [.no, .no, .no] (by kernel_rfl) (by kernel_rfl) ?_
             refine RL.nil (by kernel_rfl) ?_
             obtain rfl := Option.some.inj H
             refine QN.sub (K' := [(0, .slice Ap0 a0.length cp0), (1, .int .i64 a1), (3, .int .i64 a3), (6, .pointer (some ⟨nx0, 0, none⟩)), (10, .int .i64 x1), (11, .int .i64 (W .i64 (x4 + 1))), (12, .int .i64 x5)]) (L' := [⟨nx0, [.int .i64 a2.f0, .int .i64 a2.f1], 24⟩]) (by kernel_rfl) (.cons_cons _ .slnil) (.refl _) ?_
             exact hJ8 _ _ _ _ _ ⟨W .i64 (x4 + 1), rfl, rfl, rfl, (Imm.le_refl _), HK6⟩
            ·skip
             have hc := (Bool.eq_false_iff.1 hb)
             rw [if_neg hc] at H
             clear hb
             refine OK.skip (by kernel_rfl) ?_
             obtain rfl := Option.some.inj H
             refine QN.sub (K' := [(0, .slice Ap0 a0.length cp0), (1, .int .i64 a1), (3, .int .i64 a3), (6, .pointer (some ⟨nx0, 0, none⟩)), (10, .int .i64 x1), (11, .int .i64 x4), (12, .int .i64 x5)]) (L' := [⟨nx0, [.int .i64 a2.f0, .int .i64 a2.f1], 24⟩]) (by kernel_rfl) (.cons_cons _ .slnil) (.refl _) ?_
             exact hJ8 _ _ _ _ _ ⟨x4, rfl, rfl, rfl, (Imm.le_refl _), HK6⟩
          ·intro Q_5 hJ7 hQ7
           obtain ⟨y5, H, HK5⟩ := Option.bind_eq_some_iff.mp H
           by_cases hi0_1 : 0 ≤ x5
           case neg => rw [if_neg hi0_1] at H; cases H
           rw [if_pos hi0_1] at H
           by_cases hi1_1 : x5 < (a0.length : Int)
           case neg => rw [if_neg hi1_1] at H; cases H
           rw [if_pos hi1_1] at H
           obtain ⟨g2_, o2_, hA2_, A2_5_2_, c2_5_2_, hl2_5_2_, hr2_5_2_, hc2_⟩ := t32_at (Rd.ext (Imm.le_trans (Imm.le_trans hi2 hi4) hi7) hrp0) x5 hi0_1 hi1_1
           refine OK.cases (((a0.getD (x5).toNat z32).f0) == a3) (fun hb1 => ?_) (fun hb1 => ?_)
           ·have hc1 := (beq_iff_eq.1 hb1)
            rw [if_pos hc1] at H
            by_cases hi0_2 : 0 ≤ x5
            case neg => rw [if_neg hi0_2] at H; cases H
            rw [if_pos hi0_2] at H
            by_cases hi1_2 : x5 < (a0.length : Int)
            case neg => rw [if_neg hi1_2] at H; cases H
            rw [if_pos hi1_2] at H
            obtain ⟨g3_, o3_, hA3_, A3_5_2_, c3_5_2_, hl3_5_2_, hr3_5_2_, hc3_⟩ := t32_at (Rd.ext (Imm.le_trans (Imm.le_trans hi2 hi4) hi7) hrp0) x5 hi0_2 hi1_2
            refine OK.cases (((a0.getD (x5).toNat z32).f2) == a2.f0) (fun hb2 => ?_) (fun hb2 => ?_)
            ·have hc2 := (beq_iff_eq.1 hb2)
             rw [if_pos hc2] at H
             by_cases hi0_3 : 0 ≤ x5
             case neg => rw [if_neg hi0_3] at H; cases H
             rw [if_pos hi0_3] at H
             by_cases hi1_3 : x5 < (a0.length : Int)
             case neg => rw [if_neg hi1_3] at H; cases H
             rw [if_pos hi1_3] at H
             obtain ⟨g4_, o4_, hA4_, A4_5_2_, c4_5_2_, hl4_5_2_, hr4_5_2_, hc4_⟩ := t32_at (Rd.ext (Imm.le_trans (Imm.le_trans hi2 hi4) hi7) hrp0) x5 hi0_3 hi1_3
             refine OK.cases (((a0.getD (x5).toNat z32).f3) == a2.f1) (fun hb3 => ?_) (fun hb3 => ?_)
             ·have hc3 := (beq_iff_eq.1 hb3)
              rw [if_pos hc3] at H
              by_cases hi0_4 : 0 ≤ x5
              case neg => rw [if_neg hi0_4] at H; cases H
              rw [if_pos hi0_4] at H
              by_cases hi1_4 : x5 < (a0.length : Int)
              case neg => rw [if_neg hi1_4] at H; cases H
              rw [if_pos hi1_4] at H
              obtain ⟨g5_, o5_, hA5_, A5_5_2_, c5_5_2_, hl5_5_2_, hr5_5_2_, hc5_⟩ := t32_at (Rd.ext (Imm.le_trans (Imm.le_trans hi2 hi4) hi7) hrp0) x5 hi0_4 hi1_4
              by_cases hi0_5 : 0 ≤ x1
              case neg => rw [if_neg hi0_5] at H; cases H
              rw [if_pos hi0_5] at H
              by_cases hi1_5 : x1 < (a0.length : Int)
              case neg => rw [if_neg hi1_5] at H; cases H
              rw [if_pos hi1_5] at H
              obtain ⟨g6_, o6_, hA6_, A6_5_2_, c6_5_2_, hl6_5_2_, hr6_5_2_, hc6_⟩ := t32_at (Rd.ext (Imm.le_trans (Imm.le_trans hi2 hi4) hi7) hrp0) x1 hi0_5 hi1_5
              refine OK.cases (((a0.getD (x5).toNat z32).f4) == ((a0.getD (x1).toNat z32).f4)) (fun hb4 => ?_) (fun hb4 => ?_)
              ·have hc4 := (beq_iff_eq.1 hb4)
               rw [if_pos hc4] at H
               refine OK.drawnC 9 44 O36_44 a36_44n (by kernel_rfl) (by kernel_rfl) u36d1l (u36d1g x1 x5 g2_ o2_ g3_ o3_ g4_ o4_ g5_ o5_ g6_ o6_) [(⟨g2_, o2_ + (x5).toNat * 8, none⟩, .int .i64 ((a0.getD (x5).toNat z32).f0)), (⟨g3_, o3_ + (x5).toNat * 8 + 2, none⟩, .int .i64 ((a0.getD (x5).toNat z32).f2)), (⟨g4_, o4_ + (x5).toNat * 8 + 3, none⟩, .int .i64 ((a0.getD (x5).toNat z32).f3)), (⟨g5_, o5_ + (x5).toNat * 8 + 4, none⟩, .int .u32 ((a0.getD (x5).toNat z32).f4)), (⟨g6_, o6_ + (x1).toNat * 8 + 4, none⟩, .int .u32 ((a0.getD (x1).toNat z32).f4))] (RI.cons (hc2_ 0 _ rfl) (RI.cons (hc3_ 2 _ rfl) (RI.cons (hc4_ 3 _ rfl) (RI.cons (hc5_ 4 _ rfl) (RI.cons (hc6_ 4 _ rfl) (RI.nil _)))))) (.no :: .no :: .no :: .no :: .r 0 :: .no :: .no :: .no :: .no :: .no :: .no :: .no :: .r 1 :: .no :: .l 0 :: .no :: .no :: .no :: .no :: .no :: .no :: .no :: .r 2 :: .no :: .l 0 :: .no :: .no :: .no :: .no :: .no :: .no :: .no :: .r 3 :: .no :: .no :: .no :: .no :: .r 4 :: .no :: .no :: .no :: .no :: .no :: .no :: []) a36_44 a36_44o (by kernel_rfl) (by kernel_rfl) (u36d1s a0 Ap0 cp0 a1 a2 a3 nx0 x1 x5 g2_ o2_ g3_ o3_ g4_ o4_ g5_ o5_ g6_ o6_) (u36d1f a0 Ap0 cp0 a1 a2 a3 nx0 x1 x4 x5 g2_ o2_ g3_ o3_ g4_ o4_ g5_ o5_ g6_ o6_ 44) (u36d1v a0 Ap0 cp0 a1 a2 a3 nx0 x1 x4 x5 g2_ o2_ g3_ o3_ g4_ o4_ g5_ o5_ g6_ o6_) (u36d1e a0 Ap0 cp0 a1 a2 a3 nx0 x1 x4 x5 g2_ o2_ g3_ o3_ g4_ o4_ g5_ o5_ g6_ o6_) [] framesOk.nil ?_ [u36d1f a0 Ap0 cp0 a1 a2 a3 nx0 x1 x4 x5 g2_ o2_ g3_ o3_ g4_ o4_ g5_ o5_ g6_ o6_ 2, u36d1f a0 Ap0 cp0 a1 a2 a3 nx0 x1 x4 x5 g2_ o2_ g3_ o3_ g4_ o4_ g5_ o5_ g6_ o6_ 7, u36d1f a0 Ap0 cp0 a1 a2 a3 nx0 x1 x4 x5 g2_ o2_ g3_ o3_ g4_ o4_ g5_ o5_ g6_ o6_ 10, u36d1f a0 Ap0 cp0 a1 a2 a3 nx0 x1 x4 x5 g2_ o2_ g3_ o3_ g4_ o4_ g5_ o5_ g6_ o6_ 17, u36d1f a0 Ap0 cp0 a1 a2 a3 nx0 x1 x4 x5 g2_ o2_ g3_ o3_ g4_ o4_ g5_ o5_ g6_ o6_ 20, u36d1f a0 Ap0 cp0 a1 a2 a3 nx0 x1 x4 x5 g2_ o2_ g3_ o3_ g4_ o4_ g5_ o5_ g6_ o6_ 27, u36d1f a0 Ap0 cp0 a1 a2 a3 nx0 x1 x4 x5 g2_ o2_ g3_ o3_ g4_ o4_ g5_ o5_ g6_ o6_ 30, u36d1f a0 Ap0 cp0 a1 a2 a3 nx0 x1 x4 x5 g2_ o2_ g3_ o3_ g4_ o4_ g5_ o5_ g6_ o6_ 35, u36d1f a0 Ap0 cp0 a1 a2 a3 nx0 x1 x4 x5 g2_ o2_ g3_ o3_ g4_ o4_ g5_ o5_ g6_ o6_ 40] (framesOk.cons (fun u => rfl) (framesOk.cons (fun u => rfl) (framesOk.cons (fun u => rfl) (framesOk.cons (fun u => rfl) (framesOk.cons (fun u => rfl) (framesOk.cons (fun u => rfl) (framesOk.cons (fun u => rfl) (framesOk.cons (fun u => rfl) (framesOk.cons (fun u => rfl) framesOk.nil))))))))) ?_ ?_
               ·refine LoudsG.nil
               ·refine Givens.cons (fun u w =>  ?_) (fun _ _ _ => rfl) (Givens.cons (fun u w =>  ?_) (fun _ _ _ => rfl) (Givens.cons (fun u w =>  ?_) (fun _ _ _ => rfl) (Givens.cons (fun u w =>  ?_) (fun _ _ _ => rfl) (Givens.cons (fun u w =>  ?_) (fun _ _ _ => rfl) (Givens.cons (fun u w =>  ?_) (fun _ _ _ => rfl) (Givens.cons (fun u w =>  ?_) (fun _ _ _ => rfl) (Givens.cons (fun u w =>  ?_) (fun _ _ _ => rfl) (Givens.cons (fun u w =>  ?_) (fun _ _ _ => rfl) (Givens.nil)))))))))
                ·exact giv_idx (T := 22) (e := 32) 8 .i64 x5 hA2_ a0.length cp0 (by kernel_rfl) (by kernel_rfl) (by kernel_rfl) hi0_1 hi1_1 w
                ·exact giv_run (v := .bool (((a0.getD (x5).toNat z32).f0) == a3)) (by kernel_rfl) (by rw [hb1]; try rfl) w
                ·exact giv_idx (T := 22) (e := 32) 8 .i64 x5 hA3_ a0.length cp0 (by kernel_rfl) (by kernel_rfl) (by kernel_rfl) hi0_2 hi1_2 w
                ·exact giv_run (v := .bool (((a0.getD (x5).toNat z32).f2) == a2.f0)) (by kernel_rfl) (by rw [hb2]; try rfl) w
                ·exact giv_idx (T := 22) (e := 32) 8 .i64 x5 hA4_ a0.length cp0 (by kernel_rfl) (by kernel_rfl) (by kernel_rfl) hi0_3 hi1_3 w
                ·exact giv_run (v := .bool (((a0.getD (x5).toNat z32).f3) == a2.f1)) (by kernel_rfl) (by rw [hb3]; try rfl) w
                ·exact giv_idx (T := 22) (e := 32) 8 .i64 x5 hA5_ a0.length cp0 (by kernel_rfl) (by kernel_rfl) (by kernel_rfl) hi0_4 hi1_4 w
                ·exact giv_idx (T := 22) (e := 32) 8 .i64 x1 hA6_ a0.length cp0 (by kernel_rfl) (by kernel_rfl) (by kernel_rfl) hi0_5 hi1_5 w
                ·exact giv_run (v := .bool (((a0.getD (x5).toNat z32).f4) == ((a0.getD (x1).toNat z32).f4))) (by kernel_rfl) (by rw [hb4]; try rfl) w
               intro u I10 nx10 hi10 hF
               clear hF
               refine RL.norm (K' := ((104, .int .i64 x5) :: (103, .int .i64 a1) :: (102, .slice Ap0 a0.length cp0) :: (101, .bool true) :: (100, .bool (((a0.getD (x5).toNat z32).f4) == ((a0.getD (x1).toNat z32).f4))) :: (99, .bool (((a0.getD (x5).toNat z32).f4) == ((a0.getD (x1).toNat z32).f4))) :: (98, .int .u32 ((a0.getD (x1).toNat z32).f4)) :: (97, .pointer (some ⟨g6_, o6_ + (x1).toNat * 8 + 4, none⟩)) :: (96, .pointer (some ⟨g6_, o6_ + (x1).toNat * 8, none⟩)) :: (95, .int .i64 x1) :: (94, .slice Ap0 a0.length cp0) :: (93, .int .u32 ((a0.getD (x5).toNat z32).f4)) :: (92, .pointer (some ⟨g5_, o5_ + (x5).toNat * 8 + 4, none⟩)) :: (91, .pointer (some ⟨g5_, o5_ + (x5).toNat * 8, none⟩)) :: (90, .int .i64 x5) :: (89, .slice Ap0 a0.length cp0) :: (88, .bool true) :: (87, .bool (((a0.getD (x5).toNat z32).f3) == a2.f1)) :: (86, .bool (((a0.getD (x5).toNat z32).f3) == a2.f1)) :: (85, .int .i64 a2.f1) :: (84, .pointer (some ⟨nx0, 1, none⟩)) :: (83, .int .i64 ((a0.getD (x5).toNat z32).f3)) :: (82, .pointer (some ⟨g4_, o4_ + (x5).toNat * 8 + 3, none⟩)) :: (81, .pointer (some ⟨g4_, o4_ + (x5).toNat * 8, none⟩)) :: (80, .int .i64 x5) :: (79, .slice Ap0 a0.length cp0) :: (78, .bool true) :: (77, .bool (((a0.getD (x5).toNat z32).f2) == a2.f0)) :: (76, .bool (((a0.getD (x5).toNat z32).f2) == a2.f0)) :: (75, .int .i64 a2.f0) :: (74, .pointer (some ⟨nx0, 0, none⟩)) :: (73, .int .i64 ((a0.getD (x5).toNat z32).f2)) :: (72, .pointer (some ⟨g3_, o3_ + (x5).toNat * 8 + 2, none⟩)) :: (71, .pointer (some ⟨g3_, o3_ + (x5).toNat * 8, none⟩)) :: (70, .int .i64 x5) :: (69, .slice Ap0 a0.length cp0) :: (68, .bool true) :: (67, .bool (((a0.getD (x5).toNat z32).f0) == a3)) :: (66, .int .i64 a3) :: (65, .int .i64 ((a0.getD (x5).toNat z32).f0)) :: (64, .pointer (some ⟨g2_, o2_ + (x5).toNat * 8, none⟩)) :: (63, .pointer (some ⟨g2_, o2_ + (x5).toNat * 8, none⟩)) :: (62, .int .i64 x5) :: (61, .slice Ap0 a0.length cp0) :: (58, .bool (decide (x5 < (a0.length : Int)))) :: (0, .slice Ap0 a0.length cp0) :: (1, .int .i64 a1) :: (3, .int .i64 a3) :: (6, .pointer (some ⟨nx0, 0, none⟩)) :: (10, .int .i64 x1) :: (11, .int .i64 x4) :: (12, .int .i64 x5) :: [])) (X' := []) (by kernel_rfl) rfl rfl rfl ?_
               obtain ⟨t2, hA2, H⟩ := Option.bind_eq_some_iff.mp H
               refine RL.callP 46 [.slice Ap0 a0.length cp0, .int .i64 a1, .int .i64 x5] (some 105) (fun w => armillaryref29_counts.Post I10 w t2) (by kernel_rfl) (by kernel_rfl) (fun w hs => armillaryref29_counts.calls kq2 I10 a0 Ap0 cp0 a1 x5 w hs.im hlp0 (Rd.ext (Imm.le_trans (Imm.le_trans (Imm.le_trans hi2 hi4) hi7) hi10) hrp0) t2 hA2) ?_
               rintro w v w' hs ⟨I11, rfl, hg⟩
               have hi11 := hg.le
               refine RL.resume (X' := []) rfl (hs.call hg) ?_
               clear hs hg
               generalize w'.heap.size = nx11
               clear w w'
               refine RL.simK (K' := [(106, .bool t2), (0, .slice Ap0 a0.length cp0), (1, .int .i64 a1), (3, .int .i64 a3), (6, .pointer (some ⟨nx0, 0, none⟩)), (10, .int .i64 x1), (11, .int .i64 x4), (12, .int .i64 x5)]) [] (RFacts.nil _ _ _) 1 [.no] (by kernel_rfl) (by kernel_rfl) ?_
               refine RL.nil (by kernel_rfl) ?_
               obtain rfl := Option.some.inj H
               refine QN.sub (K' := [(0, .slice Ap0 a0.length cp0), (1, .int .i64 a1), (3, .int .i64 a3), (6, .pointer (some ⟨nx0, 0, none⟩)), (10, .int .i64 x1), (11, .int .i64 x4), (12, .int .i64 x5), (106, .bool t2)]) (L' := [⟨nx0, [.int .i64 a2.f0, .int .i64 a2.f1], 24⟩]) (by kernel_rfl) (.cons_cons _ .slnil) (.refl _) ?_
               exact hJ7 _ _ _ _ _ ⟨t2, rfl, rfl, rfl, (Imm.le_trans hi10 hi11), HK5⟩
              ·have hc4 := (beq_eq_false_iff_ne.1 hb4)
               rw [if_neg hc4] at H
               refine OK.drawnC 9 44 O36_44 a36_44n (by kernel_rfl) (by kernel_rfl) u36d2l (u36d2g x1 x5 g2_ o2_ g3_ o3_ g4_ o4_ g5_ o5_ g6_ o6_) [(⟨g2_, o2_ + (x5).toNat * 8, none⟩, .int .i64 ((a0.getD (x5).toNat z32).f0)), (⟨g3_, o3_ + (x5).toNat * 8 + 2, none⟩, .int .i64 ((a0.getD (x5).toNat z32).f2)), (⟨g4_, o4_ + (x5).toNat * 8 + 3, none⟩, .int .i64 ((a0.getD (x5).toNat z32).f3)), (⟨g5_, o5_ + (x5).toNat * 8 + 4, none⟩, .int .u32 ((a0.getD (x5).toNat z32).f4)), (⟨g6_, o6_ + (x1).toNat * 8 + 4, none⟩, .int .u32 ((a0.getD (x1).toNat z32).f4))] (RI.cons (hc2_ 0 _ rfl) (RI.cons (hc3_ 2 _ rfl) (RI.cons (hc4_ 3 _ rfl) (RI.cons (hc5_ 4 _ rfl) (RI.cons (hc6_ 4 _ rfl) (RI.nil _)))))) (.no :: .no :: .no :: .no :: .r 0 :: .no :: .no :: .no :: .no :: .no :: .no :: .no :: .r 1 :: .no :: .l 0 :: .no :: .no :: .no :: .no :: .no :: .no :: .no :: .r 2 :: .no :: .l 0 :: .no :: .no :: .no :: .no :: .no :: .no :: .no :: .r 3 :: .no :: .no :: .no :: .no :: .r 4 :: .no :: .no :: .no :: .no :: .no :: .no :: []) a36_44 a36_44o (by kernel_rfl) (by kernel_rfl) (u36d2s a0 Ap0 cp0 a2 a3 nx0 x1 x5 g2_ o2_ g3_ o3_ g4_ o4_ g5_ o5_ g6_ o6_) (u36d2f a0 Ap0 cp0 a1 a2 a3 nx0 x1 x4 x5 g2_ o2_ g3_ o3_ g4_ o4_ g5_ o5_ g6_ o6_ 44) (u36d2v a0 Ap0 cp0 a1 a2 a3 nx0 x1 x4 x5 g2_ o2_ g3_ o3_ g4_ o4_ g5_ o5_ g6_ o6_) (u36d2e a0 Ap0 cp0 a1 a2 a3 nx0 x1 x4 x5 g2_ o2_ g3_ o3_ g4_ o4_ g5_ o5_ g6_ o6_) [] framesOk.nil ?_ [u36d2f a0 Ap0 cp0 a1 a2 a3 nx0 x1 x4 x5 g2_ o2_ g3_ o3_ g4_ o4_ g5_ o5_ g6_ o6_ 2, u36d2f a0 Ap0 cp0 a1 a2 a3 nx0 x1 x4 x5 g2_ o2_ g3_ o3_ g4_ o4_ g5_ o5_ g6_ o6_ 7, u36d2f a0 Ap0 cp0 a1 a2 a3 nx0 x1 x4 x5 g2_ o2_ g3_ o3_ g4_ o4_ g5_ o5_ g6_ o6_ 10, u36d2f a0 Ap0 cp0 a1 a2 a3 nx0 x1 x4 x5 g2_ o2_ g3_ o3_ g4_ o4_ g5_ o5_ g6_ o6_ 17, u36d2f a0 Ap0 cp0 a1 a2 a3 nx0 x1 x4 x5 g2_ o2_ g3_ o3_ g4_ o4_ g5_ o5_ g6_ o6_ 20, u36d2f a0 Ap0 cp0 a1 a2 a3 nx0 x1 x4 x5 g2_ o2_ g3_ o3_ g4_ o4_ g5_ o5_ g6_ o6_ 27, u36d2f a0 Ap0 cp0 a1 a2 a3 nx0 x1 x4 x5 g2_ o2_ g3_ o3_ g4_ o4_ g5_ o5_ g6_ o6_ 30, u36d2f a0 Ap0 cp0 a1 a2 a3 nx0 x1 x4 x5 g2_ o2_ g3_ o3_ g4_ o4_ g5_ o5_ g6_ o6_ 35, u36d2f a0 Ap0 cp0 a1 a2 a3 nx0 x1 x4 x5 g2_ o2_ g3_ o3_ g4_ o4_ g5_ o5_ g6_ o6_ 40] (framesOk.cons (fun u => rfl) (framesOk.cons (fun u => rfl) (framesOk.cons (fun u => rfl) (framesOk.cons (fun u => rfl) (framesOk.cons (fun u => rfl) (framesOk.cons (fun u => rfl) (framesOk.cons (fun u => rfl) (framesOk.cons (fun u => rfl) (framesOk.cons (fun u => rfl) framesOk.nil))))))))) ?_ ?_
               ·refine LoudsG.nil
               ·refine Givens.cons (fun u w =>  ?_) (fun _ _ _ => rfl) (Givens.cons (fun u w =>  ?_) (fun _ _ _ => rfl) (Givens.cons (fun u w =>  ?_) (fun _ _ _ => rfl) (Givens.cons (fun u w =>  ?_) (fun _ _ _ => rfl) (Givens.cons (fun u w =>  ?_) (fun _ _ _ => rfl) (Givens.cons (fun u w =>  ?_) (fun _ _ _ => rfl) (Givens.cons (fun u w =>  ?_) (fun _ _ _ => rfl) (Givens.cons (fun u w =>  ?_) (fun _ _ _ => rfl) (Givens.cons (fun u w =>  ?_) (fun _ _ _ => rfl) (Givens.nil)))))))))
                ·exact giv_idx (T := 22) (e := 32) 8 .i64 x5 hA2_ a0.length cp0 (by kernel_rfl) (by kernel_rfl) (by kernel_rfl) hi0_1 hi1_1 w
                ·exact giv_run (v := .bool (((a0.getD (x5).toNat z32).f0) == a3)) (by kernel_rfl) (by rw [hb1]; try rfl) w
                ·exact giv_idx (T := 22) (e := 32) 8 .i64 x5 hA3_ a0.length cp0 (by kernel_rfl) (by kernel_rfl) (by kernel_rfl) hi0_2 hi1_2 w
                ·exact giv_run (v := .bool (((a0.getD (x5).toNat z32).f2) == a2.f0)) (by kernel_rfl) (by rw [hb2]; try rfl) w
                ·exact giv_idx (T := 22) (e := 32) 8 .i64 x5 hA4_ a0.length cp0 (by kernel_rfl) (by kernel_rfl) (by kernel_rfl) hi0_3 hi1_3 w
                ·exact giv_run (v := .bool (((a0.getD (x5).toNat z32).f3) == a2.f1)) (by kernel_rfl) (by rw [hb3]; try rfl) w
                ·exact giv_idx (T := 22) (e := 32) 8 .i64 x5 hA5_ a0.length cp0 (by kernel_rfl) (by kernel_rfl) (by kernel_rfl) hi0_4 hi1_4 w
                ·exact giv_idx (T := 22) (e := 32) 8 .i64 x1 hA6_ a0.length cp0 (by kernel_rfl) (by kernel_rfl) (by kernel_rfl) hi0_5 hi1_5 w
                ·exact giv_run (v := .bool (((a0.getD (x5).toNat z32).f4) == ((a0.getD (x1).toNat z32).f4))) (by kernel_rfl) (by rw [hb4]; try rfl) w
               intro u I12 nx12 hi12 hF
               clear hF
               refine RL.norm (K' := ((104, undef) :: (103, undef) :: (102, undef) :: (101, .bool false) :: (100, .bool (((a0.getD (x5).toNat z32).f4) == ((a0.getD (x1).toNat z32).f4))) :: (99, .bool (((a0.getD (x5).toNat z32).f4) == ((a0.getD (x1).toNat z32).f4))) :: (98, .int .u32 ((a0.getD (x1).toNat z32).f4)) :: (97, .pointer (some ⟨g6_, o6_ + (x1).toNat * 8 + 4, none⟩)) :: (96, .pointer (some ⟨g6_, o6_ + (x1).toNat * 8, none⟩)) :: (95, .int .i64 x1) :: (94, .slice Ap0 a0.length cp0) :: (93, .int .u32 ((a0.getD (x5).toNat z32).f4)) :: (92, .pointer (some ⟨g5_, o5_ + (x5).toNat * 8 + 4, none⟩)) :: (91, .pointer (some ⟨g5_, o5_ + (x5).toNat * 8, none⟩)) :: (90, .int .i64 x5) :: (89, .slice Ap0 a0.length cp0) :: (88, .bool true) :: (87, .bool (((a0.getD (x5).toNat z32).f3) == a2.f1)) :: (86, .bool (((a0.getD (x5).toNat z32).f3) == a2.f1)) :: (85, .int .i64 a2.f1) :: (84, .pointer (some ⟨nx0, 1, none⟩)) :: (83, .int .i64 ((a0.getD (x5).toNat z32).f3)) :: (82, .pointer (some ⟨g4_, o4_ + (x5).toNat * 8 + 3, none⟩)) :: (81, .pointer (some ⟨g4_, o4_ + (x5).toNat * 8, none⟩)) :: (80, .int .i64 x5) :: (79, .slice Ap0 a0.length cp0) :: (78, .bool true) :: (77, .bool (((a0.getD (x5).toNat z32).f2) == a2.f0)) :: (76, .bool (((a0.getD (x5).toNat z32).f2) == a2.f0)) :: (75, .int .i64 a2.f0) :: (74, .pointer (some ⟨nx0, 0, none⟩)) :: (73, .int .i64 ((a0.getD (x5).toNat z32).f2)) :: (72, .pointer (some ⟨g3_, o3_ + (x5).toNat * 8 + 2, none⟩)) :: (71, .pointer (some ⟨g3_, o3_ + (x5).toNat * 8, none⟩)) :: (70, .int .i64 x5) :: (69, .slice Ap0 a0.length cp0) :: (68, .bool true) :: (67, .bool (((a0.getD (x5).toNat z32).f0) == a3)) :: (66, .int .i64 a3) :: (65, .int .i64 ((a0.getD (x5).toNat z32).f0)) :: (64, .pointer (some ⟨g2_, o2_ + (x5).toNat * 8, none⟩)) :: (63, .pointer (some ⟨g2_, o2_ + (x5).toNat * 8, none⟩)) :: (62, .int .i64 x5) :: (61, .slice Ap0 a0.length cp0) :: (58, .bool (decide (x5 < (a0.length : Int)))) :: (0, .slice Ap0 a0.length cp0) :: (1, .int .i64 a1) :: (3, .int .i64 a3) :: (6, .pointer (some ⟨nx0, 0, none⟩)) :: (10, .int .i64 x1) :: (11, .int .i64 x4) :: (12, .int .i64 x5) :: [])) (X' := []) (by kernel_rfl) rfl rfl rfl ?_
               refine RL.simK (K' := [(106, .bool false), (0, .slice Ap0 a0.length cp0), (1, .int .i64 a1), (3, .int .i64 a3), (6, .pointer (some ⟨nx0, 0, none⟩)), (10, .int .i64 x1), (11, .int .i64 x4), (12, .int .i64 x5)]) [] (RFacts.nil _ _ _) 2 [.no, .no] (by kernel_rfl) (by kernel_rfl) ?_
               refine RL.nil (by kernel_rfl) ?_
               obtain rfl := Option.some.inj H
               refine QN.sub (K' := [(0, .slice Ap0 a0.length cp0), (1, .int .i64 a1), (3, .int .i64 a3), (6, .pointer (some ⟨nx0, 0, none⟩)), (10, .int .i64 x1), (11, .int .i64 x4), (12, .int .i64 x5), (106, .bool false)]) (L' := [⟨nx0, [.int .i64 a2.f0, .int .i64 a2.f1], 24⟩]) (by kernel_rfl) (.cons_cons _ .slnil) (.refl _) ?_
               exact hJ7 _ _ _ _ _ ⟨false, rfl, rfl, rfl, hi12, HK5⟩
             ·have hc3 := (beq_eq_false_iff_ne.1 hb3)
              rw [if_neg hc3] at H
              refine OK.drawnC 9 44 O36_44 a36_44n (by kernel_rfl) (by kernel_rfl) u36d3l (u36d3g x5 g2_ o2_ g3_ o3_ g4_ o4_) [(⟨g2_, o2_ + (x5).toNat * 8, none⟩, .int .i64 ((a0.getD (x5).toNat z32).f0)), (⟨g3_, o3_ + (x5).toNat * 8 + 2, none⟩, .int .i64 ((a0.getD (x5).toNat z32).f2)), (⟨g4_, o4_ + (x5).toNat * 8 + 3, none⟩, .int .i64 ((a0.getD (x5).toNat z32).f3))] (RI.cons (hc2_ 0 _ rfl) (RI.cons (hc3_ 2 _ rfl) (RI.cons (hc4_ 3 _ rfl) (RI.nil _)))) (.no :: .no :: .no :: .no :: .r 0 :: .no :: .no :: .no :: .no :: .no :: .no :: .no :: .r 1 :: .no :: .l 0 :: .no :: .no :: .no :: .no :: .no :: .no :: .no :: .r 2 :: .no :: .l 0 :: .no :: .no :: .no :: .no :: .no :: .no :: .no :: .no :: .no :: .no :: .no :: .no :: .no :: .no :: .no :: .no :: .no :: .no :: .no :: []) a36_44 a36_44o (by kernel_rfl) (by kernel_rfl) (u36d3s a0 Ap0 cp0 a2 a3 nx0 x5 g2_ o2_ g3_ o3_ g4_ o4_) (u36d3f a0 Ap0 cp0 a1 a2 a3 nx0 x1 x4 x5 g2_ o2_ g3_ o3_ g4_ o4_ 44) (u36d3v a0 Ap0 cp0 a1 a2 a3 nx0 x1 x4 x5 g2_ o2_ g3_ o3_ g4_ o4_) (u36d3e a0 Ap0 cp0 a1 a2 a3 nx0 x1 x4 x5 g2_ o2_ g3_ o3_ g4_ o4_) [] framesOk.nil ?_ [u36d3f a0 Ap0 cp0 a1 a2 a3 nx0 x1 x4 x5 g2_ o2_ g3_ o3_ g4_ o4_ 2, u36d3f a0 Ap0 cp0 a1 a2 a3 nx0 x1 x4 x5 g2_ o2_ g3_ o3_ g4_ o4_ 7, u36d3f a0 Ap0 cp0 a1 a2 a3 nx0 x1 x4 x5 g2_ o2_ g3_ o3_ g4_ o4_ 10, u36d3f a0 Ap0 cp0 a1 a2 a3 nx0 x1 x4 x5 g2_ o2_ g3_ o3_ g4_ o4_ 17, u36d3f a0 Ap0 cp0 a1 a2 a3 nx0 x1 x4 x5 g2_ o2_ g3_ o3_ g4_ o4_ 20, u36d3f a0 Ap0 cp0 a1 a2 a3 nx0 x1 x4 x5 g2_ o2_ g3_ o3_ g4_ o4_ 27] (framesOk.cons (fun u => rfl) (framesOk.cons (fun u => rfl) (framesOk.cons (fun u => rfl) (framesOk.cons (fun u => rfl) (framesOk.cons (fun u => rfl) (framesOk.cons (fun u => rfl) framesOk.nil)))))) ?_ ?_
              ·refine LoudsG.nil
              ·refine Givens.cons (fun u w =>  ?_) (fun _ _ _ => rfl) (Givens.cons (fun u w =>  ?_) (fun _ _ _ => rfl) (Givens.cons (fun u w =>  ?_) (fun _ _ _ => rfl) (Givens.cons (fun u w =>  ?_) (fun _ _ _ => rfl) (Givens.cons (fun u w =>  ?_) (fun _ _ _ => rfl) (Givens.cons (fun u w =>  ?_) (fun _ _ _ => rfl) (Givens.nil))))))
               ·exact giv_idx (T := 22) (e := 32) 8 .i64 x5 hA2_ a0.length cp0 (by kernel_rfl) (by kernel_rfl) (by kernel_rfl) hi0_1 hi1_1 w
               ·exact giv_run (v := .bool (((a0.getD (x5).toNat z32).f0) == a3)) (by kernel_rfl) (by rw [hb1]; try rfl) w
               ·exact giv_idx (T := 22) (e := 32) 8 .i64 x5 hA3_ a0.length cp0 (by kernel_rfl) (by kernel_rfl) (by kernel_rfl) hi0_2 hi1_2 w
               ·exact giv_run (v := .bool (((a0.getD (x5).toNat z32).f2) == a2.f0)) (by kernel_rfl) (by rw [hb2]; try rfl) w
               ·exact giv_idx (T := 22) (e := 32) 8 .i64 x5 hA4_ a0.length cp0 (by kernel_rfl) (by kernel_rfl) (by kernel_rfl) hi0_3 hi1_3 w
               ·exact giv_run (v := .bool (((a0.getD (x5).toNat z32).f3) == a2.f1)) (by kernel_rfl) (by rw [hb3]; try rfl) w
              intro u I13 nx13 hi13 hF
              clear hF
              refine RL.norm (K' := ((104, undef) :: (103, undef) :: (102, undef) :: (101, .bool false) :: (100, .bool false) :: (99, undef) :: (98, undef) :: (97, undef) :: (96, undef) :: (95, undef) :: (94, undef) :: (93, undef) :: (92, undef) :: (91, undef) :: (90, undef) :: (89, undef) :: (88, .bool false) :: (87, .bool (((a0.getD (x5).toNat z32).f3) == a2.f1)) :: (86, .bool (((a0.getD (x5).toNat z32).f3) == a2.f1)) :: (85, .int .i64 a2.f1) :: (84, .pointer (some ⟨nx0, 1, none⟩)) :: (83, .int .i64 ((a0.getD (x5).toNat z32).f3)) :: (82, .pointer (some ⟨g4_, o4_ + (x5).toNat * 8 + 3, none⟩)) :: (81, .pointer (some ⟨g4_, o4_ + (x5).toNat * 8, none⟩)) :: (80, .int .i64 x5) :: (79, .slice Ap0 a0.length cp0) :: (78, .bool true) :: (77, .bool (((a0.getD (x5).toNat z32).f2) == a2.f0)) :: (76, .bool (((a0.getD (x5).toNat z32).f2) == a2.f0)) :: (75, .int .i64 a2.f0) :: (74, .pointer (some ⟨nx0, 0, none⟩)) :: (73, .int .i64 ((a0.getD (x5).toNat z32).f2)) :: (72, .pointer (some ⟨g3_, o3_ + (x5).toNat * 8 + 2, none⟩)) :: (71, .pointer (some ⟨g3_, o3_ + (x5).toNat * 8, none⟩)) :: (70, .int .i64 x5) :: (69, .slice Ap0 a0.length cp0) :: (68, .bool true) :: (67, .bool (((a0.getD (x5).toNat z32).f0) == a3)) :: (66, .int .i64 a3) :: (65, .int .i64 ((a0.getD (x5).toNat z32).f0)) :: (64, .pointer (some ⟨g2_, o2_ + (x5).toNat * 8, none⟩)) :: (63, .pointer (some ⟨g2_, o2_ + (x5).toNat * 8, none⟩)) :: (62, .int .i64 x5) :: (61, .slice Ap0 a0.length cp0) :: (58, .bool (decide (x5 < (a0.length : Int)))) :: (0, .slice Ap0 a0.length cp0) :: (1, .int .i64 a1) :: (3, .int .i64 a3) :: (6, .pointer (some ⟨nx0, 0, none⟩)) :: (10, .int .i64 x1) :: (11, .int .i64 x4) :: (12, .int .i64 x5) :: [])) (X' := []) (by kernel_rfl) rfl rfl rfl ?_
              refine RL.simK (K' := [(106, .bool false), (0, .slice Ap0 a0.length cp0), (1, .int .i64 a1), (3, .int .i64 a3), (6, .pointer (some ⟨nx0, 0, none⟩)), (10, .int .i64 x1), (11, .int .i64 x4), (12, .int .i64 x5)]) [] (RFacts.nil _ _ _) 2 [.no, .no] (by kernel_rfl) (by kernel_rfl) ?_
              refine RL.nil (by kernel_rfl) ?_
              obtain rfl := Option.some.inj H
              refine QN.sub (K' := [(0, .slice Ap0 a0.length cp0), (1, .int .i64 a1), (3, .int .i64 a3), (6, .pointer (some ⟨nx0, 0, none⟩)), (10, .int .i64 x1), (11, .int .i64 x4), (12, .int .i64 x5), (106, .bool false)]) (L' := [⟨nx0, [.int .i64 a2.f0, .int .i64 a2.f1], 24⟩]) (by kernel_rfl) (.cons_cons _ .slnil) (.refl _) ?_
              exact hJ7 _ _ _ _ _ ⟨false, rfl, rfl, rfl, hi13, HK5⟩
            ·have hc2 := (beq_eq_false_iff_ne.1 hb2)
             rw [if_neg hc2] at H
             refine OK.drawnC 9 44 O36_44 a36_44n (by kernel_rfl) (by kernel_rfl) u36d4l (u36d4g x5 g2_ o2_ g3_ o3_) [(⟨g2_, o2_ + (x5).toNat * 8, none⟩, .int .i64 ((a0.getD (x5).toNat z32).f0)), (⟨g3_, o3_ + (x5).toNat * 8 + 2, none⟩, .int .i64 ((a0.getD (x5).toNat z32).f2))] (RI.cons (hc2_ 0 _ rfl) (RI.cons (hc3_ 2 _ rfl) (RI.nil _))) (.no :: .no :: .no :: .no :: .r 0 :: .no :: .no :: .no :: .no :: .no :: .no :: .no :: .r 1 :: .no :: .l 0 :: .no :: .no :: .no :: .no :: .no :: .no :: .no :: .no :: .no :: .no :: .no :: .no :: .no :: .no :: .no :: .no :: .no :: .no :: .no :: .no :: .no :: .no :: .no :: .no :: .no :: .no :: .no :: .no :: .no :: []) a36_44 a36_44o (by kernel_rfl) (by kernel_rfl) (u36d4s a0 Ap0 cp0 a2 a3 nx0 x5 g2_ o2_ g3_ o3_) (u36d4f a0 Ap0 cp0 a1 a2 a3 nx0 x1 x4 x5 g2_ o2_ g3_ o3_ 44) (u36d4v a0 Ap0 cp0 a1 a2 a3 nx0 x1 x4 x5 g2_ o2_ g3_ o3_) (u36d4e a0 Ap0 cp0 a1 a2 a3 nx0 x1 x4 x5 g2_ o2_ g3_ o3_) [] framesOk.nil ?_ [u36d4f a0 Ap0 cp0 a1 a2 a3 nx0 x1 x4 x5 g2_ o2_ g3_ o3_ 2, u36d4f a0 Ap0 cp0 a1 a2 a3 nx0 x1 x4 x5 g2_ o2_ g3_ o3_ 7, u36d4f a0 Ap0 cp0 a1 a2 a3 nx0 x1 x4 x5 g2_ o2_ g3_ o3_ 10, u36d4f a0 Ap0 cp0 a1 a2 a3 nx0 x1 x4 x5 g2_ o2_ g3_ o3_ 17] (framesOk.cons (fun u => rfl) (framesOk.cons (fun u => rfl) (framesOk.cons (fun u => rfl) (framesOk.cons (fun u => rfl) framesOk.nil)))) ?_ ?_
             ·refine LoudsG.nil
             ·refine Givens.cons (fun u w =>  ?_) (fun _ _ _ => rfl) (Givens.cons (fun u w =>  ?_) (fun _ _ _ => rfl) (Givens.cons (fun u w =>  ?_) (fun _ _ _ => rfl) (Givens.cons (fun u w =>  ?_) (fun _ _ _ => rfl) (Givens.nil))))
              ·exact giv_idx (T := 22) (e := 32) 8 .i64 x5 hA2_ a0.length cp0 (by kernel_rfl) (by kernel_rfl) (by kernel_rfl) hi0_1 hi1_1 w
              ·exact giv_run (v := .bool (((a0.getD (x5).toNat z32).f0) == a3)) (by kernel_rfl) (by rw [hb1]; try rfl) w
              ·exact giv_idx (T := 22) (e := 32) 8 .i64 x5 hA3_ a0.length cp0 (by kernel_rfl) (by kernel_rfl) (by kernel_rfl) hi0_2 hi1_2 w
              ·exact giv_run (v := .bool (((a0.getD (x5).toNat z32).f2) == a2.f0)) (by kernel_rfl) (by rw [hb2]; try rfl) w
             intro u I14 nx14 hi14 hF
             clear hF
             refine RL.norm (K' := ((104, undef) :: (103, undef) :: (102, undef) :: (101, .bool false) :: (100, .bool false) :: (99, undef) :: (98, undef) :: (97, undef) :: (96, undef) :: (95, undef) :: (94, undef) :: (93, undef) :: (92, undef) :: (91, undef) :: (90, undef) :: (89, undef) :: (88, .bool false) :: (87, .bool false) :: (86, undef) :: (85, undef) :: (84, undef) :: (83, undef) :: (82, undef) :: (81, undef) :: (80, undef) :: (79, undef) :: (78, .bool false) :: (77, .bool (((a0.getD (x5).toNat z32).f2) == a2.f0)) :: (76, .bool (((a0.getD (x5).toNat z32).f2) == a2.f0)) :: (75, .int .i64 a2.f0) :: (74, .pointer (some ⟨nx0, 0, none⟩)) :: (73, .int .i64 ((a0.getD (x5).toNat z32).f2)) :: (72, .pointer (some ⟨g3_, o3_ + (x5).toNat * 8 + 2, none⟩)) :: (71, .pointer (some ⟨g3_, o3_ + (x5).toNat * 8, none⟩)) :: (70, .int .i64 x5) :: (69, .slice Ap0 a0.length cp0) :: (68, .bool true) :: (67, .bool (((a0.getD (x5).toNat z32).f0) == a3)) :: (66, .int .i64 a3) :: (65, .int .i64 ((a0.getD (x5).toNat z32).f0)) :: (64, .pointer (some ⟨g2_, o2_ + (x5).toNat * 8, none⟩)) :: (63, .pointer (some ⟨g2_, o2_ + (x5).toNat * 8, none⟩)) :: (62, .int .i64 x5) :: (61, .slice Ap0 a0.length cp0) :: (58, .bool (decide (x5 < (a0.length : Int)))) :: (0, .slice Ap0 a0.length cp0) :: (1, .int .i64 a1) :: (3, .int .i64 a3) :: (6, .pointer (some ⟨nx0, 0, none⟩)) :: (10, .int .i64 x1) :: (11, .int .i64 x4) :: (12, .int .i64 x5) :: [])) (X' := []) (by kernel_rfl) rfl rfl rfl ?_
             refine RL.simK (K' := [(106, .bool false), (0, .slice Ap0 a0.length cp0), (1, .int .i64 a1), (3, .int .i64 a3), (6, .pointer (some ⟨nx0, 0, none⟩)), (10, .int .i64 x1), (11, .int .i64 x4), (12, .int .i64 x5)]) [] (RFacts.nil _ _ _) 2 [.no, .no] (by kernel_rfl) (by kernel_rfl) ?_
             refine RL.nil (by kernel_rfl) ?_
             obtain rfl := Option.some.inj H
             refine QN.sub (K' := [(0, .slice Ap0 a0.length cp0), (1, .int .i64 a1), (3, .int .i64 a3), (6, .pointer (some ⟨nx0, 0, none⟩)), (10, .int .i64 x1), (11, .int .i64 x4), (12, .int .i64 x5), (106, .bool false)]) (L' := [⟨nx0, [.int .i64 a2.f0, .int .i64 a2.f1], 24⟩]) (by kernel_rfl) (.cons_cons _ .slnil) (.refl _) ?_
             exact hJ7 _ _ _ _ _ ⟨false, rfl, rfl, rfl, hi14, HK5⟩
           ·have hc1 := (beq_eq_false_iff_ne.1 hb1)
            rw [if_neg hc1] at H
            refine OK.drawnC 9 44 O36_44 a36_44n (by kernel_rfl) (by kernel_rfl) u36d5l (u36d5g x5 g2_ o2_) [(⟨g2_, o2_ + (x5).toNat * 8, none⟩, .int .i64 ((a0.getD (x5).toNat z32).f0))] (RI.cons (hc2_ 0 _ rfl) (RI.nil _)) (.no :: .no :: .no :: .no :: .r 0 :: .no :: .no :: .no :: .no :: .no :: .no :: .no :: .no :: .no :: .no :: .no :: .no :: .no :: .no :: .no :: .no :: .no :: .no :: .no :: .no :: .no :: .no :: .no :: .no :: .no :: .no :: .no :: .no :: .no :: .no :: .no :: .no :: .no :: .no :: .no :: .no :: .no :: .no :: .no :: []) a36_44 a36_44o (by kernel_rfl) (by kernel_rfl) (u36d5s a0 Ap0 cp0 a3 x5 g2_ o2_) (u36d5f a0 Ap0 cp0 a1 a3 nx0 x1 x4 x5 g2_ o2_ 44) (u36d5v a0 Ap0 cp0 a1 a2 a3 nx0 x1 x4 x5 g2_ o2_) (u36d5e a0 Ap0 cp0 a1 a2 a3 nx0 x1 x4 x5 g2_ o2_) [] framesOk.nil ?_ [u36d5f a0 Ap0 cp0 a1 a3 nx0 x1 x4 x5 g2_ o2_ 2, u36d5f a0 Ap0 cp0 a1 a3 nx0 x1 x4 x5 g2_ o2_ 7] (framesOk.cons (fun u => rfl) (framesOk.cons (fun u => rfl) framesOk.nil)) ?_ ?_
            ·refine LoudsG.nil
            ·refine Givens.cons (fun u w =>  ?_) (fun _ _ _ => rfl) (Givens.cons (fun u w =>  ?_) (fun _ _ _ => rfl) (Givens.nil))
             ·exact giv_idx (T := 22) (e := 32) 8 .i64 x5 hA2_ a0.length cp0 (by kernel_rfl) (by kernel_rfl) (by kernel_rfl) hi0_1 hi1_1 w
             ·exact giv_run (v := .bool (((a0.getD (x5).toNat z32).f0) == a3)) (by kernel_rfl) (by rw [hb1]; try rfl) w
            intro u I15 nx15 hi15 hF
            clear hF
            refine RL.norm (K' := ((104, undef) :: (103, undef) :: (102, undef) :: (101, .bool false) :: (100, .bool false) :: (99, undef) :: (98, undef) :: (97, undef) :: (96, undef) :: (95, undef) :: (94, undef) :: (93, undef) :: (92, undef) :: (91, undef) :: (90, undef) :: (89, undef) :: (88, .bool false) :: (87, .bool false) :: (86, undef) :: (85, undef) :: (84, undef) :: (83, undef) :: (82, undef) :: (81, undef) :: (80, undef) :: (79, undef) :: (78, .bool false) :: (77, .bool false) :: (76, undef) :: (75, undef) :: (74, undef) :: (73, undef) :: (72, undef) :: (71, undef) :: (70, undef) :: (69, undef) :: (68, .bool false) :: (67, .bool (((a0.getD (x5).toNat z32).f0) == a3)) :: (66, .int .i64 a3) :: (65, .int .i64 ((a0.getD (x5).toNat z32).f0)) :: (64, .pointer (some ⟨g2_, o2_ + (x5).toNat * 8, none⟩)) :: (63, .pointer (some ⟨g2_, o2_ + (x5).toNat * 8, none⟩)) :: (62, .int .i64 x5) :: (61, .slice Ap0 a0.length cp0) :: (58, .bool (decide (x5 < (a0.length : Int)))) :: (0, .slice Ap0 a0.length cp0) :: (1, .int .i64 a1) :: (3, .int .i64 a3) :: (6, .pointer (some ⟨nx0, 0, none⟩)) :: (10, .int .i64 x1) :: (11, .int .i64 x4) :: (12, .int .i64 x5) :: [])) (X' := []) (by kernel_rfl) rfl rfl rfl ?_
            refine RL.simK (K' := [(106, .bool false), (0, .slice Ap0 a0.length cp0), (1, .int .i64 a1), (3, .int .i64 a3), (6, .pointer (some ⟨nx0, 0, none⟩)), (10, .int .i64 x1), (11, .int .i64 x4), (12, .int .i64 x5)]) [] (RFacts.nil _ _ _) 2 [.no, .no] (by kernel_rfl) (by kernel_rfl) ?_
            refine RL.nil (by kernel_rfl) ?_
            obtain rfl := Option.some.inj H
            refine QN.sub (K' := [(0, .slice Ap0 a0.length cp0), (1, .int .i64 a1), (3, .int .i64 a3), (6, .pointer (some ⟨nx0, 0, none⟩)), (10, .int .i64 x1), (11, .int .i64 x4), (12, .int .i64 x5), (106, .bool false)]) (L' := [⟨nx0, [.int .i64 a2.f0, .int .i64 a2.f1], 24⟩]) (by kernel_rfl) (.cons_cons _ .slnil) (.refl _) ?_
            exact hJ7 _ _ _ _ _ ⟨false, rfl, rfl, rfl, hi15, HK5⟩
         ·skip
          have hc := (of_decide_eq_false hb)
          rw [if_neg hc] at H
          clear hb
          refine OK.exit 2 (by kernel_rfl) ?_
          refine QN.thenE ?_
          refine QN.outE hQ6 ?_
          refine QN.blkE ?_
          obtain rfl := Option.some.inj H
          refine QN.sub (K' := [(0, .slice Ap0 a0.length cp0), (1, .int .i64 a1), (3, .int .i64 a3), (6, .pointer (some ⟨nx0, 0, none⟩)), (10, .int .i64 x1), (11, .int .i64 x4)]) (L' := [⟨nx0, [.int .i64 a2.f0, .int .i64 a2.f1], 24⟩]) (by kernel_rfl) (.cons_cons _ .slnil) (.refl _) ?_
          exact hJ5 _ _ _ _ _ ⟨x4, rfl, rfl, rfl, hi7, HK4⟩
     ·intro Q_6 hJ4 hQ4
      obtain ⟨y3, H, HK3⟩ := Option.bind_eq_some_iff.mp H
      by_cases hi0_6 : 0 ≤ x1
      case neg => rw [if_neg hi0_6] at H; cases H
      rw [if_pos hi0_6] at H
      by_cases hi1_6 : x1 < (a0.length : Int)
      case neg => rw [if_neg hi1_6] at H; cases H
      rw [if_pos hi1_6] at H
      obtain ⟨g7_, o7_, hA7_, A7_5_2_, c7_5_2_, hl7_5_2_, hr7_5_2_, hc7_⟩ := t32_at (Rd.ext hi2 hrp0) x1 hi0_6 hi1_6
      refine OK.cases (((a0.getD (x1).toNat z32).f0) != a3) (fun hb5 => ?_) (fun hb5 => ?_)
      ·have hc5 := (bne_iff_ne.1 hb5)
       rw [if_pos hc5] at H
       refine OK.drawnC 4 33 O36_20 a36_20n (by kernel_rfl) (by kernel_rfl) u36d6l (u36d6g x1 g7_ o7_) [(⟨g7_, o7_ + (x1).toNat * 8, none⟩, .int .i64 ((a0.getD (x1).toNat z32).f0))] (RI.cons (hc7_ 0 _ rfl) (RI.nil _)) (.no :: .no :: .no :: .no :: .r 0 :: .no :: .no :: .no :: .no :: .no :: .no :: .no :: .no :: .no :: .no :: .no :: .no :: .no :: .no :: .no :: .no :: .no :: .no :: .no :: .no :: .no :: .no :: .no :: .no :: .no :: .no :: .no :: .no :: []) a36_20 a36_20o (by kernel_rfl) (by kernel_rfl) (u36d6s a0 Ap0 cp0 a3 x1 g7_ o7_) (u36d6f a0 Ap0 cp0 a1 a3 nx0 x1 g7_ o7_ 33) (u36d6v a0 Ap0 cp0 a1 a2 a3 nx0 x1 g7_ o7_) (u36d6e a0 Ap0 cp0 a1 a2 a3 nx0 x1 g7_ o7_) [] framesOk.nil ?_ [u36d6f a0 Ap0 cp0 a1 a3 nx0 x1 g7_ o7_ 2, u36d6f a0 Ap0 cp0 a1 a3 nx0 x1 g7_ o7_ 7] (framesOk.cons (fun u => rfl) (framesOk.cons (fun u => rfl) framesOk.nil)) ?_ ?_
       ·refine LoudsG.nil
       ·refine Givens.cons (fun u w =>  ?_) (fun _ _ _ => rfl) (Givens.cons (fun u w =>  ?_) (fun _ _ _ => rfl) (Givens.nil))
        ·exact giv_idx (T := 22) (e := 32) 8 .i64 x1 hA7_ a0.length cp0 (by kernel_rfl) (by kernel_rfl) (by kernel_rfl) hi0_6 hi1_6 w
        ·exact giv_run (v := .bool (((a0.getD (x1).toNat z32).f0) != a3)) (by kernel_rfl) (by rw [hb5]; try rfl) w
       intro u I16 nx16 hi16 hF
       clear hF
       refine RL.norm (K' := ((51, undef) :: (50, undef) :: (49, undef) :: (48, undef) :: (47, undef) :: (46, .bool true) :: (45, .bool true) :: (44, undef) :: (43, undef) :: (42, undef) :: (41, undef) :: (40, undef) :: (39, undef) :: (38, undef) :: (37, undef) :: (36, .bool true) :: (35, .bool true) :: (34, undef) :: (33, undef) :: (32, undef) :: (31, undef) :: (30, undef) :: (29, undef) :: (28, undef) :: (27, undef) :: (26, .bool true) :: (25, .bool (((a0.getD (x1).toNat z32).f0) != a3)) :: (24, .int .i64 a3) :: (23, .int .i64 ((a0.getD (x1).toNat z32).f0)) :: (22, .pointer (some ⟨g7_, o7_ + (x1).toNat * 8, none⟩)) :: (21, .pointer (some ⟨g7_, o7_ + (x1).toNat * 8, none⟩)) :: (20, .int .i64 x1) :: (19, .slice Ap0 a0.length cp0) :: (16, .bool (decide (x1 < (a0.length : Int)))) :: (0, .slice Ap0 a0.length cp0) :: (1, .int .i64 a1) :: (3, .int .i64 a3) :: (6, .pointer (some ⟨nx0, 0, none⟩)) :: (10, .int .i64 x1) :: [])) (X' := []) (by kernel_rfl) rfl rfl rfl ?_
       refine RL.simK (K' := [(54, .bool true), (0, .slice Ap0 a0.length cp0), (1, .int .i64 a1), (3, .int .i64 a3), (6, .pointer (some ⟨nx0, 0, none⟩)), (10, .int .i64 x1)]) [] (RFacts.nil _ _ _) 3 [.no, .no, .no] (by kernel_rfl) (by kernel_rfl) ?_
       refine RL.nil (by kernel_rfl) ?_
       obtain rfl := Option.some.inj H
       refine QN.sub (K' := [(0, .slice Ap0 a0.length cp0), (1, .int .i64 a1), (3, .int .i64 a3), (6, .pointer (some ⟨nx0, 0, none⟩)), (10, .int .i64 x1), (54, .bool true)]) (L' := [⟨nx0, [.int .i64 a2.f0, .int .i64 a2.f1], 24⟩]) (by kernel_rfl) (.cons_cons _ .slnil) (.refl _) ?_
       exact hJ4 _ _ _ _ _ ⟨true, rfl, rfl, rfl, hi16, HK3⟩
      ·have hc5 := (not_not_intro (bne_eq_false_iff_eq.1 hb5))
       rw [if_neg hc5] at H
       by_cases hi0_7 : 0 ≤ x1
       case neg => rw [if_neg hi0_7] at H; cases H
       rw [if_pos hi0_7] at H
       by_cases hi1_7 : x1 < (a0.length : Int)
       case neg => rw [if_neg hi1_7] at H; cases H
       rw [if_pos hi1_7] at H
       obtain ⟨g8_, o8_, hA8_, A8_5_2_, c8_5_2_, hl8_5_2_, hr8_5_2_, hc8_⟩ := t32_at (Rd.ext hi2 hrp0) x1 hi0_7 hi1_7
       refine OK.cases (((a0.getD (x1).toNat z32).f2) != a2.f0) (fun hb6 => ?_) (fun hb6 => ?_)
       ·have hc6 := (bne_iff_ne.1 hb6)
        rw [if_pos hc6] at H
        refine OK.drawnC 4 33 O36_20 a36_20n (by kernel_rfl) (by kernel_rfl) u36d7l (u36d7g x1 g7_ o7_ g8_ o8_) [(⟨g7_, o7_ + (x1).toNat * 8, none⟩, .int .i64 ((a0.getD (x1).toNat z32).f0)), (⟨g8_, o8_ + (x1).toNat * 8 + 2, none⟩, .int .i64 ((a0.getD (x1).toNat z32).f2))] (RI.cons (hc7_ 0 _ rfl) (RI.cons (hc8_ 2 _ rfl) (RI.nil _))) (.no :: .no :: .no :: .no :: .r 0 :: .no :: .no :: .no :: .no :: .no :: .no :: .no :: .r 1 :: .no :: .l 0 :: .no :: .no :: .no :: .no :: .no :: .no :: .no :: .no :: .no :: .no :: .no :: .no :: .no :: .no :: .no :: .no :: .no :: .no :: []) a36_20 a36_20o (by kernel_rfl) (by kernel_rfl) (u36d7s a0 Ap0 cp0 a2 a3 nx0 x1 g7_ o7_ g8_ o8_) (u36d7f a0 Ap0 cp0 a1 a2 a3 nx0 x1 g7_ o7_ g8_ o8_ 33) (u36d7v a0 Ap0 cp0 a1 a2 a3 nx0 x1 g7_ o7_ g8_ o8_) (u36d7e a0 Ap0 cp0 a1 a2 a3 nx0 x1 g7_ o7_ g8_ o8_) [] framesOk.nil ?_ [u36d7f a0 Ap0 cp0 a1 a2 a3 nx0 x1 g7_ o7_ g8_ o8_ 2, u36d7f a0 Ap0 cp0 a1 a2 a3 nx0 x1 g7_ o7_ g8_ o8_ 7, u36d7f a0 Ap0 cp0 a1 a2 a3 nx0 x1 g7_ o7_ g8_ o8_ 10, u36d7f a0 Ap0 cp0 a1 a2 a3 nx0 x1 g7_ o7_ g8_ o8_ 17] (framesOk.cons (fun u => rfl) (framesOk.cons (fun u => rfl) (framesOk.cons (fun u => rfl) (framesOk.cons (fun u => rfl) framesOk.nil)))) ?_ ?_
        ·refine LoudsG.nil
        ·refine Givens.cons (fun u w =>  ?_) (fun _ _ _ => rfl) (Givens.cons (fun u w =>  ?_) (fun _ _ _ => rfl) (Givens.cons (fun u w =>  ?_) (fun _ _ _ => rfl) (Givens.cons (fun u w =>  ?_) (fun _ _ _ => rfl) (Givens.nil))))
         ·exact giv_idx (T := 22) (e := 32) 8 .i64 x1 hA7_ a0.length cp0 (by kernel_rfl) (by kernel_rfl) (by kernel_rfl) hi0_6 hi1_6 w
         ·exact giv_run (v := .bool (((a0.getD (x1).toNat z32).f0) != a3)) (by kernel_rfl) (by rw [hb5]; try rfl) w
         ·exact giv_idx (T := 22) (e := 32) 8 .i64 x1 hA8_ a0.length cp0 (by kernel_rfl) (by kernel_rfl) (by kernel_rfl) hi0_7 hi1_7 w
         ·exact giv_run (v := .bool (((a0.getD (x1).toNat z32).f2) != a2.f0)) (by kernel_rfl) (by rw [hb6]; try rfl) w
        intro u I17 nx17 hi17 hF
        clear hF
        refine RL.norm (K' := ((51, undef) :: (50, undef) :: (49, undef) :: (48, undef) :: (47, undef) :: (46, .bool true) :: (45, .bool true) :: (44, undef) :: (43, undef) :: (42, undef) :: (41, undef) :: (40, undef) :: (39, undef) :: (38, undef) :: (37, undef) :: (36, .bool true) :: (35, .bool (((a0.getD (x1).toNat z32).f2) != a2.f0)) :: (34, .bool (((a0.getD (x1).toNat z32).f2) != a2.f0)) :: (33, .int .i64 a2.f0) :: (32, .pointer (some ⟨nx0, 0, none⟩)) :: (31, .int .i64 ((a0.getD (x1).toNat z32).f2)) :: (30, .pointer (some ⟨g8_, o8_ + (x1).toNat * 8 + 2, none⟩)) :: (29, .pointer (some ⟨g8_, o8_ + (x1).toNat * 8, none⟩)) :: (28, .int .i64 x1) :: (27, .slice Ap0 a0.length cp0) :: (26, .bool false) :: (25, .bool (((a0.getD (x1).toNat z32).f0) != a3)) :: (24, .int .i64 a3) :: (23, .int .i64 ((a0.getD (x1).toNat z32).f0)) :: (22, .pointer (some ⟨g7_, o7_ + (x1).toNat * 8, none⟩)) :: (21, .pointer (some ⟨g7_, o7_ + (x1).toNat * 8, none⟩)) :: (20, .int .i64 x1) :: (19, .slice Ap0 a0.length cp0) :: (16, .bool (decide (x1 < (a0.length : Int)))) :: (0, .slice Ap0 a0.length cp0) :: (1, .int .i64 a1) :: (3, .int .i64 a3) :: (6, .pointer (some ⟨nx0, 0, none⟩)) :: (10, .int .i64 x1) :: [])) (X' := []) (by kernel_rfl) rfl rfl rfl ?_
        refine RL.simK (K' := [(54, .bool true), (0, .slice Ap0 a0.length cp0), (1, .int .i64 a1), (3, .int .i64 a3), (6, .pointer (some ⟨nx0, 0, none⟩)), (10, .int .i64 x1)]) [] (RFacts.nil _ _ _) 3 [.no, .no, .no] (by kernel_rfl) (by kernel_rfl) ?_
        refine RL.nil (by kernel_rfl) ?_
        obtain rfl := Option.some.inj H
        refine QN.sub (K' := [(0, .slice Ap0 a0.length cp0), (1, .int .i64 a1), (3, .int .i64 a3), (6, .pointer (some ⟨nx0, 0, none⟩)), (10, .int .i64 x1), (54, .bool true)]) (L' := [⟨nx0, [.int .i64 a2.f0, .int .i64 a2.f1], 24⟩]) (by kernel_rfl) (.cons_cons _ .slnil) (.refl _) ?_
        exact hJ4 _ _ _ _ _ ⟨true, rfl, rfl, rfl, hi17, HK3⟩
       ·have hc6 := (not_not_intro (bne_eq_false_iff_eq.1 hb6))
        rw [if_neg hc6] at H
        by_cases hi0_8 : 0 ≤ x1
        case neg => rw [if_neg hi0_8] at H; cases H
        rw [if_pos hi0_8] at H
        by_cases hi1_8 : x1 < (a0.length : Int)
        case neg => rw [if_neg hi1_8] at H; cases H
        rw [if_pos hi1_8] at H
        obtain ⟨g9_, o9_, hA9_, A9_5_2_, c9_5_2_, hl9_5_2_, hr9_5_2_, hc9_⟩ := t32_at (Rd.ext hi2 hrp0) x1 hi0_8 hi1_8
        refine OK.cases (((a0.getD (x1).toNat z32).f3) != a2.f1) (fun hb7 => ?_) (fun hb7 => ?_)
        ·have hc7 := (bne_iff_ne.1 hb7)
         rw [if_pos hc7] at H
         refine OK.drawnC 4 33 O36_20 a36_20n (by kernel_rfl) (by kernel_rfl) u36d8l (u36d8g x1 g7_ o7_ g8_ o8_ g9_ o9_) [(⟨g7_, o7_ + (x1).toNat * 8, none⟩, .int .i64 ((a0.getD (x1).toNat z32).f0)), (⟨g8_, o8_ + (x1).toNat * 8 + 2, none⟩, .int .i64 ((a0.getD (x1).toNat z32).f2)), (⟨g9_, o9_ + (x1).toNat * 8 + 3, none⟩, .int .i64 ((a0.getD (x1).toNat z32).f3))] (RI.cons (hc7_ 0 _ rfl) (RI.cons (hc8_ 2 _ rfl) (RI.cons (hc9_ 3 _ rfl) (RI.nil _)))) (.no :: .no :: .no :: .no :: .r 0 :: .no :: .no :: .no :: .no :: .no :: .no :: .no :: .r 1 :: .no :: .l 0 :: .no :: .no :: .no :: .no :: .no :: .no :: .no :: .r 2 :: .no :: .l 0 :: .no :: .no :: .no :: .no :: .no :: .no :: .no :: .no :: []) a36_20 a36_20o (by kernel_rfl) (by kernel_rfl) (u36d8s a0 Ap0 cp0 a2 a3 nx0 x1 g7_ o7_ g8_ o8_ g9_ o9_) (u36d8f a0 Ap0 cp0 a1 a2 a3 nx0 x1 g7_ o7_ g8_ o8_ g9_ o9_ 33) (u36d8v a0 Ap0 cp0 a1 a2 a3 nx0 x1 g7_ o7_ g8_ o8_ g9_ o9_) (u36d8e a0 Ap0 cp0 a1 a2 a3 nx0 x1 g7_ o7_ g8_ o8_ g9_ o9_) [] framesOk.nil ?_ [u36d8f a0 Ap0 cp0 a1 a2 a3 nx0 x1 g7_ o7_ g8_ o8_ g9_ o9_ 2, u36d8f a0 Ap0 cp0 a1 a2 a3 nx0 x1 g7_ o7_ g8_ o8_ g9_ o9_ 7, u36d8f a0 Ap0 cp0 a1 a2 a3 nx0 x1 g7_ o7_ g8_ o8_ g9_ o9_ 10, u36d8f a0 Ap0 cp0 a1 a2 a3 nx0 x1 g7_ o7_ g8_ o8_ g9_ o9_ 17, u36d8f a0 Ap0 cp0 a1 a2 a3 nx0 x1 g7_ o7_ g8_ o8_ g9_ o9_ 20, u36d8f a0 Ap0 cp0 a1 a2 a3 nx0 x1 g7_ o7_ g8_ o8_ g9_ o9_ 27] (framesOk.cons (fun u => rfl) (framesOk.cons (fun u => rfl) (framesOk.cons (fun u => rfl) (framesOk.cons (fun u => rfl) (framesOk.cons (fun u => rfl) (framesOk.cons (fun u => rfl) framesOk.nil)))))) ?_ ?_
         ·refine LoudsG.nil
         ·refine Givens.cons (fun u w =>  ?_) (fun _ _ _ => rfl) (Givens.cons (fun u w =>  ?_) (fun _ _ _ => rfl) (Givens.cons (fun u w =>  ?_) (fun _ _ _ => rfl) (Givens.cons (fun u w =>  ?_) (fun _ _ _ => rfl) (Givens.cons (fun u w =>  ?_) (fun _ _ _ => rfl) (Givens.cons (fun u w =>  ?_) (fun _ _ _ => rfl) (Givens.nil))))))
          ·exact giv_idx (T := 22) (e := 32) 8 .i64 x1 hA7_ a0.length cp0 (by kernel_rfl) (by kernel_rfl) (by kernel_rfl) hi0_6 hi1_6 w
          ·exact giv_run (v := .bool (((a0.getD (x1).toNat z32).f0) != a3)) (by kernel_rfl) (by rw [hb5]; try rfl) w
          ·exact giv_idx (T := 22) (e := 32) 8 .i64 x1 hA8_ a0.length cp0 (by kernel_rfl) (by kernel_rfl) (by kernel_rfl) hi0_7 hi1_7 w
          ·exact giv_run (v := .bool (((a0.getD (x1).toNat z32).f2) != a2.f0)) (by kernel_rfl) (by rw [hb6]; try rfl) w
          ·exact giv_idx (T := 22) (e := 32) 8 .i64 x1 hA9_ a0.length cp0 (by kernel_rfl) (by kernel_rfl) (by kernel_rfl) hi0_8 hi1_8 w
          ·exact giv_run (v := .bool (((a0.getD (x1).toNat z32).f3) != a2.f1)) (by kernel_rfl) (by rw [hb7]; try rfl) w
         intro u I18 nx18 hi18 hF
         clear hF
         refine RL.norm (K' := ((51, undef) :: (50, undef) :: (49, undef) :: (48, undef) :: (47, undef) :: (46, .bool true) :: (45, .bool (((a0.getD (x1).toNat z32).f3) != a2.f1)) :: (44, .bool (((a0.getD (x1).toNat z32).f3) != a2.f1)) :: (43, .int .i64 a2.f1) :: (42, .pointer (some ⟨nx0, 1, none⟩)) :: (41, .int .i64 ((a0.getD (x1).toNat z32).f3)) :: (40, .pointer (some ⟨g9_, o9_ + (x1).toNat * 8 + 3, none⟩)) :: (39, .pointer (some ⟨g9_, o9_ + (x1).toNat * 8, none⟩)) :: (38, .int .i64 x1) :: (37, .slice Ap0 a0.length cp0) :: (36, .bool false) :: (35, .bool (((a0.getD (x1).toNat z32).f2) != a2.f0)) :: (34, .bool (((a0.getD (x1).toNat z32).f2) != a2.f0)) :: (33, .int .i64 a2.f0) :: (32, .pointer (some ⟨nx0, 0, none⟩)) :: (31, .int .i64 ((a0.getD (x1).toNat z32).f2)) :: (30, .pointer (some ⟨g8_, o8_ + (x1).toNat * 8 + 2, none⟩)) :: (29, .pointer (some ⟨g8_, o8_ + (x1).toNat * 8, none⟩)) :: (28, .int .i64 x1) :: (27, .slice Ap0 a0.length cp0) :: (26, .bool false) :: (25, .bool (((a0.getD (x1).toNat z32).f0) != a3)) :: (24, .int .i64 a3) :: (23, .int .i64 ((a0.getD (x1).toNat z32).f0)) :: (22, .pointer (some ⟨g7_, o7_ + (x1).toNat * 8, none⟩)) :: (21, .pointer (some ⟨g7_, o7_ + (x1).toNat * 8, none⟩)) :: (20, .int .i64 x1) :: (19, .slice Ap0 a0.length cp0) :: (16, .bool (decide (x1 < (a0.length : Int)))) :: (0, .slice Ap0 a0.length cp0) :: (1, .int .i64 a1) :: (3, .int .i64 a3) :: (6, .pointer (some ⟨nx0, 0, none⟩)) :: (10, .int .i64 x1) :: [])) (X' := []) (by kernel_rfl) rfl rfl rfl ?_
         refine RL.simK (K' := [(54, .bool true), (0, .slice Ap0 a0.length cp0), (1, .int .i64 a1), (3, .int .i64 a3), (6, .pointer (some ⟨nx0, 0, none⟩)), (10, .int .i64 x1)]) [] (RFacts.nil _ _ _) 3 [.no, .no, .no] (by kernel_rfl) (by kernel_rfl) ?_
         refine RL.nil (by kernel_rfl) ?_
         obtain rfl := Option.some.inj H
         refine QN.sub (K' := [(0, .slice Ap0 a0.length cp0), (1, .int .i64 a1), (3, .int .i64 a3), (6, .pointer (some ⟨nx0, 0, none⟩)), (10, .int .i64 x1), (54, .bool true)]) (L' := [⟨nx0, [.int .i64 a2.f0, .int .i64 a2.f1], 24⟩]) (by kernel_rfl) (.cons_cons _ .slnil) (.refl _) ?_
         exact hJ4 _ _ _ _ _ ⟨true, rfl, rfl, rfl, hi18, HK3⟩
        ·have hc7 := (not_not_intro (bne_eq_false_iff_eq.1 hb7))
         rw [if_neg hc7] at H
         by_cases hi0_9 : 0 ≤ x1
         case neg => rw [if_neg hi0_9] at H; cases H
         rw [if_pos hi0_9] at H
         by_cases hi1_9 : x1 < (a0.length : Int)
         case neg => rw [if_neg hi1_9] at H; cases H
         rw [if_pos hi1_9] at H
         obtain ⟨g10_, o10_, hA10_, A10_5_2_, c10_5_2_, hl10_5_2_, hr10_5_2_, hc10_⟩ := t32_at (Rd.ext hi2 hrp0) x1 hi0_9 hi1_9
         refine OK.drawnC 4 33 O36_20 a36_20n (by kernel_rfl) (by kernel_rfl) u36d9l (u36d9g x1 g7_ o7_ g8_ o8_ g9_ o9_ g10_ o10_) [(⟨g7_, o7_ + (x1).toNat * 8, none⟩, .int .i64 ((a0.getD (x1).toNat z32).f0)), (⟨g8_, o8_ + (x1).toNat * 8 + 2, none⟩, .int .i64 ((a0.getD (x1).toNat z32).f2)), (⟨g9_, o9_ + (x1).toNat * 8 + 3, none⟩, .int .i64 ((a0.getD (x1).toNat z32).f3)), (⟨g10_, o10_ + (x1).toNat * 8, none⟩, .int .i64 ((a0.getD (x1).toNat z32).f0)), (⟨g10_, o10_ + (x1).toNat * 8 + 1, none⟩, .int .i64 ((a0.getD (x1).toNat z32).f1)), (⟨g10_, o10_ + (x1).toNat * 8 + 2, none⟩, .int .i64 ((a0.getD (x1).toNat z32).f2)), (⟨g10_, o10_ + (x1).toNat * 8 + 3, none⟩, .int .i64 ((a0.getD (x1).toNat z32).f3)), (⟨g10_, o10_ + (x1).toNat * 8 + 4, none⟩, .int .u32 ((a0.getD (x1).toNat z32).f4)), (⟨g10_, o10_ + (x1).toNat * 8 + 5, none⟩, .int .i64 ((a0.getD (x1).toNat z32).f5.f0)), (⟨g10_, o10_ + (x1).toNat * 8 + 6, none⟩, .string ((a0.getD (x1).toNat z32).f5.f1)), (⟨g10_, o10_ + (x1).toNat * 8 + 7, none⟩, .slice A10_5_2_ (((a0.getD (x1).toNat z32).f5.f2).length) c10_5_2_)] (RI.cons (hc7_ 0 _ rfl) (RI.cons (hc8_ 2 _ rfl) (RI.cons (hc9_ 3 _ rfl) (RI.cons (hc10_ 0 _ rfl) (RI.cons (hc10_ 1 _ rfl) (RI.cons (hc10_ 2 _ rfl) (RI.cons (hc10_ 3 _ rfl) (RI.cons (hc10_ 4 _ rfl) (RI.cons (hc10_ 5 _ rfl) (RI.cons (hc10_ 6 _ rfl) (RI.cons (hc10_ 7 _ rfl) (RI.nil _)))))))))))) (.no :: .no :: .no :: .no :: .r 0 :: .no :: .no :: .no :: .no :: .no :: .no :: .no :: .r 1 :: .no :: .l 0 :: .no :: .no :: .no :: .no :: .no :: .no :: .no :: .r 2 :: .no :: .l 0 :: .no :: .no :: .no :: .no :: .no :: .no :: .r 3 :: .no :: []) a36_20 a36_20o (by kernel_rfl) (by kernel_rfl) (u36d9s a0 Ap0 cp0 a1 a2 a3 nx0 x1 g7_ o7_ g8_ o8_ g9_ o9_ A10_5_2_ c10_5_2_ g10_ o10_) (u36d9f a0 Ap0 cp0 a1 a2 a3 nx0 x1 g7_ o7_ g8_ o8_ g9_ o9_ A10_5_2_ c10_5_2_ g10_ o10_ 33) (u36d9v a0 Ap0 cp0 a1 a2 a3 nx0 x1 g7_ o7_ g8_ o8_ g9_ o9_ A10_5_2_ c10_5_2_ g10_ o10_) (u36d9e a0 Ap0 cp0 a1 a2 a3 nx0 x1 g7_ o7_ g8_ o8_ g9_ o9_ A10_5_2_ c10_5_2_ g10_ o10_) [] framesOk.nil ?_ [u36d9f a0 Ap0 cp0 a1 a2 a3 nx0 x1 g7_ o7_ g8_ o8_ g9_ o9_ A10_5_2_ c10_5_2_ g10_ o10_ 2, u36d9f a0 Ap0 cp0 a1 a2 a3 nx0 x1 g7_ o7_ g8_ o8_ g9_ o9_ A10_5_2_ c10_5_2_ g10_ o10_ 7, u36d9f a0 Ap0 cp0 a1 a2 a3 nx0 x1 g7_ o7_ g8_ o8_ g9_ o9_ A10_5_2_ c10_5_2_ g10_ o10_ 10, u36d9f a0 Ap0 cp0 a1 a2 a3 nx0 x1 g7_ o7_ g8_ o8_ g9_ o9_ A10_5_2_ c10_5_2_ g10_ o10_ 17, u36d9f a0 Ap0 cp0 a1 a2 a3 nx0 x1 g7_ o7_ g8_ o8_ g9_ o9_ A10_5_2_ c10_5_2_ g10_ o10_ 20, u36d9f a0 Ap0 cp0 a1 a2 a3 nx0 x1 g7_ o7_ g8_ o8_ g9_ o9_ A10_5_2_ c10_5_2_ g10_ o10_ 27, u36d9f a0 Ap0 cp0 a1 a2 a3 nx0 x1 g7_ o7_ g8_ o8_ g9_ o9_ A10_5_2_ c10_5_2_ g10_ o10_ 30] (framesOk.cons (fun u => rfl) (framesOk.cons (fun u => rfl) (framesOk.cons (fun u => rfl) (framesOk.cons (fun u => rfl) (framesOk.cons (fun u => rfl) (framesOk.cons (fun u => rfl) (framesOk.cons (fun u => rfl) framesOk.nil))))))) ?_ ?_
         ·refine LoudsG.nil
         ·refine Givens.cons (fun u w =>  ?_) (fun _ _ _ => rfl) (Givens.cons (fun u w =>  ?_) (fun _ _ _ => rfl) (Givens.cons (fun u w =>  ?_) (fun _ _ _ => rfl) (Givens.cons (fun u w =>  ?_) (fun _ _ _ => rfl) (Givens.cons (fun u w =>  ?_) (fun _ _ _ => rfl) (Givens.cons (fun u w =>  ?_) (fun _ _ _ => rfl) (Givens.cons (fun u w =>  ?_) (fun _ _ _ => rfl) (Givens.nil)))))))
          ·exact giv_idx (T := 22) (e := 32) 8 .i64 x1 hA7_ a0.length cp0 (by kernel_rfl) (by kernel_rfl) (by kernel_rfl) hi0_6 hi1_6 w
          ·exact giv_run (v := .bool (((a0.getD (x1).toNat z32).f0) != a3)) (by kernel_rfl) (by rw [hb5]; try rfl) w
          ·exact giv_idx (T := 22) (e := 32) 8 .i64 x1 hA8_ a0.length cp0 (by kernel_rfl) (by kernel_rfl) (by kernel_rfl) hi0_7 hi1_7 w
          ·exact giv_run (v := .bool (((a0.getD (x1).toNat z32).f2) != a2.f0)) (by kernel_rfl) (by rw [hb6]; try rfl) w
          ·exact giv_idx (T := 22) (e := 32) 8 .i64 x1 hA9_ a0.length cp0 (by kernel_rfl) (by kernel_rfl) (by kernel_rfl) hi0_8 hi1_8 w
          ·exact giv_run (v := .bool (((a0.getD (x1).toNat z32).f3) != a2.f1)) (by kernel_rfl) (by rw [hb7]; try rfl) w
          ·exact giv_idx (T := 22) (e := 32) 8 .i64 x1 hA10_ a0.length cp0 (by kernel_rfl) (by kernel_rfl) (by kernel_rfl) hi0_9 hi1_9 w
         intro u I19 nx19 hi19 hF
         clear hF
         refine RL.norm (K' := ((51, .int .i64 a1) :: (50, .agg #[.int .i64 ((a0.getD (x1).toNat z32).f0), .int .i64 ((a0.getD (x1).toNat z32).f1), .int .i64 ((a0.getD (x1).toNat z32).f2), .int .i64 ((a0.getD (x1).toNat z32).f3), .int .u32 ((a0.getD (x1).toNat z32).f4), .int .i64 ((a0.getD (x1).toNat z32).f5.f0), .string ((a0.getD (x1).toNat z32).f5.f1), .slice A10_5_2_ (((a0.getD (x1).toNat z32).f5.f2).length) c10_5_2_]) :: (49, .pointer (some ⟨g10_, o10_ + (x1).toNat * 8, none⟩)) :: (48, .int .i64 x1) :: (47, .slice Ap0 a0.length cp0) :: (46, .bool false) :: (45, .bool (((a0.getD (x1).toNat z32).f3) != a2.f1)) :: (44, .bool (((a0.getD (x1).toNat z32).f3) != a2.f1)) :: (43, .int .i64 a2.f1) :: (42, .pointer (some ⟨nx0, 1, none⟩)) :: (41, .int .i64 ((a0.getD (x1).toNat z32).f3)) :: (40, .pointer (some ⟨g9_, o9_ + (x1).toNat * 8 + 3, none⟩)) :: (39, .pointer (some ⟨g9_, o9_ + (x1).toNat * 8, none⟩)) :: (38, .int .i64 x1) :: (37, .slice Ap0 a0.length cp0) :: (36, .bool false) :: (35, .bool (((a0.getD (x1).toNat z32).f2) != a2.f0)) :: (34, .bool (((a0.getD (x1).toNat z32).f2) != a2.f0)) :: (33, .int .i64 a2.f0) :: (32, .pointer (some ⟨nx0, 0, none⟩)) :: (31, .int .i64 ((a0.getD (x1).toNat z32).f2)) :: (30, .pointer (some ⟨g8_, o8_ + (x1).toNat * 8 + 2, none⟩)) :: (29, .pointer (some ⟨g8_, o8_ + (x1).toNat * 8, none⟩)) :: (28, .int .i64 x1) :: (27, .slice Ap0 a0.length cp0) :: (26, .bool false) :: (25, .bool (((a0.getD (x1).toNat z32).f0) != a3)) :: (24, .int .i64 a3) :: (23, .int .i64 ((a0.getD (x1).toNat z32).f0)) :: (22, .pointer (some ⟨g7_, o7_ + (x1).toNat * 8, none⟩)) :: (21, .pointer (some ⟨g7_, o7_ + (x1).toNat * 8, none⟩)) :: (20, .int .i64 x1) :: (19, .slice Ap0 a0.length cp0) :: (16, .bool (decide (x1 < (a0.length : Int)))) :: (0, .slice Ap0 a0.length cp0) :: (1, .int .i64 a1) :: (3, .int .i64 a3) :: (6, .pointer (some ⟨nx0, 0, none⟩)) :: (10, .int .i64 x1) :: [])) (X' := []) (by kernel_rfl) rfl rfl rfl ?_
         obtain ⟨t3, hA3, H⟩ := Option.bind_eq_some_iff.mp H
         refine RL.callP 13 [.agg #[.int .i64 ((a0.getD (x1).toNat z32).f0), .int .i64 ((a0.getD (x1).toNat z32).f1), .int .i64 ((a0.getD (x1).toNat z32).f2), .int .i64 ((a0.getD (x1).toNat z32).f3), .int .u32 ((a0.getD (x1).toNat z32).f4), .int .i64 ((a0.getD (x1).toNat z32).f5.f0), .string ((a0.getD (x1).toNat z32).f5.f1), .slice A10_5_2_ (((a0.getD (x1).toNat z32).f5.f2).length) c10_5_2_], .int .i64 a1] (some 52) (fun w => armillaryref29_Valid.Post I19 w t3) (by kernel_rfl) (by kernel_rfl) (fun w hs => armillaryref29_Valid.calls kq1 I19 (a0.getD (x1).toNat z32) A10_5_2_ c10_5_2_ a1 w hs.im hl10_5_2_ (Rd.ext hi19 hr10_5_2_) t3 hA3) ?_
         rintro w v w' hs ⟨I20, rfl, hg⟩
         have hi20 := hg.le
         refine RL.resume (X' := []) rfl (hs.call hg) ?_
         clear hs hg
         generalize w'.heap.size = nx20
         clear w w'
         refine RL.simK (K' := [(54, .bool (!t3)), (0, .slice Ap0 a0.length cp0), (1, .int .i64 a1), (3, .int .i64 a3), (6, .pointer (some ⟨nx0, 0, none⟩)), (10, .int .i64 x1)]) [] (RFacts.nil _ _ _) 2 [.no, .no] (by kernel_rfl) (by kernel_rfl) ?_
         refine RL.nil (by kernel_rfl) ?_
         obtain rfl := Option.some.inj H
         refine QN.sub (K' := [(0, .slice Ap0 a0.length cp0), (1, .int .i64 a1), (3, .int .i64 a3), (6, .pointer (some ⟨nx0, 0, none⟩)), (10, .int .i64 x1), (54, .bool (!t3))]) (L' := [⟨nx0, [.int .i64 a2.f0, .int .i64 a2.f1], 24⟩]) (by kernel_rfl) (.cons_cons _ .slnil) (.refl _) ?_
         exact hJ4 _ _ _ _ _ ⟨(!t3), rfl, rfl, rfl, (Imm.le_trans hi19 hi20), HK3⟩
   ·skip
    have hc := (of_decide_eq_false hb)
    rw [if_neg hc] at H
    clear hb
    refine OK.exit 0 (by kernel_rfl) ?_
    refine QN.thenE ?_
    refine QN.outE hQ2 ?_
    refine QN.blkE ?_
    obtain rfl := Option.some.inj H
    refine QN.sub (K' := []) (L' := [⟨nx0, [.int .i64 a2.f0, .int .i64 a2.f1], 24⟩]) (by kernel_rfl) (.cons_cons _ .slnil) (.refl _) ?_
    exact hJ1 _ _ _ _ _ ⟨rfl, rfl, rfl, hi2, HK1⟩

end Go.Proofs.Ytieakigoinebdaa
namespace Go.Proofs.Ytieakigoinebdaa
open Go Go.Proofs.Ytieakigoinebdaa.RW
set_option linter.unusedVariables false
set_option maxRecDepth 100000
set_option maxHeartbeats 8000000

/-! ### armillaryref29_Prepared: function 15, armillary/armillaryref29.Prepared -/
noncomputable def K15_0 : Code := cBody Try.f15
noncomputable def K15_1 : Code := cL K15_0
noncomputable def O15_1 : List Oper := cOps K15_1
noncomputable def K15_3 : Code := cR K15_0
noncomputable def K15_4 : Code := cL K15_3
noncomputable def O15_4 : List Oper := cOps K15_4
noncomputable def K15_6 : Code := cR K15_3
noncomputable def K15_7 : Code := cL K15_6
noncomputable def O15_7 : List Oper := cOps K15_7
noncomputable def K15_9 : Code := cR K15_6
def armillaryref29_Prepared.f (k : Nat) (a0 : List S32) (a1 : Int) (a2 : S24) : Option (Int × Bool) := ((armillaryref29_decided.f k a0 a1 a2 2).bind fun t1 => (some (t1.1, t1.2)))
def armillaryref29_Prepared.Post (I : Imm) (w : World) (r : Int × Bool) (v : Value) (w' : World) : Prop :=
 ∃ (J : Imm), v = .tuple #[.int .u32 r.1, .bool r.2] ∧ Got w w' I J []
theorem armillaryref29_Prepared.calls (k : Nat) (I0 : Imm) (a0 : List S32) (Ap0 : Option Addr) (cp0 : Nat) (a1 : Int) (a2 : S24) (w : World) (hI : I0.at_ w) (hlp0 : a0.length ≤ cp0) (hrp0 : Rd t32 I0 Ap0 a0) (r : Int × Bool) (h : armillaryref29_Prepared.f k a0 a1 a2 = some r) :
  Calls Try.prog 15 [.slice Ap0 a0.length cp0, .int .i64 a1, .agg #[.int .i64 a2.f0, .int .i64 a2.f1]].toArray w fun e w' => ∃ v, e = .returned v ∧ armillaryref29_Prepared.Post I0 w r v w' := by
 have H : ((armillaryref29_decided.f k a0 a1 a2 2).bind fun t1 => (some (t1.1, t1.2))) = some r := h
 clear h
 refine calls_body Try.func15 (by kernel_rfl) 19 (by kernel_rfl) (by kernel_rfl) ⟨w, fun _ => False, I0⟩ I0 [] [(0, .slice Ap0 a0.length cp0), (1, .int .i64 a1), (2, .agg #[.int .i64 a2.f0, .int .i64 a2.f1])] (by kernel_rfl) (Sat.start w _ I0 hI) ?_
 generalize w.heap.size = nx0
 show OK _ K15_0 _ _ _ _ _ _ _ _
 refine OK.seq K15_1 K15_3 (by kernel_rfl) ?_
 refine OK.region 0 O15_1 (by kernel_rfl) ?_
 refine RL.simP (K' := [(5, .pointer (some ⟨nx0, 0, none⟩)), (0, .slice Ap0 a0.length cp0), (1, .int .i64 a1)]) (nx' := nx0 + 1) (L' := [⟨nx0, [.int .i64 a2.f0, .int .i64 a2.f1], 24⟩]) [] (RFacts.nil _ _ _) 3 [.no, .no, .no] (by kernel_rfl) (by kernel_rfl) ?_
 refine RL.nil (by kernel_rfl) ?_
 refine QN.then_ ?_
 refine OK.seq K15_4 K15_6 (by kernel_rfl) ?_
 refine OK.region 1 O15_4 (by kernel_rfl) ?_
 refine RL.simK (K' := [(13, .agg #[.int .i64 a2.f0, .int .i64 a2.f1]), (12, .int .i64 a1), (11, .slice Ap0 a0.length cp0)]) [] (RFacts.nil _ _ _) 3 [.no, .no, .l 0] (by kernel_rfl) (by kernel_rfl) ?_
 obtain ⟨t1, hA1, H⟩ := Option.bind_eq_some_iff.mp H
 refine RL.callP 36 [.slice Ap0 a0.length cp0, .int .i64 a1, .agg #[.int .i64 a2.f0, .int .i64 a2.f1], .int .i64 2] (some 14) (fun w => armillaryref29_decided.Post I0 w t1) (by kernel_rfl) (by kernel_rfl) (fun w hs => armillaryref29_decided.calls k I0 a0 Ap0 cp0 a1 a2 2 w hs.im hlp0 hrp0 t1 hA1) ?_
 rintro w v w' hs ⟨I1, rfl, hg⟩
 have hi1 := hg.le
 refine RL.resume (X' := []) rfl (hs.call hg) ?_
 clear hs hg
 generalize w'.heap.size = nx1
 clear w w'
 refine RL.simK (K' := [(9, .bool t1.2), (8, .int .u32 t1.1)]) [] (RFacts.nil _ _ _) 5 [.no, .no, .no, .no, .no] (by kernel_rfl) (by kernel_rfl) ?_
 refine RL.nil (by kernel_rfl) ?_
 refine QN.then_ ?_
 refine OK.seq K15_7 K15_9 (by kernel_rfl) ?_
 refine OK.region 2 O15_7 (by kernel_rfl) ?_
 refine RL.simK (K' := [(7, .bool t1.2), (6, .int .u32 t1.1)]) [] (RFacts.nil _ _ _) 4 [.no, .no, .no, .no] (by kernel_rfl) (by kernel_rfl) ?_
 refine RL.nil (by kernel_rfl) ?_
 refine QN.then_ ?_
 refine OK.ret (by kernel_rfl) ?_
 obtain rfl := Option.some.inj H
 refine QN.body rfl [] (RFacts.nil _ _ _) (.no) (.tuple #[.int .u32 t1.1, .bool t1.2]) (by kernel_rfl) (by kernel_rfl) (by kernel_rfl) ?_ _ (.inr rfl)
 exact fun w' hs' => ⟨_, rfl, I1, rfl, hs'.got _ .slnil⟩

end Go.Proofs.Ytieakigoinebdaa
namespace Go.Proofs.Ytieakigoinebdaa
open Go Go.Proofs.Ytieakigoinebdaa.RW
set_option linter.unusedVariables false
set_option maxRecDepth 100000
set_option maxHeartbeats 8000000

/-! ### armillaryref29_Committed: function 17, armillary/armillaryref29.Committed -/
noncomputable def K17_0 : Code := cBody Try.f17
noncomputable def K17_1 : Code := cL K17_0
noncomputable def O17_1 : List Oper := cOps K17_1
noncomputable def K17_3 : Code := cR K17_0
noncomputable def K17_4 : Code := cL K17_3
noncomputable def O17_4 : List Oper := cOps K17_4
noncomputable def K17_6 : Code := cR K17_3
noncomputable def K17_7 : Code := cL K17_6
noncomputable def O17_7 : List Oper := cOps K17_7
noncomputable def K17_9 : Code := cR K17_6
def armillaryref29_Committed.f (k : Nat) (a0 : List S32) (a1 : Int) (a2 : S24) : Option (Int × Bool) := ((armillaryref29_decided.f k a0 a1 a2 3).bind fun t1 => (some (t1.1, t1.2)))
def armillaryref29_Committed.Post (I : Imm) (w : World) (r : Int × Bool) (v : Value) (w' : World) : Prop :=
 ∃ (J : Imm), v = .tuple #[.int .u32 r.1, .bool r.2] ∧ Got w w' I J []
theorem armillaryref29_Committed.calls (k : Nat) (I0 : Imm) (a0 : List S32) (Ap0 : Option Addr) (cp0 : Nat) (a1 : Int) (a2 : S24) (w : World) (hI : I0.at_ w) (hlp0 : a0.length ≤ cp0) (hrp0 : Rd t32 I0 Ap0 a0) (r : Int × Bool) (h : armillaryref29_Committed.f k a0 a1 a2 = some r) :
  Calls Try.prog 17 [.slice Ap0 a0.length cp0, .int .i64 a1, .agg #[.int .i64 a2.f0, .int .i64 a2.f1]].toArray w fun e w' => ∃ v, e = .returned v ∧ armillaryref29_Committed.Post I0 w r v w' := by
 have H : ((armillaryref29_decided.f k a0 a1 a2 3).bind fun t1 => (some (t1.1, t1.2))) = some r := h
 clear h
 refine calls_body Try.func17 (by kernel_rfl) 19 (by kernel_rfl) (by kernel_rfl) ⟨w, fun _ => False, I0⟩ I0 [] [(0, .slice Ap0 a0.length cp0), (1, .int .i64 a1), (2, .agg #[.int .i64 a2.f0, .int .i64 a2.f1])] (by kernel_rfl) (Sat.start w _ I0 hI) ?_
 generalize w.heap.size = nx0
 show OK _ K17_0 _ _ _ _ _ _ _ _
 refine OK.seq K17_1 K17_3 (by kernel_rfl) ?_
 refine OK.region 0 O17_1 (by kernel_rfl) ?_
 refine RL.simP (K' := [(5, .pointer (some ⟨nx0, 0, none⟩)), (0, .slice Ap0 a0.length cp0), (1, .int .i64 a1)]) (nx' := nx0 + 1) (L' := [⟨nx0, [.int .i64 a2.f0, .int .i64 a2.f1], 24⟩]) [] (RFacts.nil _ _ _) 3 [.no, .no, .no] (by kernel_rfl) (by kernel_rfl) ?_
 refine RL.nil (by kernel_rfl) ?_
 refine QN.then_ ?_
 refine OK.seq K17_4 K17_6 (by kernel_rfl) ?_
 refine OK.region 1 O17_4 (by kernel_rfl) ?_
 refine RL.simK (K' := [(13, .agg #[.int .i64 a2.f0, .int .i64 a2.f1]), (12, .int .i64 a1), (11, .slice Ap0 a0.length cp0)]) [] (RFacts.nil _ _ _) 3 [.no, .no, .l 0] (by kernel_rfl) (by kernel_rfl) ?_
 obtain ⟨t1, hA1, H⟩ := Option.bind_eq_some_iff.mp H
 refine RL.callP 36 [.slice Ap0 a0.length cp0, .int .i64 a1, .agg #[.int .i64 a2.f0, .int .i64 a2.f1], .int .i64 3] (some 14) (fun w => armillaryref29_decided.Post I0 w t1) (by kernel_rfl) (by kernel_rfl) (fun w hs => armillaryref29_decided.calls k I0 a0 Ap0 cp0 a1 a2 3 w hs.im hlp0 hrp0 t1 hA1) ?_
 rintro w v w' hs ⟨I1, rfl, hg⟩
 have hi1 := hg.le
 refine RL.resume (X' := []) rfl (hs.call hg) ?_
 clear hs hg
 generalize w'.heap.size = nx1
 clear w w'
 refine RL.simK (K' := [(9, .bool t1.2), (8, .int .u32 t1.1)]) [] (RFacts.nil _ _ _) 5 [.no, .no, .no, .no, .no] (by kernel_rfl) (by kernel_rfl) ?_
 refine RL.nil (by kernel_rfl) ?_
 refine QN.then_ ?_
 refine OK.seq K17_7 K17_9 (by kernel_rfl) ?_
 refine OK.region 2 O17_7 (by kernel_rfl) ?_
 refine RL.simK (K' := [(7, .bool t1.2), (6, .int .u32 t1.1)]) [] (RFacts.nil _ _ _) 4 [.no, .no, .no, .no] (by kernel_rfl) (by kernel_rfl) ?_
 refine RL.nil (by kernel_rfl) ?_
 refine QN.then_ ?_
 refine OK.ret (by kernel_rfl) ?_
 obtain rfl := Option.some.inj H
 refine QN.body rfl [] (RFacts.nil _ _ _) (.no) (.tuple #[.int .u32 t1.1, .bool t1.2]) (by kernel_rfl) (by kernel_rfl) (by kernel_rfl) ?_ _ (.inr rfl)
 exact fun w' hs' => ⟨_, rfl, I1, rfl, hs'.got _ .slnil⟩

end Go.Proofs.Ytieakigoinebdaa
namespace Go.Proofs.Ytieakigoinebdaa
open Go Go.Proofs.Ytieakigoinebdaa.RW
set_option linter.unusedVariables false
set_option maxRecDepth 100000
set_option maxHeartbeats 8000000

/-! ### armillaryref29_HighestPrepared: function 19, armillary/armillaryref29.HighestPrepared -/
noncomputable def K19_0 : Code := cBody Try.f19
noncomputable def K19_1 : Code := cL K19_0
noncomputable def O19_1 : List Oper := cOps K19_1
noncomputable def K19_3 : Code := cR K19_0
noncomputable def K19_4 : Code := cL K19_3
noncomputable def O19_4 : List Oper := cOps K19_4
noncomputable def K19_6 : Code := cR K19_3
noncomputable def K19_7 : Code := cL K19_6
noncomputable def K19_8 : Code := cL K19_7
noncomputable def O19_8 : List Oper := cOps K19_8
noncomputable def K19_10 : Code := cR K19_7
noncomputable def K19_11 : Code := cL K19_10
noncomputable def K19_12 : Code := cL K19_11
noncomputable def K19_13 : Code := cL K19_12
noncomputable def K19_14 : Code := cL K19_13
noncomputable def O19_14 : List Oper := cOps K19_14
noncomputable def K19_16 : Code := cR K19_13
noncomputable def K19_17 : Code := cL K19_16
noncomputable def K19_18 : Code := cR K19_16
noncomputable def K19_19 : Code := cR K19_12
noncomputable def K19_20 : Code := cL K19_19
noncomputable def K19_21 : Code := cL K19_20
noncomputable def K19_22 : Code := cL K19_21
noncomputable def O19_22 : List Oper := cOps K19_22
noncomputable def K19_24 : Code := cR K19_21
noncomputable def K19_25 : Code := cL K19_24
noncomputable def K19_26 : Code := cL K19_25
noncomputable def O19_26 : List Oper := cOps K19_26
noncomputable def K19_28 : Code := cR K19_25
noncomputable def K19_29 : Code := cL K19_28
noncomputable def K19_30 : Code := cR K19_28
noncomputable def K19_31 : Code := cR K19_24
noncomputable def K19_32 : Code := cL K19_31
noncomputable def O19_32 : List Oper := cOps K19_32
noncomputable def K19_34 : Code := cR K19_31
noncomputable def K19_35 : Code := cL K19_34
noncomputable def O19_35 : List Oper := cOps K19_35
noncomputable def K19_37 : Code := cR K19_34
noncomputable def K19_38 : Code := cL K19_37
noncomputable def K19_39 : Code := cL K19_38
noncomputable def O19_39 : List Oper := cOps K19_39
noncomputable def K19_41 : Code := cR K19_38
noncomputable def O19_41 : List Oper := cOps K19_41
noncomputable def K19_43 : Code := cR K19_37
noncomputable def K19_44 : Code := cR K19_19
noncomputable def O19_44 : List Oper := cOps K19_44
noncomputable def K19_46 : Code := cR K19_6
noncomputable def K19_47 : Code := cL K19_46
noncomputable def O19_47 : List Oper := cOps K19_47
noncomputable def K19_49 : Code := cR K19_46
def armillaryref29_HighestPrepared.k1  : Int × ByteArray × List Int × Int → Option (S30 × Bool)
 | (x1, x2, x3, x4) => (some ((⟨x1, x2, x3⟩ : S30), (decide (x4 ≥ 0))))
def armillaryref29_HighestPrepared.k3  : Int × ByteArray × List Int × Int → Option (Int × ByteArray × List Int × Int)
 | (x16, x17, x18, x19) => (some (x16, x17, x18, x19))
def armillaryref29_HighestPrepared.k4 (a0 : List S32) (x5 : Int) (x6 : ByteArray) (x7 : List Int) (x8 : Int) (x9 : Int) (x15 : Bool) : Option (Int × ByteArray × List Int × Int) := ((if x15 = true then (some ((a0.getD (x9).toNat z32).f5.f0, (a0.getD (x9).toNat z32).f5.f1, (a0.getD (x9).toNat z32).f5.f2, (a0.getD (x9).toNat z32).f2)) else (some (x5, x6, x7, x8))).bind (armillaryref29_HighestPrepared.k3))
def armillaryref29_HighestPrepared.k5 (a0 : List S32) (a1 : Int) (x5 : Int) (x6 : ByteArray) (x7 : List Int) (x8 : Int) (x9 : Int) (kq1 : Nat) (x14 : Bool) : Option (Int × ByteArray × List Int × Int) := (if x14 = true then (some (x5, x6, x7, x8)) else ((armillaryref29_Prepared.f kq1 a0 a1 (⟨(a0.getD (x9).toNat z32).f2, (a0.getD (x9).toNat z32).f3⟩ : S24)).bind fun t1 => ((if t1.2 = true then (some (t1.1 == ((a0.getD (x9).toNat z32).f4))) else (some false)).bind (armillaryref29_HighestPrepared.k4 a0 x5 x6 x7 x8 x9))))
def armillaryref29_HighestPrepared.l1 (a0 : List S32) (a1 : Int) (a2 : S24) : Nat → Int → ByteArray → (List Int) → Int → Int → Option (Int × ByteArray × List Int × Int)
 | 0, _, _, _, _, _ => none
 | k + 1, x5, x6, x7, x8, x9 => (if x9 < (a0.length : Int) then ((if 0 ≤ x9 then (if x9 < (a0.length : Int) then ((if ((a0.getD (x9).toNat z32).f0) ≠ 1 then (some true) else (if ((a0.getD (x9).toNat z32).f3) ≠ a2.f1 then (some true) else (if ((a0.getD (x9).toNat z32).f2) ≥ a2.f0 then (some true) else (if ((a0.getD (x9).toNat z32).f2) ≤ x8 then (some true) else ((armillaryref29_Valid.f k (a0.getD (x9).toNat z32) a1).bind fun t2 => (some (!t2))))))).bind (armillaryref29_HighestPrepared.k5 a0 a1 x5 x6 x7 x8 x9 k)) else none) else none).bind (fun (x10, x11, x12, x13) => (armillaryref29_HighestPrepared.l1 a0 a1 a2 k x10 x11 x12 x13 (W .i64 (x9 + 1))))) else (some (x5, x6, x7, x8)))
def armillaryref29_HighestPrepared.f (k : Nat) (a0 : List S32) (a1 : Int) (a2 : S24) : Option (S30 × Bool) := ((armillaryref29_HighestPrepared.l1 a0 a1 a2 k 0 (⟨#[]⟩ : ByteArray) [] (-1) 0).bind (armillaryref29_HighestPrepared.k1))
def armillaryref29_HighestPrepared.Post (I : Imm) (w : World) (r : S30 × Bool) (v : Value) (w' : World) : Prop :=
 ∃ (J : Imm) (A0_2 : Option Addr) (c0_2 : Nat), v = .tuple #[.agg #[.int .i64 r.1.f0, .string r.1.f1, .slice A0_2 r.1.f2.length c0_2], .bool r.2] ∧ Got w w' I J [] ∧ r.1.f2.length ≤ c0_2 ∧ Rd (Ty.int .u8) J A0_2 r.1.f2
theorem armillaryref29_HighestPrepared.calls (k : Nat) (I0 : Imm) (a0 : List S32) (Ap0 : Option Addr) (cp0 : Nat) (a1 : Int) (a2 : S24) (w : World) (hI : I0.at_ w) (hlp0 : a0.length ≤ cp0) (hrp0 : Rd t32 I0 Ap0 a0) (r : S30 × Bool) (h : armillaryref29_HighestPrepared.f k a0 a1 a2 = some r) :
  Calls Try.prog 19 [.slice Ap0 a0.length cp0, .int .i64 a1, .agg #[.int .i64 a2.f0, .int .i64 a2.f1]].toArray w fun e w' => ∃ v, e = .returned v ∧ armillaryref29_HighestPrepared.Post I0 w r v w' := by
 have H : ((armillaryref29_HighestPrepared.l1 a0 a1 a2 k 0 (⟨#[]⟩ : ByteArray) [] (-1) 0).bind (armillaryref29_HighestPrepared.k1)) = some r := h
 clear h
 refine calls_body Try.func19 (by kernel_rfl) 79 (by kernel_rfl) (by kernel_rfl) ⟨w, fun _ => False, I0⟩ I0 [] [(0, .slice Ap0 a0.length cp0), (1, .int .i64 a1), (2, .agg #[.int .i64 a2.f0, .int .i64 a2.f1])] (by kernel_rfl) (Sat.start w _ I0 hI) ?_
 generalize w.heap.size = nx0
 show OK _ K19_0 _ _ _ _ _ _ _ _
 refine OK.seq K19_1 K19_3 (by kernel_rfl) ?_
 refine OK.region 0 O19_1 (by kernel_rfl) ?_
 refine RL.simP (K' := [(6, .pointer (some ⟨nx0 + 1, 0, none⟩)), (5, .pointer (some ⟨nx0, 0, none⟩)), (0, .slice Ap0 a0.length cp0), (1, .int .i64 a1)]) (nx' := nx0 + 2) (L' := [⟨nx0, [.int .i64 a2.f0, .int .i64 a2.f1], 24⟩, ⟨nx0 + 1, [.int .i64 0, .string (⟨#[]⟩ : ByteArray), .slice none 0 0], 30⟩]) [] (RFacts.nil _ _ _) 3 [.no, .no, .no] (by kernel_rfl) (by kernel_rfl) ?_
 refine RL.nil (by kernel_rfl) ?_
 refine QN.then_ ?_
 refine OK.seq K19_4 K19_6 (by kernel_rfl) ?_
 refine OK.region 1 O19_4 (by kernel_rfl) ?_
 refine RL.simP (K' := [(8, .int .i64 (-1)), (9, .pointer (some ⟨nx0 + 2, 0, none⟩)), (6, .pointer (some ⟨nx0 + 1, 0, none⟩)), (5, .pointer (some ⟨nx0, 0, none⟩)), (0, .slice Ap0 a0.length cp0), (1, .int .i64 a1)]) (nx' := nx0 + 3) (L' := [⟨nx0, [.int .i64 a2.f0, .int .i64 a2.f1], 24⟩, ⟨nx0 + 1, [.int .i64 0, .string (⟨#[]⟩ : ByteArray), .slice none 0 0], 30⟩, ⟨nx0 + 2, [.int .i64 0, .string (⟨#[]⟩ : ByteArray), .slice none 0 0], 30⟩]) [] (RFacts.nil _ _ _) 4 [.no, .no, .no, .l 2] (by kernel_rfl) (by kernel_rfl) ?_
 refine RL.nil (by kernel_rfl) ?_
 refine QN.then_ ?_
 refine OK.seq K19_7 K19_46 (by kernel_rfl) ?_
 refine OK.seq K19_8 K19_10 (by kernel_rfl) ?_
 refine OK.region 2 O19_8 (by kernel_rfl) ?_
 refine RL.simK (K' := [(10, .int .i64 0), (8, .int .i64 (-1)), (9, .pointer (some ⟨nx0 + 2, 0, none⟩)), (6, .pointer (some ⟨nx0 + 1, 0, none⟩)), (5, .pointer (some ⟨nx0, 0, none⟩)), (0, .slice Ap0 a0.length cp0), (1, .int .i64 a1)]) [] (RFacts.nil _ _ _) 1 [.no] (by kernel_rfl) (by kernel_rfl) ?_
 refine RL.nil (by kernel_rfl) ?_
 refine QN.then_ ?_
 refine OK.join (fun K' I' _ L' X' => ∃ (x1 : Int) (x2 : ByteArray) (x3 : List Int) (x4 : Int) (A1 : Option Addr) (c1 : Nat), K' = [(6, .pointer (some ⟨nx0 + 1, 0, none⟩)), (8, .int .i64 x4), (9, .pointer (some ⟨nx0 + 2, 0, none⟩))] ∧ L' = [⟨nx0, [.int .i64 a2.f0, .int .i64 a2.f1], 24⟩, ⟨nx0 + 1, [.int .i64 0, .string (⟨#[]⟩ : ByteArray), .slice none 0 0], 30⟩, ⟨nx0 + 2, [.int .i64 x1, .string x2, .slice A1 x3.length c1], 30⟩] ∧ X' = [] ∧ Imm.le I0 I' ∧ x3.length ≤ c1 ∧ Rd (Ty.int .u8) I' A1 x3 ∧ armillaryref29_HighestPrepared.k1 (x1, x2, x3, x4) = some r) ?_ ?_
 ·rintro _ I1 nx1 _ _ ⟨x1, x2, x3, x4, A1, c1, rfl, rfl, rfl, hi1, hl1, hr1, H⟩
  replace H : (some ((⟨x1, x2, x3⟩ : S30), (decide (x4 ≥ 0)))) = some r := H
  refine QN.then_ ?_
  refine OK.seq K19_47 K19_49 (by kernel_rfl) ?_
  refine OK.region 11 O19_47 (by kernel_rfl) ?_
  refine RL.simP (K' := [(7, .bool (decide (x4 ≥ 0))), (6, .pointer (some ⟨nx0 + 1, 0, none⟩))]) (nx' := nx1) (L' := [⟨nx0, [.int .i64 a2.f0, .int .i64 a2.f1], 24⟩, ⟨nx0 + 1, [.int .i64 x1, .string x2, .slice A1 x3.length c1], 30⟩, ⟨nx0 + 2, [.int .i64 x1, .string x2, .slice A1 x3.length c1], 30⟩]) [] (RFacts.nil _ _ _) 5 [.l 2, .no, .no, .l 1, .no] (by kernel_rfl) (by kernel_rfl) ?_
  refine RL.nil (by kernel_rfl) ?_
  refine QN.then_ ?_
  refine OK.ret (by kernel_rfl) ?_
  obtain rfl := Option.some.inj H
  refine QN.body rfl [] (RFacts.nil _ _ _) (.l 1) (.tuple #[.agg #[.int .i64 x1, .string x2, .slice A1 x3.length c1], .bool (decide (x4 ≥ 0))]) (by kernel_rfl) (by kernel_rfl) (by kernel_rfl) ?_ _ (.inr rfl)
  exact fun w' hs' => ⟨_, rfl, I1, A1, c1, rfl, hs'.got _ .slnil, hl1, hr1⟩
 ·intro Q_1 hJ1 hQ1
  obtain ⟨y1, H, HK1⟩ := Option.bind_eq_some_iff.mp H
  refine OK.block 0 K19_11 (by kernel_rfl) ?_
  refine OK.sub (K' := [(0, .slice Ap0 a0.length cp0), (1, .int .i64 a1), (5, .pointer (some ⟨nx0, 0, none⟩)), (6, .pointer (some ⟨nx0 + 1, 0, none⟩)), (8, .int .i64 (-1)), (9, .pointer (some ⟨nx0 + 2, 0, none⟩)), (10, .int .i64 0)]) (L' := [⟨nx0, [.int .i64 a2.f0, .int .i64 a2.f1], 24⟩, ⟨nx0 + 1, [.int .i64 0, .string (⟨#[]⟩ : ByteArray), .slice none 0 0], 30⟩, ⟨nx0 + 2, [.int .i64 0, .string (⟨#[]⟩ : ByteArray), .slice none 0 0], 30⟩]) (by kernel_rfl) (.cons_cons _ (.cons_cons _ (.cons_cons _ .slnil))) (.refl _) ?_
  refine OK.loopInv K19_12 (by kernel_rfl) (fun n_ K' I' _ L' X' => ∃ (x5 : Int) (x6 : ByteArray) (x7 : List Int) (x8 : Int) (x9 : Int) (A2 : Option Addr) (c2 : Nat), K' = [(0, .slice Ap0 a0.length cp0), (1, .int .i64 a1), (5, .pointer (some ⟨nx0, 0, none⟩)), (6, .pointer (some ⟨nx0 + 1, 0, none⟩)), (8, .int .i64 x8), (9, .pointer (some ⟨nx0 + 2, 0, none⟩)), (10, .int .i64 x9)] ∧ L' = [⟨nx0, [.int .i64 a2.f0, .int .i64 a2.f1], 24⟩, ⟨nx0 + 1, [.int .i64 0, .string (⟨#[]⟩ : ByteArray), .slice none 0 0], 30⟩, ⟨nx0 + 2, [.int .i64 x5, .string x6, .slice A2 x7.length c2], 30⟩] ∧ X' = [] ∧ Imm.le I0 I' ∧ x7.length ≤ c2 ∧ Rd (Ty.int .u8) I' A2 x7 ∧ armillaryref29_HighestPrepared.l1 a0 a1 a2 n_ x5 x6 x7 x8 x9 = some y1) k ⟨0, (⟨#[]⟩ : ByteArray), [], (-1), 0, none, 0, rfl, rfl, rfl, (Imm.le_refl _), (Nat.le_refl _), (Rd.nil _ _ _), H⟩ ?_ ?_
  ·rintro _ _ _ _ _ ⟨x5, x6, x7, x8, x9, A2, c2, rfl, rfl, rfl, _, hl2, hr2, H⟩
   cases H
  ·rintro kq1 _ I2 nx2 _ _ ⟨x5, x6, x7, x8, x9, A2, c2, rfl, rfl, rfl, hi2, hl2, hr2, H⟩ Q_l1 hJ2 hQ2
   replace H : (if x9 < (a0.length : Int) then ((if 0 ≤ x9 then (if x9 < (a0.length : Int) then ((if ((a0.getD (x9).toNat z32).f0) ≠ 1 then (some true) else (if ((a0.getD (x9).toNat z32).f3) ≠ a2.f1 then (some true) else (if ((a0.getD (x9).toNat z32).f2) ≥ a2.f0 then (some true) else (if ((a0.getD (x9).toNat z32).f2) ≤ x8 then (some true) else ((armillaryref29_Valid.f kq1 (a0.getD (x9).toNat z32) a1).bind fun t2 => (some (!t2))))))).bind (armillaryref29_HighestPrepared.k5 a0 a1 x5 x6 x7 x8 x9 kq1)) else none) else none).bind (fun (x10, x11, x12, x13) => (armillaryref29_HighestPrepared.l1 a0 a1 a2 kq1 x10 x11 x12 x13 (W .i64 (x9 + 1))))) else (some (x5, x6, x7, x8))) = some y1 := H
   refine OK.seq K19_13 K19_19 (by kernel_rfl) ?_
   refine OK.seq K19_14 K19_16 (by kernel_rfl) ?_
   refine OK.region 3 O19_14 (by kernel_rfl) ?_
   refine RL.simK (K' := [(18, .bool (decide (x9 < (a0.length : Int)))), (0, .slice Ap0 a0.length cp0), (1, .int .i64 a1), (5, .pointer (some ⟨nx0, 0, none⟩)), (6, .pointer (some ⟨nx0 + 1, 0, none⟩)), (8, .int .i64 x8), (9, .pointer (some ⟨nx0 + 2, 0, none⟩)), (10, .int .i64 x9)]) [] (RFacts.nil _ _ _) 4 [.no, .no, .no, .no] (by kernel_rfl) (by kernel_rfl) ?_
   refine RL.nil (by kernel_rfl) ?_
   refine QN.then_ ?_
   refine OK.cond (.tmp 18) K19_17 K19_18 (decide (x9 < (a0.length : Int))) (by kernel_rfl) (by kernel_rfl) (by kernel_rfl) (fun hb => ?_) (fun hb => ?_)
   ·skip
    have hc := (of_decide_eq_true hb)
    rw [if_pos hc] at H
    clear hb
    refine OK.skip (by kernel_rfl) ?_
    refine QN.then_ ?_
    refine OK.seq K19_20 K19_44 (by kernel_rfl) ?_
    refine OK.join (fun K' I' _ L' X' => ∃ (x10 : Int) (x11 : ByteArray) (x12 : List Int) (x13 : Int) (A3 : Option Addr) (c3 : Nat), K' = [(0, .slice Ap0 a0.length cp0), (1, .int .i64 a1), (5, .pointer (some ⟨nx0, 0, none⟩)), (6, .pointer (some ⟨nx0 + 1, 0, none⟩)), (8, .int .i64 x13), (9, .pointer (some ⟨nx0 + 2, 0, none⟩)), (10, .int .i64 x9)] ∧ L' = [⟨nx0, [.int .i64 a2.f0, .int .i64 a2.f1], 24⟩, ⟨nx0 + 1, [.int .i64 0, .string (⟨#[]⟩ : ByteArray), .slice none 0 0], 30⟩, ⟨nx0 + 2, [.int .i64 x10, .string x11, .slice A3 x12.length c3], 30⟩] ∧ X' = [] ∧ Imm.le I2 I' ∧ x12.length ≤ c3 ∧ Rd (Ty.int .u8) I' A3 x12 ∧ (armillaryref29_HighestPrepared.l1 a0 a1 a2 kq1 x10 x11 x12 x13 (W .i64 (x9 + 1))) = some y1) ?_ ?_
    ·rintro _ I3 nx3 _ _ ⟨x10, x11, x12, x13, A3, c3, rfl, rfl, rfl, hi3, hl3, hr3, H⟩
     replace H : (armillaryref29_HighestPrepared.l1 a0 a1 a2 kq1 x10 x11 x12 x13 (W .i64 (x9 + 1))) = some y1 := H
     refine QN.then_ ?_
     refine OK.region 4 O19_44 (by kernel_rfl) ?_
     refine RL.simK (K' := [(10, .int .i64 (W .i64 (x9 + 1))), (0, .slice Ap0 a0.length cp0), (1, .int .i64 a1), (5, .pointer (some ⟨nx0, 0, none⟩)), (6, .pointer (some ⟨nx0 + 1, 0, none⟩)), (8, .int .i64 x13), (9, .pointer (some ⟨nx0 + 2, 0, none⟩))]) [] (RFacts.nil _ _ _) 3 [.no, .no, .no] (by kernel_rfl) (by kernel_rfl) ?_
     refine RL.nil (by kernel_rfl) ?_
     refine QN.sub (K' := [(0, .slice Ap0 a0.length cp0), (1, .int .i64 a1), (5, .pointer (some ⟨nx0, 0, none⟩)), (6, .pointer (some ⟨nx0 + 1, 0, none⟩)), (8, .int .i64 x13), (9, .pointer (some ⟨nx0 + 2, 0, none⟩)), (10, .int .i64 (W .i64 (x9 + 1)))]) (L' := [⟨nx0, [.int .i64 a2.f0, .int .i64 a2.f1], 24⟩, ⟨nx0 + 1, [.int .i64 0, .string (⟨#[]⟩ : ByteArray), .slice none 0 0], 30⟩, ⟨nx0 + 2, [.int .i64 x10, .string x11, .slice A3 x12.length c3], 30⟩]) (by kernel_rfl) (.cons_cons _ (.cons_cons _ (.cons_cons _ .slnil))) (.refl _) ?_
     exact hJ2 _ _ _ _ _ ⟨x10, x11, x12, x13, W .i64 (x9 + 1), A3, c3, rfl, rfl, rfl, (Imm.le_trans hi2 hi3), hl3, hr3, H⟩
    ·intro Q_2 hJ3 hQ3
     obtain ⟨y2, H, HK2⟩ := Option.bind_eq_some_iff.mp H
     refine OK.block 1 K19_21 (by kernel_rfl) ?_
     refine OK.seq K19_22 K19_24 (by kernel_rfl) ?_
     refine OK.region 5 O19_22 (by kernel_rfl) ?_
     refine RL.simK (K' := [(22, .int .i64 x9), (21, .slice Ap0 a0.length cp0), (0, .slice Ap0 a0.length cp0), (1, .int .i64 a1), (5, .pointer (some ⟨nx0, 0, none⟩)), (6, .pointer (some ⟨nx0 + 1, 0, none⟩)), (8, .int .i64 x8), (9, .pointer (some ⟨nx0 + 2, 0, none⟩)), (10, .int .i64 x9)]) [] (RFacts.nil _ _ _) 2 [.no, .no] (by kernel_rfl) (by kernel_rfl) ?_
     by_cases hib0 : 0 ≤ x9
     case neg => rw [if_neg hib0] at H; cases H
     rw [if_pos hib0] at H
     by_cases hib1 : x9 < (a0.length : Int)
     case neg => rw [if_neg hib1] at H; cases H
     rw [if_pos hib1] at H
     obtain ⟨g1_, o1_, hA1_, A1_5_2_, c1_5_2_, hl1_5_2_, hr1_5_2_, hc1_⟩ := t32_at (Rd.ext hi2 hrp0) x9 hib0 hib1
     refine RL.idx 8 .i64 x9 hA1_ a0.length cp0 (some 23) (by kernel_rfl) (by kernel_rfl) (T := 22) (e := 32) (by kernel_rfl) (by kernel_rfl) hib0 hib1 (K' := [(23, .pointer (some ⟨g1_, o1_ + (x9).toNat * 8, none⟩)), (22, .int .i64 x9), (21, .slice Ap0 a0.length cp0), (0, .slice Ap0 a0.length cp0), (1, .int .i64 a1), (5, .pointer (some ⟨nx0, 0, none⟩)), (6, .pointer (some ⟨nx0 + 1, 0, none⟩)), (8, .int .i64 x8), (9, .pointer (some ⟨nx0 + 2, 0, none⟩)), (10, .int .i64 x9)]) (by kernel_rfl) ?_
     refine RL.simP (K' := [(11, .pointer (some ⟨nx2, 0, none⟩)), (0, .slice Ap0 a0.length cp0), (1, .int .i64 a1), (5, .pointer (some ⟨nx0, 0, none⟩)), (6, .pointer (some ⟨nx0 + 1, 0, none⟩)), (8, .int .i64 x8), (9, .pointer (some ⟨nx0 + 2, 0, none⟩)), (10, .int .i64 x9)]) (nx' := nx2 + 1) (L' := [⟨nx0, [.int .i64 a2.f0, .int .i64 a2.f1], 24⟩, ⟨nx0 + 1, [.int .i64 0, .string (⟨#[]⟩ : ByteArray), .slice none 0 0], 30⟩, ⟨nx0 + 2, [.int .i64 x5, .string x6, .slice A2 x7.length c2], 30⟩, ⟨nx2, [.int .i64 ((a0.getD (x9).toNat z32).f0), .int .i64 ((a0.getD (x9).toNat z32).f1), .int .i64 ((a0.getD (x9).toNat z32).f2), .int .i64 ((a0.getD (x9).toNat z32).f3), .int .u32 ((a0.getD (x9).toNat z32).f4), .int .i64 ((a0.getD (x9).toNat z32).f5.f0), .string ((a0.getD (x9).toNat z32).f5.f1), .slice A1_5_2_ (((a0.getD (x9).toNat z32).f5.f2).length) c1_5_2_], 32⟩]) [(⟨g1_, o1_ + (x9).toNat * 8, none⟩, .int .i64 ((a0.getD (x9).toNat z32).f0)), (⟨g1_, o1_ + (x9).toNat * 8 + 1, none⟩, .int .i64 ((a0.getD (x9).toNat z32).f1)), (⟨g1_, o1_ + (x9).toNat * 8 + 2, none⟩, .int .i64 ((a0.getD (x9).toNat z32).f2)), (⟨g1_, o1_ + (x9).toNat * 8 + 3, none⟩, .int .i64 ((a0.getD (x9).toNat z32).f3)), (⟨g1_, o1_ + (x9).toNat * 8 + 4, none⟩, .int .u32 ((a0.getD (x9).toNat z32).f4)), (⟨g1_, o1_ + (x9).toNat * 8 + 5, none⟩, .int .i64 ((a0.getD (x9).toNat z32).f5.f0)), (⟨g1_, o1_ + (x9).toNat * 8 + 6, none⟩, .string ((a0.getD (x9).toNat z32).f5.f1)), (⟨g1_, o1_ + (x9).toNat * 8 + 7, none⟩, .slice A1_5_2_ (((a0.getD (x9).toNat z32).f5.f2).length) c1_5_2_)] (RFacts.imm (hc1_ 0 _ rfl) (RFacts.imm (hc1_ 1 _ rfl) (RFacts.imm (hc1_ 2 _ rfl) (RFacts.imm (hc1_ 3 _ rfl) (RFacts.imm (hc1_ 4 _ rfl) (RFacts.imm (hc1_ 5 _ rfl) (RFacts.imm (hc1_ 6 _ rfl) (RFacts.imm (hc1_ 7 _ rfl) (RFacts.nil _ _ _))))))))) 3 [.r 0, .no, .l 3] (by kernel_rfl) (by kernel_rfl) ?_
     refine RL.nil (by kernel_rfl) ?_
     refine QN.then_ ?_
     refine OK.seq K19_25 K19_31 (by kernel_rfl) ?_
     refine OK.seq K19_26 K19_28 (by kernel_rfl) ?_
     refine OK.join (fun K' I' _ L' X' => ∃ (x14 : Bool), K' = [(0, .slice Ap0 a0.length cp0), (1, .int .i64 a1), (5, .pointer (some ⟨nx0, 0, none⟩)), (6, .pointer (some ⟨nx0 + 1, 0, none⟩)), (8, .int .i64 x8), (9, .pointer (some ⟨nx0 + 2, 0, none⟩)), (10, .int .i64 x9), (11, .pointer (some ⟨nx2, 0, none⟩)), (53, .bool x14)] ∧ L' = [⟨nx0, [.int .i64 a2.f0, .int .i64 a2.f1], 24⟩, ⟨nx0 + 1, [.int .i64 0, .string (⟨#[]⟩ : ByteArray), .slice none 0 0], 30⟩, ⟨nx0 + 2, [.int .i64 x5, .string x6, .slice A2 x7.length c2], 30⟩, ⟨nx2, [.int .i64 ((a0.getD (x9).toNat z32).f0), .int .i64 ((a0.getD (x9).toNat z32).f1), .int .i64 ((a0.getD (x9).toNat z32).f2), .int .i64 ((a0.getD (x9).toNat z32).f3), .int .u32 ((a0.getD (x9).toNat z32).f4), .int .i64 ((a0.getD (x9).toNat z32).f5.f0), .string ((a0.getD (x9).toNat z32).f5.f1), .slice A1_5_2_ (((a0.getD (x9).toNat z32).f5.f2).length) c1_5_2_], 32⟩] ∧ X' = [] ∧ Imm.le I2 I' ∧ armillaryref29_HighestPrepared.k5 a0 a1 x5 x6 x7 x8 x9 kq1 x14 = some y2) ?_ ?_
     ·rintro _ I4 nx4 _ _ ⟨x14, rfl, rfl, rfl, hi4, H⟩
      replace H : (if x14 = true then (some (x5, x6, x7, x8)) else ((armillaryref29_Prepared.f kq1 a0 a1 (⟨(a0.getD (x9).toNat z32).f2, (a0.getD (x9).toNat z32).f3⟩ : S24)).bind fun t1 => ((if t1.2 = true then (some (t1.1 == ((a0.getD (x9).toNat z32).f4))) else (some false)).bind (armillaryref29_HighestPrepared.k4 a0 x5 x6 x7 x8 x9)))) = some y2 := H
      refine QN.then_ ?_
      refine OK.cond (.tmp 53) K19_29 K19_30 x14 (by kernel_rfl) (by kernel_rfl) (by kernel_rfl) (fun hb => ?_) (fun hb => ?_)
      ·skip
       have hc := hb
       rw [if_pos hc] at H
       clear hb
       refine OK.exit 1 (by kernel_rfl) ?_
       refine QN.thenE ?_
       refine QN.blkE ?_
       obtain rfl := Option.some.inj H
       refine QN.sub (K' := [(0, .slice Ap0 a0.length cp0), (1, .int .i64 a1), (5, .pointer (some ⟨nx0, 0, none⟩)), (6, .pointer (some ⟨nx0 + 1, 0, none⟩)), (8, .int .i64 x8), (9, .pointer (some ⟨nx0 + 2, 0, none⟩)), (10, .int .i64 x9)]) (L' := [⟨nx0, [.int .i64 a2.f0, .int .i64 a2.f1], 24⟩, ⟨nx0 + 1, [.int .i64 0, .string (⟨#[]⟩ : ByteArray), .slice none 0 0], 30⟩, ⟨nx0 + 2, [.int .i64 x5, .string x6, .slice A2 x7.length c2], 30⟩]) (by kernel_rfl) (.cons_cons _ (.cons_cons _ (.cons_cons _ (.cons _ .slnil)))) (.refl _) ?_
       exact hJ3 _ _ _ _ _ ⟨x5, x6, x7, x8, A2, c2, rfl, rfl, rfl, hi4, hl2, (Rd.ext hi4 hr2), HK2⟩
      ·skip
       have hc := (Bool.eq_false_iff.1 hb)
       rw [if_neg hc] at H
       clear hb
       refine OK.skip (by kernel_rfl) ?_
       refine QN.then_ ?_
       refine OK.seq K19_32 K19_34 (by kernel_rfl) ?_
       refine OK.region 7 O19_32 (by kernel_rfl) ?_
       refine RL.simK (K' := [(61, .agg #[.int .i64 ((a0.getD (x9).toNat z32).f2), .int .i64 ((a0.getD (x9).toNat z32).f3)]), (56, .int .i64 a1), (55, .slice Ap0 a0.length cp0), (0, .slice Ap0 a0.length cp0), (1, .int .i64 a1), (5, .pointer (some ⟨nx0, 0, none⟩)), (6, .pointer (some ⟨nx0 + 1, 0, none⟩)), (8, .int .i64 x8), (9, .pointer (some ⟨nx0 + 2, 0, none⟩)), (10, .int .i64 x9), (11, .pointer (some ⟨nx2, 0, none⟩))]) [] (RFacts.nil _ _ _) 7 [.no, .no, .no, .l 3, .no, .l 3, .no] (by kernel_rfl) (by kernel_rfl) ?_
       obtain ⟨t1, hA1, H⟩ := Option.bind_eq_some_iff.mp H
       refine RL.callP 15 [.slice Ap0 a0.length cp0, .int .i64 a1, .agg #[.int .i64 ((a0.getD (x9).toNat z32).f2), .int .i64 ((a0.getD (x9).toNat z32).f3)]] (some 62) (fun w => armillaryref29_Prepared.Post I4 w t1) (by kernel_rfl) (by kernel_rfl) (fun w hs => armillaryref29_Prepared.calls kq1 I4 a0 Ap0 cp0 a1 (⟨(a0.getD (x9).toNat z32).f2, (a0.getD (x9).toNat z32).f3⟩ : S24) w hs.im hlp0 (Rd.ext (Imm.le_trans hi2 hi4) hrp0) t1 hA1) ?_
       rintro w v w' hs ⟨I5, rfl, hg⟩
       have hi5 := hg.le
       refine RL.resume (X' := []) rfl (hs.call hg) ?_
       clear hs hg
       generalize w'.heap.size = nx5
       clear w w'
       refine RL.simK (K' := [(13, .bool t1.2), (12, .int .u32 t1.1), (0, .slice Ap0 a0.length cp0), (1, .int .i64 a1), (5, .pointer (some ⟨nx0, 0, none⟩)), (6, .pointer (some ⟨nx0 + 1, 0, none⟩)), (8, .int .i64 x8), (9, .pointer (some ⟨nx0 + 2, 0, none⟩)), (10, .int .i64 x9), (11, .pointer (some ⟨nx2, 0, none⟩))]) [] (RFacts.nil _ _ _) 5 [.no, .no, .no, .no, .no] (by kernel_rfl) (by kernel_rfl) ?_
       refine RL.nil (by kernel_rfl) ?_
       refine QN.then_ ?_
       refine OK.seq K19_35 K19_37 (by kernel_rfl) ?_
       refine OK.join (fun K' I' _ L' X' => ∃ (x15 : Bool), K' = [(0, .slice Ap0 a0.length cp0), (1, .int .i64 a1), (5, .pointer (some ⟨nx0, 0, none⟩)), (6, .pointer (some ⟨nx0 + 1, 0, none⟩)), (8, .int .i64 x8), (9, .pointer (some ⟨nx0 + 2, 0, none⟩)), (10, .int .i64 x9), (11, .pointer (some ⟨nx2, 0, none⟩)), (71, .bool x15)] ∧ L' = [⟨nx0, [.int .i64 a2.f0, .int .i64 a2.f1], 24⟩, ⟨nx0 + 1, [.int .i64 0, .string (⟨#[]⟩ : ByteArray), .slice none 0 0], 30⟩, ⟨nx0 + 2, [.int .i64 x5, .string x6, .slice A2 x7.length c2], 30⟩, ⟨nx2, [.int .i64 ((a0.getD (x9).toNat z32).f0), .int .i64 ((a0.getD (x9).toNat z32).f1), .int .i64 ((a0.getD (x9).toNat z32).f2), .int .i64 ((a0.getD (x9).toNat z32).f3), .int .u32 ((a0.getD (x9).toNat z32).f4), .int .i64 ((a0.getD (x9).toNat z32).f5.f0), .string ((a0.getD (x9).toNat z32).f5.f1), .slice A1_5_2_ (((a0.getD (x9).toNat z32).f5.f2).length) c1_5_2_], 32⟩] ∧ X' = [] ∧ Imm.le I5 I' ∧ armillaryref29_HighestPrepared.k4 a0 x5 x6 x7 x8 x9 x15 = some y2) ?_ ?_
       ·rintro _ I6 nx6 _ _ ⟨x15, rfl, rfl, rfl, hi6, H⟩
        replace H : ((if x15 = true then (some ((a0.getD (x9).toNat z32).f5.f0, (a0.getD (x9).toNat z32).f5.f1, (a0.getD (x9).toNat z32).f5.f2, (a0.getD (x9).toNat z32).f2)) else (some (x5, x6, x7, x8))).bind (armillaryref29_HighestPrepared.k3)) = some y2 := H
        refine QN.then_ ?_
        refine OK.join (fun K' I' _ L' X' => ∃ (x16 : Int) (x17 : ByteArray) (x18 : List Int) (x19 : Int) (A4 : Option Addr) (c4 : Nat), K' = [(0, .slice Ap0 a0.length cp0), (1, .int .i64 a1), (5, .pointer (some ⟨nx0, 0, none⟩)), (6, .pointer (some ⟨nx0 + 1, 0, none⟩)), (8, .int .i64 x19), (9, .pointer (some ⟨nx0 + 2, 0, none⟩)), (10, .int .i64 x9)] ∧ L' = [⟨nx0, [.int .i64 a2.f0, .int .i64 a2.f1], 24⟩, ⟨nx0 + 1, [.int .i64 0, .string (⟨#[]⟩ : ByteArray), .slice none 0 0], 30⟩, ⟨nx0 + 2, [.int .i64 x16, .string x17, .slice A4 x18.length c4], 30⟩, ⟨nx2, [.int .i64 ((a0.getD (x9).toNat z32).f0), .int .i64 ((a0.getD (x9).toNat z32).f1), .int .i64 ((a0.getD (x9).toNat z32).f2), .int .i64 ((a0.getD (x9).toNat z32).f3), .int .u32 ((a0.getD (x9).toNat z32).f4), .int .i64 ((a0.getD (x9).toNat z32).f5.f0), .string ((a0.getD (x9).toNat z32).f5.f1), .slice A1_5_2_ (((a0.getD (x9).toNat z32).f5.f2).length) c1_5_2_], 32⟩] ∧ X' = [] ∧ Imm.le I6 I' ∧ x18.length ≤ c4 ∧ Rd (Ty.int .u8) I' A4 x18 ∧ armillaryref29_HighestPrepared.k3 (x16, x17, x18, x19) = some y2) ?_ ?_
        ·rintro _ I7 nx7 _ _ ⟨x16, x17, x18, x19, A4, c4, rfl, rfl, rfl, hi7, hl4, hr4, H⟩
         replace H : (some (x16, x17, x18, x19)) = some y2 := H
         refine QN.blkN ?_
         obtain rfl := Option.some.inj H
         refine QN.sub (K' := [(0, .slice Ap0 a0.length cp0), (1, .int .i64 a1), (5, .pointer (some ⟨nx0, 0, none⟩)), (6, .pointer (some ⟨nx0 + 1, 0, none⟩)), (8, .int .i64 x19), (9, .pointer (some ⟨nx0 + 2, 0, none⟩)), (10, .int .i64 x9)]) (L' := [⟨nx0, [.int .i64 a2.f0, .int .i64 a2.f1], 24⟩, ⟨nx0 + 1, [.int .i64 0, .string (⟨#[]⟩ : ByteArray), .slice none 0 0], 30⟩, ⟨nx0 + 2, [.int .i64 x16, .string x17, .slice A4 x18.length c4], 30⟩]) (by kernel_rfl) (.cons_cons _ (.cons_cons _ (.cons_cons _ (.cons _ .slnil)))) (.refl _) ?_
         exact hJ3 _ _ _ _ _ ⟨x16, x17, x18, x19, A4, c4, rfl, rfl, rfl, (Imm.le_trans (Imm.le_trans (Imm.le_trans hi4 hi5) hi6) hi7), hl4, hr4, HK2⟩
        ·intro Q_3 hJ6 hQ6
         obtain ⟨y5, H, HK5⟩ := Option.bind_eq_some_iff.mp H
         refine OK.cond (.tmp 71) K19_38 K19_43 x15 (by kernel_rfl) (by kernel_rfl) (by kernel_rfl) (fun hb => ?_) (fun hb => ?_)
         ·skip
          have hc := hb
          rw [if_pos hc] at H
          clear hb
          refine OK.seq K19_39 K19_41 (by kernel_rfl) ?_
          refine OK.region 9 O19_39 (by kernel_rfl) ?_
          refine RL.simK (K' := [(8, .int .i64 ((a0.getD (x9).toNat z32).f2)), (0, .slice Ap0 a0.length cp0), (1, .int .i64 a1), (5, .pointer (some ⟨nx0, 0, none⟩)), (6, .pointer (some ⟨nx0 + 1, 0, none⟩)), (9, .pointer (some ⟨nx0 + 2, 0, none⟩)), (10, .int .i64 x9), (11, .pointer (some ⟨nx2, 0, none⟩))]) [] (RFacts.nil _ _ _) 3 [.no, .l 3, .no] (by kernel_rfl) (by kernel_rfl) ?_
          refine RL.nil (by kernel_rfl) ?_
          refine QN.then_ ?_
          refine OK.region 10 O19_41 (by kernel_rfl) ?_
          refine RL.simP (K' := [(8, .int .i64 ((a0.getD (x9).toNat z32).f2)), (0, .slice Ap0 a0.length cp0), (1, .int .i64 a1), (5, .pointer (some ⟨nx0, 0, none⟩)), (6, .pointer (some ⟨nx0 + 1, 0, none⟩)), (9, .pointer (some ⟨nx0 + 2, 0, none⟩)), (10, .int .i64 x9)]) (nx' := nx6) (L' := [⟨nx0, [.int .i64 a2.f0, .int .i64 a2.f1], 24⟩, ⟨nx0 + 1, [.int .i64 0, .string (⟨#[]⟩ : ByteArray), .slice none 0 0], 30⟩, ⟨nx0 + 2, [.int .i64 ((a0.getD (x9).toNat z32).f5.f0), .string ((a0.getD (x9).toNat z32).f5.f1), .slice A1_5_2_ (((a0.getD (x9).toNat z32).f5.f2).length) c1_5_2_], 30⟩, ⟨nx2, [.int .i64 ((a0.getD (x9).toNat z32).f0), .int .i64 ((a0.getD (x9).toNat z32).f1), .int .i64 ((a0.getD (x9).toNat z32).f2), .int .i64 ((a0.getD (x9).toNat z32).f3), .int .u32 ((a0.getD (x9).toNat z32).f4), .int .i64 ((a0.getD (x9).toNat z32).f5.f0), .string ((a0.getD (x9).toNat z32).f5.f1), .slice A1_5_2_ (((a0.getD (x9).toNat z32).f5.f2).length) c1_5_2_], 32⟩]) [] (RFacts.nil _ _ _) 3 [.no, .l 3, .l 2] (by kernel_rfl) (by kernel_rfl) ?_
          refine RL.nil (by kernel_rfl) ?_
          obtain rfl := Option.some.inj H
          refine QN.sub (K' := [(0, .slice Ap0 a0.length cp0), (1, .int .i64 a1), (5, .pointer (some ⟨nx0, 0, none⟩)), (6, .pointer (some ⟨nx0 + 1, 0, none⟩)), (8, .int .i64 ((a0.getD (x9).toNat z32).f2)), (9, .pointer (some ⟨nx0 + 2, 0, none⟩)), (10, .int .i64 x9)]) (L' := [⟨nx0, [.int .i64 a2.f0, .int .i64 a2.f1], 24⟩, ⟨nx0 + 1, [.int .i64 0, .string (⟨#[]⟩ : ByteArray), .slice none 0 0], 30⟩, ⟨nx0 + 2, [.int .i64 ((a0.getD (x9).toNat z32).f5.f0), .string ((a0.getD (x9).toNat z32).f5.f1), .slice A1_5_2_ (((a0.getD (x9).toNat z32).f5.f2).length) c1_5_2_], 30⟩, ⟨nx2, [.int .i64 ((a0.getD (x9).toNat z32).f0), .int .i64 ((a0.getD (x9).toNat z32).f1), .int .i64 ((a0.getD (x9).toNat z32).f2), .int .i64 ((a0.getD (x9).toNat z32).f3), .int .u32 ((a0.getD (x9).toNat z32).f4), .int .i64 ((a0.getD (x9).toNat z32).f5.f0), .string ((a0.getD (x9).toNat z32).f5.f1), .slice A1_5_2_ (((a0.getD (x9).toNat z32).f5.f2).length) c1_5_2_], 32⟩]) (by kernel_rfl) (.cons_cons _ (.cons_cons _ (.cons_cons _ (.cons_cons _ .slnil)))) (.refl _) ?_
          exact hJ6 _ _ _ _ _ ⟨(a0.getD (x9).toNat z32).f5.f0, (a0.getD (x9).toNat z32).f5.f1, (a0.getD (x9).toNat z32).f5.f2, (a0.getD (x9).toNat z32).f2, A1_5_2_, c1_5_2_, rfl, rfl, rfl, (Imm.le_refl _), hl1_5_2_, (Rd.ext (Imm.le_trans (Imm.le_trans hi4 hi5) hi6) hr1_5_2_), HK5⟩
         ·skip
          have hc := (Bool.eq_false_iff.1 hb)
          rw [if_neg hc] at H
          clear hb
          refine OK.skip (by kernel_rfl) ?_
          obtain rfl := Option.some.inj H
          refine QN.sub (K' := [(0, .slice Ap0 a0.length cp0), (1, .int .i64 a1), (5, .pointer (some ⟨nx0, 0, none⟩)), (6, .pointer (some ⟨nx0 + 1, 0, none⟩)), (8, .int .i64 x8), (9, .pointer (some ⟨nx0 + 2, 0, none⟩)), (10, .int .i64 x9)]) (L' := [⟨nx0, [.int .i64 a2.f0, .int .i64 a2.f1], 24⟩, ⟨nx0 + 1, [.int .i64 0, .string (⟨#[]⟩ : ByteArray), .slice none 0 0], 30⟩, ⟨nx0 + 2, [.int .i64 x5, .string x6, .slice A2 x7.length c2], 30⟩, ⟨nx2, [.int .i64 ((a0.getD (x9).toNat z32).f0), .int .i64 ((a0.getD (x9).toNat z32).f1), .int .i64 ((a0.getD (x9).toNat z32).f2), .int .i64 ((a0.getD (x9).toNat z32).f3), .int .u32 ((a0.getD (x9).toNat z32).f4), .int .i64 ((a0.getD (x9).toNat z32).f5.f0), .string ((a0.getD (x9).toNat z32).f5.f1), .slice A1_5_2_ (((a0.getD (x9).toNat z32).f5.f2).length) c1_5_2_], 32⟩]) (by kernel_rfl) (.cons_cons _ (.cons_cons _ (.cons_cons _ (.cons_cons _ .slnil)))) (.refl _) ?_
          exact hJ6 _ _ _ _ _ ⟨x5, x6, x7, x8, A2, c2, rfl, rfl, rfl, (Imm.le_refl _), hl2, (Rd.ext (Imm.le_trans (Imm.le_trans hi4 hi5) hi6) hr2), HK5⟩
       ·intro Q_4 hJ5 hQ5
        obtain ⟨y4, H, HK4⟩ := Option.bind_eq_some_iff.mp H
        refine OK.region 8 O19_35 (by kernel_rfl) ?_
        refine RL.simK (K' := [(66, .bool t1.2), (12, .int .u32 t1.1), (0, .slice Ap0 a0.length cp0), (1, .int .i64 a1), (5, .pointer (some ⟨nx0, 0, none⟩)), (6, .pointer (some ⟨nx0 + 1, 0, none⟩)), (8, .int .i64 x8), (9, .pointer (some ⟨nx0 + 2, 0, none⟩)), (10, .int .i64 x9), (11, .pointer (some ⟨nx2, 0, none⟩))]) [] (RFacts.nil _ _ _) 2 [.no, .no] (by kernel_rfl) (by kernel_rfl) ?_
        refine RL.cases t1.2 (fun hb => ?_) (fun hb => ?_)
        ·have hc := hb
         rw [hb]
         rw [if_pos hc] at H; clear hb
         refine RL.simK (K' := [(71, .bool (t1.1 == ((a0.getD (x9).toNat z32).f4))), (0, .slice Ap0 a0.length cp0), (1, .int .i64 a1), (5, .pointer (some ⟨nx0, 0, none⟩)), (6, .pointer (some ⟨nx0 + 1, 0, none⟩)), (8, .int .i64 x8), (9, .pointer (some ⟨nx0 + 2, 0, none⟩)), (10, .int .i64 x9), (11, .pointer (some ⟨nx2, 0, none⟩))]) [] (RFacts.nil _ _ _) 5 [.no, .no, .l 3, .no, .no] (by kernel_rfl) (by kernel_rfl) ?_
         refine RL.nil (by kernel_rfl) ?_
         obtain rfl := Option.some.inj H
         refine QN.sub (K' := [(0, .slice Ap0 a0.length cp0), (1, .int .i64 a1), (5, .pointer (some ⟨nx0, 0, none⟩)), (6, .pointer (some ⟨nx0 + 1, 0, none⟩)), (8, .int .i64 x8), (9, .pointer (some ⟨nx0 + 2, 0, none⟩)), (10, .int .i64 x9), (11, .pointer (some ⟨nx2, 0, none⟩)), (71, .bool (t1.1 == ((a0.getD (x9).toNat z32).f4)))]) (L' := [⟨nx0, [.int .i64 a2.f0, .int .i64 a2.f1], 24⟩, ⟨nx0 + 1, [.int .i64 0, .string (⟨#[]⟩ : ByteArray), .slice none 0 0], 30⟩, ⟨nx0 + 2, [.int .i64 x5, .string x6, .slice A2 x7.length c2], 30⟩, ⟨nx2, [.int .i64 ((a0.getD (x9).toNat z32).f0), .int .i64 ((a0.getD (x9).toNat z32).f1), .int .i64 ((a0.getD (x9).toNat z32).f2), .int .i64 ((a0.getD (x9).toNat z32).f3), .int .u32 ((a0.getD (x9).toNat z32).f4), .int .i64 ((a0.getD (x9).toNat z32).f5.f0), .string ((a0.getD (x9).toNat z32).f5.f1), .slice A1_5_2_ (((a0.getD (x9).toNat z32).f5.f2).length) c1_5_2_], 32⟩]) (by kernel_rfl) (.cons_cons _ (.cons_cons _ (.cons_cons _ (.cons_cons _ .slnil)))) (.refl _) ?_
         exact hJ5 _ _ _ _ _ ⟨(t1.1 == ((a0.getD (x9).toNat z32).f4)), rfl, rfl, rfl, (Imm.le_refl _), HK4⟩
        ·have hc := (Bool.eq_false_iff.1 hb)
         rw [hb]
         rw [if_neg hc] at H; clear hb
         refine RL.simK (K' := [(71, .bool false), (0, .slice Ap0 a0.length cp0), (1, .int .i64 a1), (5, .pointer (some ⟨nx0, 0, none⟩)), (6, .pointer (some ⟨nx0 + 1, 0, none⟩)), (8, .int .i64 x8), (9, .pointer (some ⟨nx0 + 2, 0, none⟩)), (10, .int .i64 x9), (11, .pointer (some ⟨nx2, 0, none⟩))]) [] (RFacts.nil _ _ _) 5 [.no, .no, .no, .no, .no] (by kernel_rfl) (by kernel_rfl) ?_
         refine RL.nil (by kernel_rfl) ?_
         obtain rfl := Option.some.inj H
         refine QN.sub (K' := [(0, .slice Ap0 a0.length cp0), (1, .int .i64 a1), (5, .pointer (some ⟨nx0, 0, none⟩)), (6, .pointer (some ⟨nx0 + 1, 0, none⟩)), (8, .int .i64 x8), (9, .pointer (some ⟨nx0 + 2, 0, none⟩)), (10, .int .i64 x9), (11, .pointer (some ⟨nx2, 0, none⟩)), (71, .bool false)]) (L' := [⟨nx0, [.int .i64 a2.f0, .int .i64 a2.f1], 24⟩, ⟨nx0 + 1, [.int .i64 0, .string (⟨#[]⟩ : ByteArray), .slice none 0 0], 30⟩, ⟨nx0 + 2, [.int .i64 x5, .string x6, .slice A2 x7.length c2], 30⟩, ⟨nx2, [.int .i64 ((a0.getD (x9).toNat z32).f0), .int .i64 ((a0.getD (x9).toNat z32).f1), .int .i64 ((a0.getD (x9).toNat z32).f2), .int .i64 ((a0.getD (x9).toNat z32).f3), .int .u32 ((a0.getD (x9).toNat z32).f4), .int .i64 ((a0.getD (x9).toNat z32).f5.f0), .string ((a0.getD (x9).toNat z32).f5.f1), .slice A1_5_2_ (((a0.getD (x9).toNat z32).f5.f2).length) c1_5_2_], 32⟩]) (by kernel_rfl) (.cons_cons _ (.cons_cons _ (.cons_cons _ (.cons_cons _ .slnil)))) (.refl _) ?_
         exact hJ5 _ _ _ _ _ ⟨false, rfl, rfl, rfl, (Imm.le_refl _), HK4⟩
     ·intro Q_5 hJ4 hQ4
      obtain ⟨y3, H, HK3⟩ := Option.bind_eq_some_iff.mp H
      refine OK.region 6 O19_26 (by kernel_rfl) ?_
      refine RL.simK (K' := [(28, .bool (((a0.getD (x9).toNat z32).f0) != 1)), (11, .pointer (some ⟨nx2, 0, none⟩)), (0, .slice Ap0 a0.length cp0), (1, .int .i64 a1), (5, .pointer (some ⟨nx0, 0, none⟩)), (6, .pointer (some ⟨nx0 + 1, 0, none⟩)), (8, .int .i64 x8), (9, .pointer (some ⟨nx0 + 2, 0, none⟩)), (10, .int .i64 x9)]) [] (RFacts.nil _ _ _) 4 [.no, .l 3, .no, .no] (by kernel_rfl) (by kernel_rfl) ?_
      refine RL.cases (((a0.getD (x9).toNat z32).f0) != 1) (fun hb => ?_) (fun hb => ?_)
      ·have hc := (bne_iff_ne.1 hb)
       rw [hb]
       rw [if_pos hc] at H; clear hb
       refine RL.simK (K' := [(53, .bool true), (11, .pointer (some ⟨nx2, 0, none⟩)), (0, .slice Ap0 a0.length cp0), (1, .int .i64 a1), (5, .pointer (some ⟨nx0, 0, none⟩)), (6, .pointer (some ⟨nx0 + 1, 0, none⟩)), (8, .int .i64 x8), (9, .pointer (some ⟨nx0 + 2, 0, none⟩)), (10, .int .i64 x9)]) [] (RFacts.nil _ _ _) 25 [.no, .no, .no, .no, .no, .no, .no, .no, .no, .no, .no, .no, .no, .no, .no, .no, .no, .no, .no, .no, .no, .no, .no, .no, .no] (by kernel_rfl) (by kernel_rfl) ?_
       refine RL.nil (by kernel_rfl) ?_
       obtain rfl := Option.some.inj H
       refine QN.sub (K' := [(0, .slice Ap0 a0.length cp0), (1, .int .i64 a1), (5, .pointer (some ⟨nx0, 0, none⟩)), (6, .pointer (some ⟨nx0 + 1, 0, none⟩)), (8, .int .i64 x8), (9, .pointer (some ⟨nx0 + 2, 0, none⟩)), (10, .int .i64 x9), (11, .pointer (some ⟨nx2, 0, none⟩)), (53, .bool true)]) (L' := [⟨nx0, [.int .i64 a2.f0, .int .i64 a2.f1], 24⟩, ⟨nx0 + 1, [.int .i64 0, .string (⟨#[]⟩ : ByteArray), .slice none 0 0], 30⟩, ⟨nx0 + 2, [.int .i64 x5, .string x6, .slice A2 x7.length c2], 30⟩, ⟨nx2, [.int .i64 ((a0.getD (x9).toNat z32).f0), .int .i64 ((a0.getD (x9).toNat z32).f1), .int .i64 ((a0.getD (x9).toNat z32).f2), .int .i64 ((a0.getD (x9).toNat z32).f3), .int .u32 ((a0.getD (x9).toNat z32).f4), .int .i64 ((a0.getD (x9).toNat z32).f5.f0), .string ((a0.getD (x9).toNat z32).f5.f1), .slice A1_5_2_ (((a0.getD (x9).toNat z32).f5.f2).length) c1_5_2_], 32⟩]) (by kernel_rfl) (.cons_cons _ (.cons_cons _ (.cons_cons _ (.cons_cons _ .slnil)))) (.refl _) ?_
       exact hJ4 _ _ _ _ _ ⟨true, rfl, rfl, rfl, (Imm.le_refl _), HK3⟩
      ·have hc := (not_not_intro (bne_eq_false_iff_eq.1 hb))
       rw [hb]
       rw [if_neg hc] at H; clear hb
       refine RL.simK (K' := [(35, .bool (((a0.getD (x9).toNat z32).f3) != a2.f1)), (11, .pointer (some ⟨nx2, 0, none⟩)), (0, .slice Ap0 a0.length cp0), (1, .int .i64 a1), (5, .pointer (some ⟨nx0, 0, none⟩)), (6, .pointer (some ⟨nx0 + 1, 0, none⟩)), (8, .int .i64 x8), (9, .pointer (some ⟨nx0 + 2, 0, none⟩)), (10, .int .i64 x9)]) [] (RFacts.nil _ _ _) 7 [.no, .l 3, .no, .l 0, .no, .no, .no] (by kernel_rfl) (by kernel_rfl) ?_
       refine RL.cases (((a0.getD (x9).toNat z32).f3) != a2.f1) (fun hb => ?_) (fun hb => ?_)
       ·have hc := (bne_iff_ne.1 hb)
        rw [hb]
        rw [if_pos hc] at H; clear hb
        refine RL.simK (K' := [(53, .bool true), (11, .pointer (some ⟨nx2, 0, none⟩)), (0, .slice Ap0 a0.length cp0), (1, .int .i64 a1), (5, .pointer (some ⟨nx0, 0, none⟩)), (6, .pointer (some ⟨nx0 + 1, 0, none⟩)), (8, .int .i64 x8), (9, .pointer (some ⟨nx0 + 2, 0, none⟩)), (10, .int .i64 x9)]) [] (RFacts.nil _ _ _) 18 [.no, .no, .no, .no, .no, .no, .no, .no, .no, .no, .no, .no, .no, .no, .no, .no, .no, .no] (by kernel_rfl) (by kernel_rfl) ?_
        refine RL.nil (by kernel_rfl) ?_
        obtain rfl := Option.some.inj H
        refine QN.sub (K' := [(0, .slice Ap0 a0.length cp0), (1, .int .i64 a1), (5, .pointer (some ⟨nx0, 0, none⟩)), (6, .pointer (some ⟨nx0 + 1, 0, none⟩)), (8, .int .i64 x8), (9, .pointer (some ⟨nx0 + 2, 0, none⟩)), (10, .int .i64 x9), (11, .pointer (some ⟨nx2, 0, none⟩)), (53, .bool true)]) (L' := [⟨nx0, [.int .i64 a2.f0, .int .i64 a2.f1], 24⟩, ⟨nx0 + 1, [.int .i64 0, .string (⟨#[]⟩ : ByteArray), .slice none 0 0], 30⟩, ⟨nx0 + 2, [.int .i64 x5, .string x6, .slice A2 x7.length c2], 30⟩, ⟨nx2, [.int .i64 ((a0.getD (x9).toNat z32).f0), .int .i64 ((a0.getD (x9).toNat z32).f1), .int .i64 ((a0.getD (x9).toNat z32).f2), .int .i64 ((a0.getD (x9).toNat z32).f3), .int .u32 ((a0.getD (x9).toNat z32).f4), .int .i64 ((a0.getD (x9).toNat z32).f5.f0), .string ((a0.getD (x9).toNat z32).f5.f1), .slice A1_5_2_ (((a0.getD (x9).toNat z32).f5.f2).length) c1_5_2_], 32⟩]) (by kernel_rfl) (.cons_cons _ (.cons_cons _ (.cons_cons _ (.cons_cons _ .slnil)))) (.refl _) ?_
        exact hJ4 _ _ _ _ _ ⟨true, rfl, rfl, rfl, (Imm.le_refl _), HK3⟩
       ·have hc := (not_not_intro (bne_eq_false_iff_eq.1 hb))
        rw [hb]
        rw [if_neg hc] at H; clear hb
        refine RL.simK (K' := [(42, .bool (decide (((a0.getD (x9).toNat z32).f2) ≥ a2.f0))), (11, .pointer (some ⟨nx2, 0, none⟩)), (0, .slice Ap0 a0.length cp0), (1, .int .i64 a1), (5, .pointer (some ⟨nx0, 0, none⟩)), (6, .pointer (some ⟨nx0 + 1, 0, none⟩)), (8, .int .i64 x8), (9, .pointer (some ⟨nx0 + 2, 0, none⟩)), (10, .int .i64 x9)]) [] (RFacts.nil _ _ _) 7 [.no, .l 3, .no, .l 0, .no, .no, .no] (by kernel_rfl) (by kernel_rfl) ?_
        refine RL.cases (decide (((a0.getD (x9).toNat z32).f2) ≥ a2.f0)) (fun hb => ?_) (fun hb => ?_)
        ·have hc := (of_decide_eq_true hb)
         rw [hb]
         rw [if_pos hc] at H; clear hb
         refine RL.simK (K' := [(53, .bool true), (11, .pointer (some ⟨nx2, 0, none⟩)), (0, .slice Ap0 a0.length cp0), (1, .int .i64 a1), (5, .pointer (some ⟨nx0, 0, none⟩)), (6, .pointer (some ⟨nx0 + 1, 0, none⟩)), (8, .int .i64 x8), (9, .pointer (some ⟨nx0 + 2, 0, none⟩)), (10, .int .i64 x9)]) [] (RFacts.nil _ _ _) 11 [.no, .no, .no, .no, .no, .no, .no, .no, .no, .no, .no] (by kernel_rfl) (by kernel_rfl) ?_
         refine RL.nil (by kernel_rfl) ?_
         obtain rfl := Option.some.inj H
         refine QN.sub (K' := [(0, .slice Ap0 a0.length cp0), (1, .int .i64 a1), (5, .pointer (some ⟨nx0, 0, none⟩)), (6, .pointer (some ⟨nx0 + 1, 0, none⟩)), (8, .int .i64 x8), (9, .pointer (some ⟨nx0 + 2, 0, none⟩)), (10, .int .i64 x9), (11, .pointer (some ⟨nx2, 0, none⟩)), (53, .bool true)]) (L' := [⟨nx0, [.int .i64 a2.f0, .int .i64 a2.f1], 24⟩, ⟨nx0 + 1, [.int .i64 0, .string (⟨#[]⟩ : ByteArray), .slice none 0 0], 30⟩, ⟨nx0 + 2, [.int .i64 x5, .string x6, .slice A2 x7.length c2], 30⟩, ⟨nx2, [.int .i64 ((a0.getD (x9).toNat z32).f0), .int .i64 ((a0.getD (x9).toNat z32).f1), .int .i64 ((a0.getD (x9).toNat z32).f2), .int .i64 ((a0.getD (x9).toNat z32).f3), .int .u32 ((a0.getD (x9).toNat z32).f4), .int .i64 ((a0.getD (x9).toNat z32).f5.f0), .string ((a0.getD (x9).toNat z32).f5.f1), .slice A1_5_2_ (((a0.getD (x9).toNat z32).f5.f2).length) c1_5_2_], 32⟩]) (by kernel_rfl) (.cons_cons _ (.cons_cons _ (.cons_cons _ (.cons_cons _ .slnil)))) (.refl _) ?_
         exact hJ4 _ _ _ _ _ ⟨true, rfl, rfl, rfl, (Imm.le_refl _), HK3⟩
        ·have hc := (of_decide_eq_false hb)
         rw [hb]
         rw [if_neg hc] at H; clear hb
         refine RL.simK (K' := [(48, .bool (decide (((a0.getD (x9).toNat z32).f2) ≤ x8))), (11, .pointer (some ⟨nx2, 0, none⟩)), (0, .slice Ap0 a0.length cp0), (1, .int .i64 a1), (5, .pointer (some ⟨nx0, 0, none⟩)), (6, .pointer (some ⟨nx0 + 1, 0, none⟩)), (8, .int .i64 x8), (9, .pointer (some ⟨nx0 + 2, 0, none⟩)), (10, .int .i64 x9)]) [] (RFacts.nil _ _ _) 6 [.no, .l 3, .no, .no, .no, .no] (by kernel_rfl) (by kernel_rfl) ?_
         refine RL.cases (decide (((a0.getD (x9).toNat z32).f2) ≤ x8)) (fun hb => ?_) (fun hb => ?_)
         ·have hc := (of_decide_eq_true hb)
          rw [hb]
          rw [if_pos hc] at H; clear hb
          refine RL.simK (K' := [(53, .bool true), (11, .pointer (some ⟨nx2, 0, none⟩)), (0, .slice Ap0 a0.length cp0), (1, .int .i64 a1), (5, .pointer (some ⟨nx0, 0, none⟩)), (6, .pointer (some ⟨nx0 + 1, 0, none⟩)), (8, .int .i64 x8), (9, .pointer (some ⟨nx0 + 2, 0, none⟩)), (10, .int .i64 x9)]) [] (RFacts.nil _ _ _) 5 [.no, .no, .no, .no, .no] (by kernel_rfl) (by kernel_rfl) ?_
          refine RL.nil (by kernel_rfl) ?_
          obtain rfl := Option.some.inj H
          refine QN.sub (K' := [(0, .slice Ap0 a0.length cp0), (1, .int .i64 a1), (5, .pointer (some ⟨nx0, 0, none⟩)), (6, .pointer (some ⟨nx0 + 1, 0, none⟩)), (8, .int .i64 x8), (9, .pointer (some ⟨nx0 + 2, 0, none⟩)), (10, .int .i64 x9), (11, .pointer (some ⟨nx2, 0, none⟩)), (53, .bool true)]) (L' := [⟨nx0, [.int .i64 a2.f0, .int .i64 a2.f1], 24⟩, ⟨nx0 + 1, [.int .i64 0, .string (⟨#[]⟩ : ByteArray), .slice none 0 0], 30⟩, ⟨nx0 + 2, [.int .i64 x5, .string x6, .slice A2 x7.length c2], 30⟩, ⟨nx2, [.int .i64 ((a0.getD (x9).toNat z32).f0), .int .i64 ((a0.getD (x9).toNat z32).f1), .int .i64 ((a0.getD (x9).toNat z32).f2), .int .i64 ((a0.getD (x9).toNat z32).f3), .int .u32 ((a0.getD (x9).toNat z32).f4), .int .i64 ((a0.getD (x9).toNat z32).f5.f0), .string ((a0.getD (x9).toNat z32).f5.f1), .slice A1_5_2_ (((a0.getD (x9).toNat z32).f5.f2).length) c1_5_2_], 32⟩]) (by kernel_rfl) (.cons_cons _ (.cons_cons _ (.cons_cons _ (.cons_cons _ .slnil)))) (.refl _) ?_
          exact hJ4 _ _ _ _ _ ⟨true, rfl, rfl, rfl, (Imm.le_refl _), HK3⟩
         ·have hc := (of_decide_eq_false hb)
          rw [hb]
          rw [if_neg hc] at H; clear hb
          refine RL.simK (K' := [(50, .int .i64 a1), (49, .agg #[.int .i64 ((a0.getD (x9).toNat z32).f0), .int .i64 ((a0.getD (x9).toNat z32).f1), .int .i64 ((a0.getD (x9).toNat z32).f2), .int .i64 ((a0.getD (x9).toNat z32).f3), .int .u32 ((a0.getD (x9).toNat z32).f4), .int .i64 ((a0.getD (x9).toNat z32).f5.f0), .string ((a0.getD (x9).toNat z32).f5.f1), .slice A1_5_2_ (((a0.getD (x9).toNat z32).f5.f2).length) c1_5_2_]), (48, .bool false), (11, .pointer (some ⟨nx2, 0, none⟩)), (0, .slice Ap0 a0.length cp0), (1, .int .i64 a1), (5, .pointer (some ⟨nx0, 0, none⟩)), (6, .pointer (some ⟨nx0 + 1, 0, none⟩)), (8, .int .i64 x8), (9, .pointer (some ⟨nx0 + 2, 0, none⟩)), (10, .int .i64 x9)]) [] (RFacts.nil _ _ _) 2 [.l 3, .no] (by kernel_rfl) (by kernel_rfl) ?_
          obtain ⟨t2, hA2, H⟩ := Option.bind_eq_some_iff.mp H
          refine RL.callP 13 [.agg #[.int .i64 ((a0.getD (x9).toNat z32).f0), .int .i64 ((a0.getD (x9).toNat z32).f1), .int .i64 ((a0.getD (x9).toNat z32).f2), .int .i64 ((a0.getD (x9).toNat z32).f3), .int .u32 ((a0.getD (x9).toNat z32).f4), .int .i64 ((a0.getD (x9).toNat z32).f5.f0), .string ((a0.getD (x9).toNat z32).f5.f1), .slice A1_5_2_ (((a0.getD (x9).toNat z32).f5.f2).length) c1_5_2_], .int .i64 a1] (some 51) (fun w => armillaryref29_Valid.Post I2 w t2) (by kernel_rfl) (by kernel_rfl) (fun w hs => armillaryref29_Valid.calls kq1 I2 (a0.getD (x9).toNat z32) A1_5_2_ c1_5_2_ a1 w hs.im hl1_5_2_ hr1_5_2_ t2 hA2) ?_
          rintro w v w' hs ⟨I8, rfl, hg⟩
          have hi8 := hg.le
          refine RL.resume (X' := []) rfl (hs.call hg) ?_
          clear hs hg
          generalize w'.heap.size = nx8
          clear w w'
          refine RL.simK (K' := [(53, .bool (!t2)), (11, .pointer (some ⟨nx2, 0, none⟩)), (0, .slice Ap0 a0.length cp0), (1, .int .i64 a1), (5, .pointer (some ⟨nx0, 0, none⟩)), (6, .pointer (some ⟨nx0 + 1, 0, none⟩)), (8, .int .i64 x8), (9, .pointer (some ⟨nx0 + 2, 0, none⟩)), (10, .int .i64 x9)]) [] (RFacts.nil _ _ _) 2 [.no, .no] (by kernel_rfl) (by kernel_rfl) ?_
          refine RL.nil (by kernel_rfl) ?_
          obtain rfl := Option.some.inj H
          refine QN.sub (K' := [(0, .slice Ap0 a0.length cp0), (1, .int .i64 a1), (5, .pointer (some ⟨nx0, 0, none⟩)), (6, .pointer (some ⟨nx0 + 1, 0, none⟩)), (8, .int .i64 x8), (9, .pointer (some ⟨nx0 + 2, 0, none⟩)), (10, .int .i64 x9), (11, .pointer (some ⟨nx2, 0, none⟩)), (53, .bool (!t2))]) (L' := [⟨nx0, [.int .i64 a2.f0, .int .i64 a2.f1], 24⟩, ⟨nx0 + 1, [.int .i64 0, .string (⟨#[]⟩ : ByteArray), .slice none 0 0], 30⟩, ⟨nx0 + 2, [.int .i64 x5, .string x6, .slice A2 x7.length c2], 30⟩, ⟨nx2, [.int .i64 ((a0.getD (x9).toNat z32).f0), .int .i64 ((a0.getD (x9).toNat z32).f1), .int .i64 ((a0.getD (x9).toNat z32).f2), .int .i64 ((a0.getD (x9).toNat z32).f3), .int .u32 ((a0.getD (x9).toNat z32).f4), .int .i64 ((a0.getD (x9).toNat z32).f5.f0), .string ((a0.getD (x9).toNat z32).f5.f1), .slice A1_5_2_ (((a0.getD (x9).toNat z32).f5.f2).length) c1_5_2_], 32⟩]) (by kernel_rfl) (.cons_cons _ (.cons_cons _ (.cons_cons _ (.cons_cons _ .slnil)))) (.refl _) ?_
          exact hJ4 _ _ _ _ _ ⟨(!t2), rfl, rfl, rfl, hi8, HK3⟩
   ·skip
    have hc := (of_decide_eq_false hb)
    rw [if_neg hc] at H
    clear hb
    refine OK.exit 0 (by kernel_rfl) ?_
    refine QN.thenE ?_
    refine QN.outE hQ2 ?_
    refine QN.blkE ?_
    obtain rfl := Option.some.inj H
    refine QN.sub (K' := [(6, .pointer (some ⟨nx0 + 1, 0, none⟩)), (8, .int .i64 x8), (9, .pointer (some ⟨nx0 + 2, 0, none⟩))]) (L' := [⟨nx0, [.int .i64 a2.f0, .int .i64 a2.f1], 24⟩, ⟨nx0 + 1, [.int .i64 0, .string (⟨#[]⟩ : ByteArray), .slice none 0 0], 30⟩, ⟨nx0 + 2, [.int .i64 x5, .string x6, .slice A2 x7.length c2], 30⟩]) (by kernel_rfl) (.cons_cons _ (.cons_cons _ (.cons_cons _ .slnil))) (.refl _) ?_
    exact hJ1 _ _ _ _ _ ⟨x5, x6, x7, x8, A2, c2, rfl, rfl, rfl, hi2, hl2, hr2, HK1⟩

end Go.Proofs.Ytieakigoinebdaa
