/- Words of the walk, the functions' walks and plain laws, joined; no conditions beyond those that the theorems name. -/
import Derived.Test.YtieakigoinebdaaX32
import Derived.Test.YtieakigoinebdaaX35
import Derived.Test.YtieakigoinebdaaX34
import Derived.Test.YtieakigoinebdaaX36
import Derived.Test.YtieakigoinebdaaX33
import Derived.Test.YtieakigoinebdaaX37
import Derived.Laws.Strings
namespace Go.Proofs.Ytieakigoinebdaa
open Go Go.Proofs.Ytieakigoinebdaa.RW
set_option linter.unusedVariables false
set_option maxRecDepth 100000
set_option maxHeartbeats 8000000

/-! ### armillarylaw29_QuorumMatchesReference: function 3, armillary/armillarylaw29.QuorumMatchesReference -/
noncomputable def K3_0 : Code := cBody Try.f3
noncomputable def K3_1 : Code := cL K3_0
noncomputable def O3_1 : List Oper := cOps K3_1
noncomputable def K3_3 : Code := cR K3_0
noncomputable def K3_4 : Code := cL K3_3
noncomputable def O3_4 : List Oper := cOps K3_4
noncomputable def K3_6 : Code := cR K3_3
noncomputable def K3_7 : Code := cL K3_6
noncomputable def O3_7 : List Oper := cOps K3_7
noncomputable def K3_9 : Code := cR K3_6
noncomputable def K3_10 : Code := cL K3_9
noncomputable def O3_10 : List Oper := cOps K3_10
noncomputable def K3_12 : Code := cR K3_9
noncomputable def K3_13 : Code := cL K3_12
noncomputable def K3_14 : Code := cL K3_13
noncomputable def O3_14 : List Oper := cOps K3_14
noncomputable def K3_16 : Code := cR K3_13
noncomputable def K3_17 : Code := cL K3_16
noncomputable def K3_18 : Code := cL K3_17
noncomputable def K3_19 : Code := cL K3_18
noncomputable def O3_19 : List Oper := cOps K3_19
noncomputable def K3_21 : Code := cR K3_18
noncomputable def K3_22 : Code := cL K3_21
noncomputable def K3_23 : Code := cL K3_22
noncomputable def O3_23 : List Oper := cOps K3_23
noncomputable def K3_25 : Code := cR K3_22
noncomputable def K3_26 : Code := cR K3_21
noncomputable def K3_27 : Code := cR K3_17
noncomputable def K3_28 : Code := cL K3_27
noncomputable def O3_28 : List Oper := cOps K3_28
noncomputable def K3_30 : Code := cR K3_27
noncomputable def O3_30 : List Oper := cOps K3_30
noncomputable def K3_32 : Code := cR K3_16
noncomputable def K3_33 : Code := cR K3_12
noncomputable def K3_34 : Code := cL K3_33
noncomputable def O3_34 : List Oper := cOps K3_34
noncomputable def K3_36 : Code := cR K3_33
noncomputable def K3_37 : Code := cL K3_36
noncomputable def O3_37 : List Oper := cOps K3_37
noncomputable def K3_39 : Code := cR K3_36
noncomputable def K3_40 : Code := cL K3_39
noncomputable def O3_40 : List Oper := cOps K3_40
noncomputable def K3_42 : Code := cR K3_39
noncomputable def K3_43 : Code := cL K3_42
noncomputable def O3_43 : List Oper := cOps K3_43
noncomputable def K3_45 : Code := cR K3_42
noncomputable def K3_46 : Code := cL K3_45
noncomputable def O3_46 : List Oper := cOps K3_46
noncomputable def K3_48 : Code := cR K3_45
noncomputable def K3_49 : Code := cL K3_48
noncomputable def O3_49 : List Oper := cOps K3_49
noncomputable def K3_51 : Code := cR K3_48
noncomputable def K3_52 : Code := cL K3_51
noncomputable def O3_52 : List Oper := cOps K3_52
noncomputable def K3_54 : Code := cR K3_51
def armillarylaw29_QuorumMatchesReference.k1  (x3 : Bool) : Option (Bool) := (some x3)
def armillarylaw29_QuorumMatchesReference.k2 (k : Nat) (a1 : S34) (t1 : Bool) (t2 : List S32 × Int × S24) : (List S32) ⊕ (Bool) → Option (Bool)
 | .inl x2 => ((quorum_Prepared.f k x2 t2.2.1 t2.2.2).bind fun t3 => ((armillaryref29_Prepared.f k x2 t2.2.1 t2.2.2).bind fun t4 => ((quorum_Committed.f k x2 t2.2.1 t2.2.2).bind fun t5 => ((armillaryref29_Committed.f k x2 t2.2.1 t2.2.2).bind fun t6 => ((quorum_HighestPrepared.f k x2 t2.2.1 t2.2.2).bind fun t7 => ((armillaryref29_HighestPrepared.f k x2 t2.2.1 t2.2.2).bind fun t8 => (((quorum_MaxFaulty.f a1.f1).bind fun t9 => ((armillaryref29_MaxFaulty.f a1.f1).bind fun t10 => (if t9 = t10 then ((quorum_Size.f a1.f1).bind fun t11 => ((armillaryref29_Size.f a1.f1).bind fun t12 => (if t11 = t12 then ((quorum_Leader.f a1.f1 a1.f2).bind fun t13 => ((armillaryref29_Leader.f a1.f1 a1.f2).bind fun t14 => (if t13 = t14 then ((quorum_Leader.f t2.2.1 a1.f2).bind fun t15 => ((armillaryref29_Leader.f t2.2.1 a1.f2).bind fun t16 => (if t15 = t16 then (if t3.1 = t4.1 then (if (t3.2 == t4.2) = true then (if t5.1 = t6.1 then (if (t5.2 == t6.2) = true then ((armillaryref29_Same.f t7.1 t8.1).bind fun t17 => (if t17 = true then (if (t7.2 == t8.2) = true then (some t1) else (some false)) else (some false))) else (some false)) else (some false)) else (some false)) else (some false)) else (some false)))) else (some false)))) else (some false)))) else (some false)))).bind (armillarylaw29_QuorumMatchesReference.k1))))))))
 | .inr r_ => some r_
def armillarylaw29_QuorumMatchesReference.k3 (a1 : S34) (t2 : List S32 × Int × S24) (x4 : Bool) : Option ((List S32) ⊕ (Bool)) := (if x4 = true then (some (Sum.inr false)) else (if ([a1.f0].length + t2.1.length) * 88 ≤ 140737488355328 then (if (([a1.f0] ++ t2.1).length + [a1.f0].length) * 88 ≤ 140737488355328 then (some (Sum.inl (([a1.f0] ++ t2.1) ++ [a1.f0]))) else none) else none))
def armillarylaw29_QuorumMatchesReference.k4 (k : Nat) (a1 : S34) (t1 : Bool) (t2 : List S32 × Int × S24) (x1 : Bool) : Option (Bool) := ((if x1 = true then (((quorum_Valid.f k a1.f0 a1.f1).bind fun t18 => ((armillaryref29_Valid.f k a1.f0 a1.f1).bind fun t19 => (if (t18 == t19) = true then ((quorum_Valid.f k a1.f0 t2.2.1).bind fun t20 => ((armillaryref29_Valid.f k a1.f0 t2.2.1).bind fun t21 => (some (!(t20 == t21))))) else (some true)))).bind (armillarylaw29_QuorumMatchesReference.k3 a1 t2)) else (some (Sum.inl t2.1))).bind (armillarylaw29_QuorumMatchesReference.k2 k a1 t1 t2))
def armillarylaw29_QuorumMatchesReference.f (k : Nat) (a0 : S26) (a1 : S34) : Option (Bool) := ((armillarylaw29_sanity.f k ).bind fun t1 => ((armillarylaw29_made.f k a0).bind fun t2 => ((if (a1.f0.f5.f2.length : Int) ≤ 30000 then (some (decide ((a1.f0.f5.f1.size : Int) ≤ 100))) else (some false)).bind (armillarylaw29_QuorumMatchesReference.k4 k a1 t1 t2))))
def armillarylaw29_QuorumMatchesReference.Post (I : Imm) (w : World) (r : Bool) (v : Value) (w' : World) : Prop :=
 ∃ (J : Imm), v = .bool r ∧ Got w w' I J []
noncomputable def a3_7n : List Nat := [0, 1, 0, 4, 0, 16, 0, 67, 207, 511]
theorem a3_7 : ancs O3_7 [] = a3_7n := by kernel_rfl
theorem a3_7o : drawOk O3_7 a3_7n 9 = true := by kernel_rfl
noncomputable def u3d1l  : List Ld :=
 []
noncomputable def u3d1g  : List (Nat × ((Nat → Wt) → Value)) := []
noncomputable def u3d1t (a1 : S34) (Ap1_0_5_2 : Option Addr) (cp1_0_5_2 : Nat) : List Sb :=
 [⟨6, 7, 32, [.int .i64 0, .int .i64 0, .int .i64 0, .int .i64 0, .int .u32 0, .int .i64 0, .string (⟨#[]⟩ : ByteArray), .slice none 0 0], fun u => [.int .i64 a1.f0.f0, .int .i64 a1.f0.f1, .int .i64 a1.f0.f2, .int .i64 a1.f0.f3, .int .u32 a1.f0.f4, .int .i64 a1.f0.f5.f0, .string a1.f0.f5.f1, .slice Ap1_0_5_2 a1.f0.f5.f2.length cp1_0_5_2]⟩]
noncomputable def u3d1q (a0 : S26) (Ap0_0 : Option Addr) (cp0_0 : Nat) (a1 : S34) (Ap1_0_5_2 : Option Addr) (cp1_0_5_2 : Nat) (nx0 : Nat) (t1 : Bool) (u : Nat → Wt) : Option (List Value × List (Nat × Value) × List (Nat × Nat)) := qSim Try.prog [] [⟨nx0, [.slice Ap0_0 a0.f0.length cp0_0, .int .u8 a0.f1, .int .i64 a0.f2.f0, .int .i64 a0.f2.f1], 26⟩, ⟨nx0 + 1, [.int .i64 a1.f0.f0, .int .i64 a1.f0.f1, .int .i64 a1.f0.f2, .int .i64 a1.f0.f3, .int .u32 a1.f0.f4, .int .i64 a1.f0.f5.f0, .string a1.f0.f5.f1, .slice Ap1_0_5_2 a1.f0.f5.f2.length cp1_0_5_2, .int .i64 a1.f1, .int .i64 a1.f2], 34⟩] O3_7 ⟨178, []⟩ (Ld.vl u3d1l ++ stVl (u3d1t a1 Ap1_0_5_2 cp1_0_5_2)) u3d1g u [.no, .l 1, .no, .l 1, .no, .l 1, .no, .no, .no] 0 (O3_7.take 9) [(5, .bool t1), (3, .pointer (some ⟨nx0 + 1, 0, none⟩)), (2, .pointer (some ⟨nx0, 0, none⟩))]
noncomputable def u3d1s (a1 : S34) (Ap1_0_5_2 : Option Addr) (cp1_0_5_2 : Nat) (nx0 : Nat) (u : Nat → Wt) : List Value := [.pointer (some ⟨nx0 + 1, 0, none⟩), .agg #[.int .i64 a1.f0.f0, .int .i64 a1.f0.f1, .int .i64 a1.f0.f2, .int .i64 a1.f0.f3, .int .u32 a1.f0.f4, .int .i64 a1.f0.f5.f0, .string a1.f0.f5.f1, .slice Ap1_0_5_2 a1.f0.f5.f2.length cp1_0_5_2], .pointer (some ⟨nx0 + 1, 8, none⟩), .int .i64 a1.f1, .pointer (some ⟨nx0 + 1, 9, none⟩), .int .i64 a1.f2, .pointer (some ⟨(u 6 0).2.1, 0, none⟩), undef, .int .i64 a1.f1]
noncomputable def u3d1f (a1 : S34) (Ap1_0_5_2 : Option Addr) (cp1_0_5_2 : Nat) (nx0 : Nat) (t1 : Bool) (i : Nat) (u : Nat → Wt) : List (Nat × Value) := foldPut ⟨178, []⟩ [(5, .bool t1), (3, .pointer (some ⟨nx0 + 1, 0, none⟩)), (2, .pointer (some ⟨nx0, 0, none⟩))] (O3_7.take i) (((u3d1s a1 Ap1_0_5_2 cp1_0_5_2 nx0) u).take i)
theorem u3d1v (a0 : S26) (Ap0_0 : Option Addr) (cp0_0 : Nat) (a1 : S34) (Ap1_0_5_2 : Option Addr) (cp1_0_5_2 : Nat) (nx0 : Nat) (t1 : Bool) (u : Nat → Wt) : (u3d1q a0 Ap0_0 cp0_0 a1 Ap1_0_5_2 cp1_0_5_2 nx0 t1 u).map (fun x => (x.1, x.2.1)) = some ((u3d1s a1 Ap1_0_5_2 cp1_0_5_2 nx0) u, (u3d1f a1 Ap1_0_5_2 cp1_0_5_2 nx0 t1 9) u) := by kernel_rfl
theorem u3d1e (a0 : S26) (Ap0_0 : Option Addr) (cp0_0 : Nat) (a1 : S34) (Ap1_0_5_2 : Option Addr) (cp1_0_5_2 : Nat) (nx0 : Nat) (t1 : Bool) (u : Nat → Wt) : (u3d1q a0 Ap0_0 cp0_0 a1 Ap1_0_5_2 cp1_0_5_2 nx0 t1 u).map (fun x => x.2.2.map (·.1)) = (u3d1q a0 Ap0_0 cp0_0 a1 Ap1_0_5_2 cp1_0_5_2 nx0 t1 u).map (fun x => x.2.2.map (·.2)) := by kernel_rfl
noncomputable def a3_19n : List Nat := [0, 0, 3, 0, 0, 31, 63, 127, 255, 255, 1023, 255, 255, 8191, 16383, 32767]
theorem a3_19 : ancs O3_19 [] = a3_19n := by kernel_rfl
theorem a3_19o : drawOk O3_19 a3_19n 13 = true := by kernel_rfl
noncomputable def u3d2l (t18 : Bool) (t19 : Bool) (t20 : Bool) : List Ld :=
 [⟨2, fun x => .bool t18, fun x => [], fun x J => True, fun x J J' h f => trivial⟩,
  ⟨5, fun x => .bool t19, fun x => [], fun x J => True, fun x J J' h f => trivial⟩,
  ⟨10, fun x => .bool t20, fun x => [], fun x J => True, fun x J J' h f => trivial⟩]
noncomputable def u3d2g  : List (Nat × ((Nat → Wt) → Value)) := [(7, fun u => .bool false)]
noncomputable def u3d2q (a0 : S26) (Ap0_0 : Option Addr) (cp0_0 : Nat) (a1 : S34) (Ap1_0_5_2 : Option Addr) (cp1_0_5_2 : Nat) (nx0 : Nat) (t1 : Bool) (c1 : Nat) (t2 : List S32 × Int × S24) (A1 : Option Addr) (c2 : Nat) (nx3 : Nat) (x1 : Bool) (t18 : Bool) (t19 : Bool) (t20 : Bool) (u : Nat → Wt) : Option (List Value × List (Nat × Value) × List (Nat × Nat)) := qSim Try.prog [] [⟨nx0, [.slice Ap0_0 a0.f0.length cp0_0, .int .u8 a0.f1, .int .i64 a0.f2.f0, .int .i64 a0.f2.f1], 26⟩, ⟨nx0 + 1, [.int .i64 a1.f0.f0, .int .i64 a1.f0.f1, .int .i64 a1.f0.f2, .int .i64 a1.f0.f3, .int .u32 a1.f0.f4, .int .i64 a1.f0.f5.f0, .string a1.f0.f5.f1, .slice Ap1_0_5_2 a1.f0.f5.f2.length cp1_0_5_2, .int .i64 a1.f1, .int .i64 a1.f2], 34⟩, ⟨c1, [.int .i64 a1.f0.f0, .int .i64 a1.f0.f1, .int .i64 a1.f0.f2, .int .i64 a1.f0.f3, .int .u32 a1.f0.f4, .int .i64 a1.f0.f5.f0, .string a1.f0.f5.f1, .slice Ap1_0_5_2 a1.f0.f5.f2.length cp1_0_5_2], 32⟩, ⟨nx3, [.int .i64 t2.2.2.f0, .int .i64 t2.2.2.f1], 24⟩] O3_19 ⟨178, []⟩ (Ld.vl (u3d2l t18 t19 t20)) u3d2g u [.l 2, .no, .no, .l 2, .no, .no, .no, .no, .l 2, .no, .no, .l 2, .no] 0 (O3_19.take 13) [(5, .bool t1), (6, .pointer (some ⟨c1, 0, none⟩)), (7, .int .i64 a1.f1), (8, .int .i64 a1.f2), (9, .slice A1 t2.1.length c2), (10, .int .i64 t2.2.1), (11, .pointer (some ⟨nx3, 0, none⟩)), (48, .bool x1)]
noncomputable def u3d2s (a1 : S34) (Ap1_0_5_2 : Option Addr) (cp1_0_5_2 : Nat) (t2 : List S32 × Int × S24) (t18 : Bool) (t19 : Bool) (t20 : Bool) (u : Nat → Wt) : List Value := [.agg #[.int .i64 a1.f0.f0, .int .i64 a1.f0.f1, .int .i64 a1.f0.f2, .int .i64 a1.f0.f3, .int .u32 a1.f0.f4, .int .i64 a1.f0.f5.f0, .string a1.f0.f5.f1, .slice Ap1_0_5_2 a1.f0.f5.f2.length cp1_0_5_2], .int .i64 a1.f1, .bool t18, .agg #[.int .i64 a1.f0.f0, .int .i64 a1.f0.f1, .int .i64 a1.f0.f2, .int .i64 a1.f0.f3, .int .u32 a1.f0.f4, .int .i64 a1.f0.f5.f0, .string a1.f0.f5.f1, .slice Ap1_0_5_2 a1.f0.f5.f2.length cp1_0_5_2], .int .i64 a1.f1, .bool t19, .bool (!(t18 == t19)), .bool false, .agg #[.int .i64 a1.f0.f0, .int .i64 a1.f0.f1, .int .i64 a1.f0.f2, .int .i64 a1.f0.f3, .int .u32 a1.f0.f4, .int .i64 a1.f0.f5.f0, .string a1.f0.f5.f1, .slice Ap1_0_5_2 a1.f0.f5.f2.length cp1_0_5_2], .int .i64 t2.2.1, .bool t20, .agg #[.int .i64 a1.f0.f0, .int .i64 a1.f0.f1, .int .i64 a1.f0.f2, .int .i64 a1.f0.f3, .int .u32 a1.f0.f4, .int .i64 a1.f0.f5.f0, .string a1.f0.f5.f1, .slice Ap1_0_5_2 a1.f0.f5.f2.length cp1_0_5_2], .int .i64 t2.2.1]
noncomputable def u3d2f (a1 : S34) (Ap1_0_5_2 : Option Addr) (cp1_0_5_2 : Nat) (t1 : Bool) (c1 : Nat) (t2 : List S32 × Int × S24) (A1 : Option Addr) (c2 : Nat) (nx3 : Nat) (x1 : Bool) (t18 : Bool) (t19 : Bool) (t20 : Bool) (i : Nat) (u : Nat → Wt) : List (Nat × Value) := foldPut ⟨178, []⟩ [(5, .bool t1), (6, .pointer (some ⟨c1, 0, none⟩)), (7, .int .i64 a1.f1), (8, .int .i64 a1.f2), (9, .slice A1 t2.1.length c2), (10, .int .i64 t2.2.1), (11, .pointer (some ⟨nx3, 0, none⟩)), (48, .bool x1)] (O3_19.take i) (((u3d2s a1 Ap1_0_5_2 cp1_0_5_2 t2 t18 t19 t20) u).take i)
theorem u3d2v (a0 : S26) (Ap0_0 : Option Addr) (cp0_0 : Nat) (a1 : S34) (Ap1_0_5_2 : Option Addr) (cp1_0_5_2 : Nat) (nx0 : Nat) (t1 : Bool) (c1 : Nat) (t2 : List S32 × Int × S24) (A1 : Option Addr) (c2 : Nat) (nx3 : Nat) (x1 : Bool) (t18 : Bool) (t19 : Bool) (t20 : Bool) (u : Nat → Wt) : (u3d2q a0 Ap0_0 cp0_0 a1 Ap1_0_5_2 cp1_0_5_2 nx0 t1 c1 t2 A1 c2 nx3 x1 t18 t19 t20 u).map (fun x => (x.1, x.2.1)) = some ((u3d2s a1 Ap1_0_5_2 cp1_0_5_2 t2 t18 t19 t20) u, (u3d2f a1 Ap1_0_5_2 cp1_0_5_2 t1 c1 t2 A1 c2 nx3 x1 t18 t19 t20 13) u) := by kernel_rfl
theorem u3d2e (a0 : S26) (Ap0_0 : Option Addr) (cp0_0 : Nat) (a1 : S34) (Ap1_0_5_2 : Option Addr) (cp1_0_5_2 : Nat) (nx0 : Nat) (t1 : Bool) (c1 : Nat) (t2 : List S32 × Int × S24) (A1 : Option Addr) (c2 : Nat) (nx3 : Nat) (x1 : Bool) (t18 : Bool) (t19 : Bool) (t20 : Bool) (u : Nat → Wt) : (u3d2q a0 Ap0_0 cp0_0 a1 Ap1_0_5_2 cp1_0_5_2 nx0 t1 c1 t2 A1 c2 nx3 x1 t18 t19 t20 u).map (fun x => x.2.2.map (·.1)) = (u3d2q a0 Ap0_0 cp0_0 a1 Ap1_0_5_2 cp1_0_5_2 nx0 t1 c1 t2 A1 c2 nx3 x1 t18 t19 t20 u).map (fun x => x.2.2.map (·.2)) := by kernel_rfl
noncomputable def u3d3l (t18 : Bool) (t19 : Bool) : List Ld :=
 [⟨2, fun x => .bool t18, fun x => [], fun x J => True, fun x J J' h f => trivial⟩,
  ⟨5, fun x => .bool t19, fun x => [], fun x J => True, fun x J J' h f => trivial⟩]
noncomputable def u3d3g  : List (Nat × ((Nat → Wt) → Value)) := [(7, fun u => .bool true)]
noncomputable def u3d3q (a0 : S26) (Ap0_0 : Option Addr) (cp0_0 : Nat) (a1 : S34) (Ap1_0_5_2 : Option Addr) (cp1_0_5_2 : Nat) (nx0 : Nat) (t1 : Bool) (c1 : Nat) (t2 : List S32 × Int × S24) (A1 : Option Addr) (c2 : Nat) (nx3 : Nat) (x1 : Bool) (t18 : Bool) (t19 : Bool) (u : Nat → Wt) : Option (List Value × List (Nat × Value) × List (Nat × Nat)) := qSim Try.prog [] [⟨nx0, [.slice Ap0_0 a0.f0.length cp0_0, .int .u8 a0.f1, .int .i64 a0.f2.f0, .int .i64 a0.f2.f1], 26⟩, ⟨nx0 + 1, [.int .i64 a1.f0.f0, .int .i64 a1.f0.f1, .int .i64 a1.f0.f2, .int .i64 a1.f0.f3, .int .u32 a1.f0.f4, .int .i64 a1.f0.f5.f0, .string a1.f0.f5.f1, .slice Ap1_0_5_2 a1.f0.f5.f2.length cp1_0_5_2, .int .i64 a1.f1, .int .i64 a1.f2], 34⟩, ⟨c1, [.int .i64 a1.f0.f0, .int .i64 a1.f0.f1, .int .i64 a1.f0.f2, .int .i64 a1.f0.f3, .int .u32 a1.f0.f4, .int .i64 a1.f0.f5.f0, .string a1.f0.f5.f1, .slice Ap1_0_5_2 a1.f0.f5.f2.length cp1_0_5_2], 32⟩, ⟨nx3, [.int .i64 t2.2.2.f0, .int .i64 t2.2.2.f1], 24⟩] O3_19 ⟨178, []⟩ (Ld.vl (u3d3l t18 t19)) u3d3g u [.l 2, .no, .no, .l 2, .no, .no, .no, .no, .no, .no, .no, .no, .no] 0 (O3_19.take 13) [(5, .bool t1), (6, .pointer (some ⟨c1, 0, none⟩)), (7, .int .i64 a1.f1), (8, .int .i64 a1.f2), (9, .slice A1 t2.1.length c2), (10, .int .i64 t2.2.1), (11, .pointer (some ⟨nx3, 0, none⟩)), (48, .bool x1)]
noncomputable def u3d3s (a1 : S34) (Ap1_0_5_2 : Option Addr) (cp1_0_5_2 : Nat) (t18 : Bool) (t19 : Bool) (u : Nat → Wt) : List Value := [.agg #[.int .i64 a1.f0.f0, .int .i64 a1.f0.f1, .int .i64 a1.f0.f2, .int .i64 a1.f0.f3, .int .u32 a1.f0.f4, .int .i64 a1.f0.f5.f0, .string a1.f0.f5.f1, .slice Ap1_0_5_2 a1.f0.f5.f2.length cp1_0_5_2], .int .i64 a1.f1, .bool t18, .agg #[.int .i64 a1.f0.f0, .int .i64 a1.f0.f1, .int .i64 a1.f0.f2, .int .i64 a1.f0.f3, .int .u32 a1.f0.f4, .int .i64 a1.f0.f5.f0, .string a1.f0.f5.f1, .slice Ap1_0_5_2 a1.f0.f5.f2.length cp1_0_5_2], .int .i64 a1.f1, .bool t19, .bool (!(t18 == t19)), .bool true, undef, undef, undef, undef, undef]
noncomputable def u3d3f (a1 : S34) (Ap1_0_5_2 : Option Addr) (cp1_0_5_2 : Nat) (t1 : Bool) (c1 : Nat) (t2 : List S32 × Int × S24) (A1 : Option Addr) (c2 : Nat) (nx3 : Nat) (x1 : Bool) (t18 : Bool) (t19 : Bool) (i : Nat) (u : Nat → Wt) : List (Nat × Value) := foldPut ⟨178, []⟩ [(5, .bool t1), (6, .pointer (some ⟨c1, 0, none⟩)), (7, .int .i64 a1.f1), (8, .int .i64 a1.f2), (9, .slice A1 t2.1.length c2), (10, .int .i64 t2.2.1), (11, .pointer (some ⟨nx3, 0, none⟩)), (48, .bool x1)] (O3_19.take i) (((u3d3s a1 Ap1_0_5_2 cp1_0_5_2 t18 t19) u).take i)
theorem u3d3v (a0 : S26) (Ap0_0 : Option Addr) (cp0_0 : Nat) (a1 : S34) (Ap1_0_5_2 : Option Addr) (cp1_0_5_2 : Nat) (nx0 : Nat) (t1 : Bool) (c1 : Nat) (t2 : List S32 × Int × S24) (A1 : Option Addr) (c2 : Nat) (nx3 : Nat) (x1 : Bool) (t18 : Bool) (t19 : Bool) (u : Nat → Wt) : (u3d3q a0 Ap0_0 cp0_0 a1 Ap1_0_5_2 cp1_0_5_2 nx0 t1 c1 t2 A1 c2 nx3 x1 t18 t19 u).map (fun x => (x.1, x.2.1)) = some ((u3d3s a1 Ap1_0_5_2 cp1_0_5_2 t18 t19) u, (u3d3f a1 Ap1_0_5_2 cp1_0_5_2 t1 c1 t2 A1 c2 nx3 x1 t18 t19 13) u) := by kernel_rfl
theorem u3d3e (a0 : S26) (Ap0_0 : Option Addr) (cp0_0 : Nat) (a1 : S34) (Ap1_0_5_2 : Option Addr) (cp1_0_5_2 : Nat) (nx0 : Nat) (t1 : Bool) (c1 : Nat) (t2 : List S32 × Int × S24) (A1 : Option Addr) (c2 : Nat) (nx3 : Nat) (x1 : Bool) (t18 : Bool) (t19 : Bool) (u : Nat → Wt) : (u3d3q a0 Ap0_0 cp0_0 a1 Ap1_0_5_2 cp1_0_5_2 nx0 t1 c1 t2 A1 c2 nx3 x1 t18 t19 u).map (fun x => x.2.2.map (·.1)) = (u3d3q a0 Ap0_0 cp0_0 a1 Ap1_0_5_2 cp1_0_5_2 nx0 t1 c1 t2 A1 c2 nx3 x1 t18 t19 u).map (fun x => x.2.2.map (·.2)) := by kernel_rfl
theorem armillarylaw29_QuorumMatchesReference.calls (k : Nat) (I0 : Imm) (a0 : S26) (Ap0_0 : Option Addr) (cp0_0 : Nat) (a1 : S34) (Ap1_0_5_2 : Option Addr) (cp1_0_5_2 : Nat) (w : World) (hI : I0.at_ w) (hlp0_0 : a0.f0.length ≤ cp0_0) (hrp0_0 : Rd t32 I0 Ap0_0 a0.f0) (hlp1_0_5_2 : a1.f0.f5.f2.length ≤ cp1_0_5_2) (hrp1_0_5_2 : Rd (Ty.int .u8) I0 Ap1_0_5_2 a1.f0.f5.f2) (r : Bool) (h : armillarylaw29_QuorumMatchesReference.f k a0 a1 = some r) :
  Calls Try.prog 3 [.agg #[.slice Ap0_0 a0.f0.length cp0_0, .int .u8 a0.f1, .int .i64 a0.f2.f0, .int .i64 a0.f2.f1], .agg #[.int .i64 a1.f0.f0, .int .i64 a1.f0.f1, .int .i64 a1.f0.f2, .int .i64 a1.f0.f3, .int .u32 a1.f0.f4, .int .i64 a1.f0.f5.f0, .string a1.f0.f5.f1, .slice Ap1_0_5_2 a1.f0.f5.f2.length cp1_0_5_2, .int .i64 a1.f1, .int .i64 a1.f2]].toArray w fun e w' => ∃ v, e = .returned v ∧ armillarylaw29_QuorumMatchesReference.Post I0 w r v w' := by
 have H : ((armillarylaw29_sanity.f k ).bind fun t1 => ((armillarylaw29_made.f k a0).bind fun t2 => ((if (a1.f0.f5.f2.length : Int) ≤ 30000 then (some (decide ((a1.f0.f5.f1.size : Int) ≤ 100))) else (some false)).bind (armillarylaw29_QuorumMatchesReference.k4 k a1 t1 t2)))) = some r := h
 clear h
 refine calls_body Try.func3 (by kernel_rfl) 178 (by kernel_rfl) (by kernel_rfl) ⟨w, fun _ => False, I0⟩ I0 [] [(0, .agg #[.slice Ap0_0 a0.f0.length cp0_0, .int .u8 a0.f1, .int .i64 a0.f2.f0, .int .i64 a0.f2.f1]), (1, .agg #[.int .i64 a1.f0.f0, .int .i64 a1.f0.f1, .int .i64 a1.f0.f2, .int .i64 a1.f0.f3, .int .u32 a1.f0.f4, .int .i64 a1.f0.f5.f0, .string a1.f0.f5.f1, .slice Ap1_0_5_2 a1.f0.f5.f2.length cp1_0_5_2, .int .i64 a1.f1, .int .i64 a1.f2])] (by kernel_rfl) (Sat.start w _ I0 hI) ?_
 generalize w.heap.size = nx0
 show OK _ K3_0 _ _ _ _ _ _ _ _
 refine OK.seq K3_1 K3_3 (by kernel_rfl) ?_
 refine OK.region 0 O3_1 (by kernel_rfl) ?_
 refine RL.simP (K' := [(3, .pointer (some ⟨nx0 + 1, 0, none⟩)), (2, .pointer (some ⟨nx0, 0, none⟩))]) (nx' := nx0 + 2) (L' := [⟨nx0, [.slice Ap0_0 a0.f0.length cp0_0, .int .u8 a0.f1, .int .i64 a0.f2.f0, .int .i64 a0.f2.f1], 26⟩, ⟨nx0 + 1, [.int .i64 a1.f0.f0, .int .i64 a1.f0.f1, .int .i64 a1.f0.f2, .int .i64 a1.f0.f3, .int .u32 a1.f0.f4, .int .i64 a1.f0.f5.f0, .string a1.f0.f5.f1, .slice Ap1_0_5_2 a1.f0.f5.f2.length cp1_0_5_2, .int .i64 a1.f1, .int .i64 a1.f2], 34⟩]) [] (RFacts.nil _ _ _) 3 [.no, .no, .no] (by kernel_rfl) (by kernel_rfl) ?_
 refine RL.nil (by kernel_rfl) ?_
 refine QN.then_ ?_
 refine OK.seq K3_4 K3_6 (by kernel_rfl) ?_
 refine OK.region 1 O3_4 (by kernel_rfl) ?_
 obtain ⟨t1, hA1, H⟩ := Option.bind_eq_some_iff.mp H
 refine RL.callP 10 [] (some 24) (fun w => armillarylaw29_sanity.Post I0 w t1) (by kernel_rfl) (by kernel_rfl) (fun w hs => armillarylaw29_sanity.calls k I0  w hs.im  t1 hA1) ?_
 rintro w v w' hs ⟨I1, rfl, hg⟩
 have hi1 := hg.le
 refine RL.resume (X' := []) rfl (hs.call hg) ?_
 clear hs hg
 generalize w'.heap.size = nx1
 clear w w'
 refine RL.simK (K' := [(5, .bool t1), (3, .pointer (some ⟨nx0 + 1, 0, none⟩)), (2, .pointer (some ⟨nx0, 0, none⟩))]) [] (RFacts.nil _ _ _) 1 [.no] (by kernel_rfl) (by kernel_rfl) ?_
 refine RL.nil (by kernel_rfl) ?_
 refine QN.then_ ?_
 refine OK.seq K3_7 K3_9 (by kernel_rfl) ?_
 refine OK.drawnS 2 9 O3_7 a3_7n (by kernel_rfl) (by kernel_rfl) u3d1l (u3d1t a1 Ap1_0_5_2 cp1_0_5_2) u3d1g [] (RI.nil _) [.no, .l 1, .no, .l 1, .no, .l 1, .no, .no, .no] a3_7 a3_7o (by kernel_rfl) (by kernel_rfl) (by kernel_rfl) (by kernel_rfl) (by kernel_rfl) (List.forall_mem_cons.2 ⟨fun u u' h => rfl, fun s hs => by cases hs⟩) (u3d1s a1 Ap1_0_5_2 cp1_0_5_2 nx0) (u3d1f a1 Ap1_0_5_2 cp1_0_5_2 nx0 t1 9) (u3d1v a0 Ap0_0 cp0_0 a1 Ap1_0_5_2 cp1_0_5_2 nx0 t1) (u3d1e a0 Ap0_0 cp0_0 a1 Ap1_0_5_2 cp1_0_5_2 nx0 t1) [] [u3d1f a1 Ap1_0_5_2 cp1_0_5_2 nx0 t1 6, u3d1f a1 Ap1_0_5_2 cp1_0_5_2 nx0 t1 7] rfl (framesOk.cons (fun u => rfl) (framesOk.cons (fun u => rfl) framesOk.nil)) ?_ (StsG.cons (fun u n => by kernel_rfl) (fun u nx => ⟨by kernel_rfl, by kernel_rfl⟩) StsG.nil) [] framesOk.nil ?_ ?_
 ·refine LoudsG.nil
 ·refine Givens.nil
 intro u I2 nx2 hi2 hF
 clear hF
 refine RL.norm (K' := [(7, .int .i64 a1.f1), (6, .pointer (some ⟨(u 6 0).2.1, 0, none⟩)), (30, .int .i64 a1.f2), (29, .pointer (some ⟨nx0 + 1, 9, none⟩)), (28, .int .i64 a1.f1), (27, .pointer (some ⟨nx0 + 1, 8, none⟩)), (26, .agg #[.int .i64 a1.f0.f0, .int .i64 a1.f0.f1, .int .i64 a1.f0.f2, .int .i64 a1.f0.f3, .int .u32 a1.f0.f4, .int .i64 a1.f0.f5.f0, .string a1.f0.f5.f1, .slice Ap1_0_5_2 a1.f0.f5.f2.length cp1_0_5_2]), (25, .pointer (some ⟨nx0 + 1, 0, none⟩)), (5, .bool t1), (3, .pointer (some ⟨nx0 + 1, 0, none⟩)), (2, .pointer (some ⟨nx0, 0, none⟩))]) (X' := [RW.kblk (u 6 0).2.1 32 [.int .i64 a1.f0.f0, .int .i64 a1.f0.f1, .int .i64 a1.f0.f2, .int .i64 a1.f0.f3, .int .u32 a1.f0.f4, .int .i64 a1.f0.f5.f0, .string a1.f0.f5.f1, .slice Ap1_0_5_2 a1.f0.f5.f2.length cp1_0_5_2]]) (by kernel_rfl) rfl rfl rfl ?_
 generalize (u 6 0).2.1 = c1
 clear u
 refine RL.kblk (g := c1) (ty := 32) (cs := [.int .i64 a1.f0.f0, .int .i64 a1.f0.f1, .int .i64 a1.f0.f2, .int .i64 a1.f0.f3, .int .u32 a1.f0.f4, .int .i64 a1.f0.f5.f0, .string a1.f0.f5.f1, .slice Ap1_0_5_2 a1.f0.f5.f2.length cp1_0_5_2]) 0 (by kernel_rfl) ?_
 show RL _ _ _ 9 _ [(7, .int .i64 a1.f1), (6, .pointer (some ⟨c1, 0, none⟩)), (30, .int .i64 a1.f2), (29, .pointer (some ⟨nx0 + 1, 9, none⟩)), (28, .int .i64 a1.f1), (27, .pointer (some ⟨nx0 + 1, 8, none⟩)), (26, .agg #[.int .i64 a1.f0.f0, .int .i64 a1.f0.f1, .int .i64 a1.f0.f2, .int .i64 a1.f0.f3, .int .u32 a1.f0.f4, .int .i64 a1.f0.f5.f0, .string a1.f0.f5.f1, .slice Ap1_0_5_2 a1.f0.f5.f2.length cp1_0_5_2]), (25, .pointer (some ⟨nx0 + 1, 0, none⟩)), (5, .bool t1), (3, .pointer (some ⟨nx0 + 1, 0, none⟩)), (2, .pointer (some ⟨nx0, 0, none⟩))] _ _ _ [⟨nx0, [.slice Ap0_0 a0.f0.length cp0_0, .int .u8 a0.f1, .int .i64 a0.f2.f0, .int .i64 a0.f2.f1], 26⟩, ⟨nx0 + 1, [.int .i64 a1.f0.f0, .int .i64 a1.f0.f1, .int .i64 a1.f0.f2, .int .i64 a1.f0.f3, .int .u32 a1.f0.f4, .int .i64 a1.f0.f5.f0, .string a1.f0.f5.f1, .slice Ap1_0_5_2 a1.f0.f5.f2.length cp1_0_5_2, .int .i64 a1.f1, .int .i64 a1.f2], 34⟩, ⟨c1, [.int .i64 a1.f0.f0, .int .i64 a1.f0.f1, .int .i64 a1.f0.f2, .int .i64 a1.f0.f3, .int .u32 a1.f0.f4, .int .i64 a1.f0.f5.f0, .string a1.f0.f5.f1, .slice Ap1_0_5_2 a1.f0.f5.f2.length cp1_0_5_2], 32⟩] []
 refine RL.simK (K' := [(8, .int .i64 a1.f2), (7, .int .i64 a1.f1), (6, .pointer (some ⟨c1, 0, none⟩)), (5, .bool t1), (2, .pointer (some ⟨nx0, 0, none⟩))]) [] (RFacts.nil _ _ _) 1 [.no] (by kernel_rfl) (by kernel_rfl) ?_
 refine RL.nil (by kernel_rfl) ?_
 refine QN.then_ ?_
 refine OK.seq K3_10 K3_12 (by kernel_rfl) ?_
 refine OK.region 3 O3_10 (by kernel_rfl) ?_
 refine RL.simK (K' := [(32, .agg #[.slice Ap0_0 a0.f0.length cp0_0, .int .u8 a0.f1, .int .i64 a0.f2.f0, .int .i64 a0.f2.f1]), (8, .int .i64 a1.f2), (7, .int .i64 a1.f1), (6, .pointer (some ⟨c1, 0, none⟩)), (5, .bool t1)]) [] (RFacts.nil _ _ _) 1 [.l 0] (by kernel_rfl) (by kernel_rfl) ?_
 obtain ⟨t2, hA2, H⟩ := Option.bind_eq_some_iff.mp H
 refine RL.callP 11 [.agg #[.slice Ap0_0 a0.f0.length cp0_0, .int .u8 a0.f1, .int .i64 a0.f2.f0, .int .i64 a0.f2.f1]] (some 33) (fun w => armillarylaw29_made.Post I2 w t2) (by kernel_rfl) (by kernel_rfl) (fun w hs => armillarylaw29_made.calls k I2 a0 Ap0_0 cp0_0 w hs.im hlp0_0 (Rd.ext (Imm.le_trans hi1 hi2) hrp0_0) t2 hA2) ?_
 rintro w v w' hs ⟨I3, A1, c2, cs1, rfl, hg, hp1⟩
 have hi3 := hg.le
 refine RL.resume (X' := [orow 32 8 A1 t2.1.length c2 cs1]) rfl (hs.call hg) ?_
 clear hs hg
 generalize w'.heap.size = nx3
 clear w w'
 refine RL.simP (K' := [(10, .int .i64 t2.2.1), (9, .slice A1 t2.1.length c2), (11, .pointer (some ⟨nx3, 0, none⟩)), (8, .int .i64 a1.f2), (7, .int .i64 a1.f1), (6, .pointer (some ⟨c1, 0, none⟩)), (5, .bool t1)]) (nx' := nx3 + 1) (L' := [⟨nx0, [.slice Ap0_0 a0.f0.length cp0_0, .int .u8 a0.f1, .int .i64 a0.f2.f0, .int .i64 a0.f2.f1], 26⟩, ⟨nx0 + 1, [.int .i64 a1.f0.f0, .int .i64 a1.f0.f1, .int .i64 a1.f0.f2, .int .i64 a1.f0.f3, .int .u32 a1.f0.f4, .int .i64 a1.f0.f5.f0, .string a1.f0.f5.f1, .slice Ap1_0_5_2 a1.f0.f5.f2.length cp1_0_5_2, .int .i64 a1.f1, .int .i64 a1.f2], 34⟩, ⟨c1, [.int .i64 a1.f0.f0, .int .i64 a1.f0.f1, .int .i64 a1.f0.f2, .int .i64 a1.f0.f3, .int .u32 a1.f0.f4, .int .i64 a1.f0.f5.f0, .string a1.f0.f5.f1, .slice Ap1_0_5_2 a1.f0.f5.f2.length cp1_0_5_2], 32⟩, ⟨nx3, [.int .i64 t2.2.2.f0, .int .i64 t2.2.2.f1], 24⟩]) [] (RFacts.nil _ _ _) 8 [.no, .no, .no, .no, .no, .no, .no, .l 3] (by kernel_rfl) (by kernel_rfl) ?_
 refine RL.nil (by kernel_rfl) ?_
 refine QN.then_ ?_
 refine OK.seq K3_13 K3_33 (by kernel_rfl) ?_
 refine OK.seq K3_14 K3_16 (by kernel_rfl) ?_
 refine OK.join (fun K' I' _ L' X' => ∃ (x1 : Bool), K' = [(5, .bool t1), (6, .pointer (some ⟨c1, 0, none⟩)), (7, .int .i64 a1.f1), (8, .int .i64 a1.f2), (9, .slice A1 t2.1.length c2), (10, .int .i64 t2.2.1), (11, .pointer (some ⟨nx3, 0, none⟩)), (48, .bool x1)] ∧ L' = [⟨nx0, [.slice Ap0_0 a0.f0.length cp0_0, .int .u8 a0.f1, .int .i64 a0.f2.f0, .int .i64 a0.f2.f1], 26⟩, ⟨nx0 + 1, [.int .i64 a1.f0.f0, .int .i64 a1.f0.f1, .int .i64 a1.f0.f2, .int .i64 a1.f0.f3, .int .u32 a1.f0.f4, .int .i64 a1.f0.f5.f0, .string a1.f0.f5.f1, .slice Ap1_0_5_2 a1.f0.f5.f2.length cp1_0_5_2, .int .i64 a1.f1, .int .i64 a1.f2], 34⟩, ⟨c1, [.int .i64 a1.f0.f0, .int .i64 a1.f0.f1, .int .i64 a1.f0.f2, .int .i64 a1.f0.f3, .int .u32 a1.f0.f4, .int .i64 a1.f0.f5.f0, .string a1.f0.f5.f1, .slice Ap1_0_5_2 a1.f0.f5.f2.length cp1_0_5_2], 32⟩, ⟨nx3, [.int .i64 t2.2.2.f0, .int .i64 t2.2.2.f1], 24⟩] ∧ X' = [orow 32 8 A1 t2.1.length c2 cs1] ∧ Imm.le I3 I' ∧ armillarylaw29_QuorumMatchesReference.k4 k a1 t1 t2 x1 = some r) ?_ ?_
 ·rintro _ I4 nx4 _ _ ⟨x1, rfl, rfl, rfl, hi4, H⟩
  replace H : ((if x1 = true then (((quorum_Valid.f k a1.f0 a1.f1).bind fun t18 => ((armillaryref29_Valid.f k a1.f0 a1.f1).bind fun t19 => (if (t18 == t19) = true then ((quorum_Valid.f k a1.f0 t2.2.1).bind fun t20 => ((armillaryref29_Valid.f k a1.f0 t2.2.1).bind fun t21 => (some (!(t20 == t21))))) else (some true)))).bind (armillarylaw29_QuorumMatchesReference.k3 a1 t2)) else (some (Sum.inl t2.1))).bind (armillarylaw29_QuorumMatchesReference.k2 k a1 t1 t2)) = some r := H
  refine QN.then_ ?_
  refine OK.join (fun K' I' _ L' X' => ∃ (x2 : List S32) (A2 : Option Addr) (c3 : Nat) (cs2 : List Value), K' = [(5, .bool t1), (7, .int .i64 a1.f1), (8, .int .i64 a1.f2), (9, .slice A2 x2.length c3), (10, .int .i64 t2.2.1), (11, .pointer (some ⟨nx3, 0, none⟩))] ∧ L' = [⟨nx0, [.slice Ap0_0 a0.f0.length cp0_0, .int .u8 a0.f1, .int .i64 a0.f2.f0, .int .i64 a0.f2.f1], 26⟩, ⟨nx0 + 1, [.int .i64 a1.f0.f0, .int .i64 a1.f0.f1, .int .i64 a1.f0.f2, .int .i64 a1.f0.f3, .int .u32 a1.f0.f4, .int .i64 a1.f0.f5.f0, .string a1.f0.f5.f1, .slice Ap1_0_5_2 a1.f0.f5.f2.length cp1_0_5_2, .int .i64 a1.f1, .int .i64 a1.f2], 34⟩, ⟨c1, [.int .i64 a1.f0.f0, .int .i64 a1.f0.f1, .int .i64 a1.f0.f2, .int .i64 a1.f0.f3, .int .u32 a1.f0.f4, .int .i64 a1.f0.f5.f0, .string a1.f0.f5.f1, .slice Ap1_0_5_2 a1.f0.f5.f2.length cp1_0_5_2], 32⟩, ⟨nx3, [.int .i64 t2.2.2.f0, .int .i64 t2.2.2.f1], 24⟩] ∧ X' = [orow 32 8 A2 x2.length c3 cs2] ∧ Imm.le I4 I' ∧ Reps t32 I' x2 cs2 ∧ armillarylaw29_QuorumMatchesReference.k2 k a1 t1 t2 (Sum.inl x2) = some r) ?_ ?_
  ·rintro _ I5 nx5 _ _ ⟨x2, A2, c3, cs2, rfl, rfl, rfl, hi5, hp2, H⟩
   replace H : ((quorum_Prepared.f k x2 t2.2.1 t2.2.2).bind fun t3 => ((armillaryref29_Prepared.f k x2 t2.2.1 t2.2.2).bind fun t4 => ((quorum_Committed.f k x2 t2.2.1 t2.2.2).bind fun t5 => ((armillaryref29_Committed.f k x2 t2.2.1 t2.2.2).bind fun t6 => ((quorum_HighestPrepared.f k x2 t2.2.1 t2.2.2).bind fun t7 => ((armillaryref29_HighestPrepared.f k x2 t2.2.1 t2.2.2).bind fun t8 => (((quorum_MaxFaulty.f a1.f1).bind fun t9 => ((armillaryref29_MaxFaulty.f a1.f1).bind fun t10 => (if t9 = t10 then ((quorum_Size.f a1.f1).bind fun t11 => ((armillaryref29_Size.f a1.f1).bind fun t12 => (if t11 = t12 then ((quorum_Leader.f a1.f1 a1.f2).bind fun t13 => ((armillaryref29_Leader.f a1.f1 a1.f2).bind fun t14 => (if t13 = t14 then ((quorum_Leader.f t2.2.1 a1.f2).bind fun t15 => ((armillaryref29_Leader.f t2.2.1 a1.f2).bind fun t16 => (if t15 = t16 then (if t3.1 = t4.1 then (if (t3.2 == t4.2) = true then (if t5.1 = t6.1 then (if (t5.2 == t6.2) = true then ((armillaryref29_Same.f t7.1 t8.1).bind fun t17 => (if t17 = true then (if (t7.2 == t8.2) = true then (some t1) else (some false)) else (some false))) else (some false)) else (some false)) else (some false)) else (some false)) else (some false)))) else (some false)))) else (some false)))) else (some false)))).bind (armillarylaw29_QuorumMatchesReference.k1)))))))) = some r := H
   refine QN.then_ ?_
   refine OK.seq K3_34 K3_36 (by kernel_rfl) ?_
   refine OK.region 9 O3_34 (by kernel_rfl) ?_
   refine RL.simK (K' := [(76, .agg #[.int .i64 t2.2.2.f0, .int .i64 t2.2.2.f1]), (75, .int .i64 t2.2.1), (74, .slice A2 x2.length c3), (5, .bool t1), (7, .int .i64 a1.f1), (8, .int .i64 a1.f2), (9, .slice A2 x2.length c3), (10, .int .i64 t2.2.1), (11, .pointer (some ⟨nx3, 0, none⟩))]) [] (RFacts.nil _ _ _) 3 [.no, .no, .l 3] (by kernel_rfl) (by kernel_rfl) ?_
   refine RL.freeze (e := 32) (sz := 8) (S := A2) (n := x2.length) (cap := c3) 0 (by kernel_rfl) hp2 rfl (fun _ h => h.elim) (fun I6 hi6 hl1 hr1 => ?_)
   skip
   obtain ⟨t3, hA3, H⟩ := Option.bind_eq_some_iff.mp H
   refine RL.callP 14 [.slice A2 x2.length c3, .int .i64 t2.2.1, .agg #[.int .i64 t2.2.2.f0, .int .i64 t2.2.2.f1]] (some 77) (fun w => quorum_Prepared.Post I6 w t3) (by kernel_rfl) (by kernel_rfl) (fun w hs => quorum_Prepared.calls k I6 x2 A2 c3 t2.2.1 t2.2.2 w hs.im hl1 hr1 t3 hA3) ?_
   rintro w v w' hs ⟨I7, rfl, hg⟩
   have hi7 := hg.le
   refine RL.resume (X' := []) rfl (hs.call hg) ?_
   clear hs hg
   generalize w'.heap.size = nx6
   clear w w'
   refine RL.simK (K' := [(13, .bool t3.2), (12, .int .u32 t3.1), (5, .bool t1), (7, .int .i64 a1.f1), (8, .int .i64 a1.f2), (9, .slice A2 x2.length c3), (10, .int .i64 t2.2.1), (11, .pointer (some ⟨nx3, 0, none⟩))]) [] (RFacts.nil _ _ _) 5 [.no, .no, .no, .no, .no] (by kernel_rfl) (by kernel_rfl) ?_
   refine RL.nil (by kernel_rfl) ?_
   refine QN.then_ ?_
   refine OK.seq K3_37 K3_39 (by kernel_rfl) ?_
   refine OK.region 10 O3_37 (by kernel_rfl) ?_
   refine RL.simK (K' := [(83, .agg #[.int .i64 t2.2.2.f0, .int .i64 t2.2.2.f1]), (82, .int .i64 t2.2.1), (81, .slice A2 x2.length c3), (13, .bool t3.2), (12, .int .u32 t3.1), (5, .bool t1), (7, .int .i64 a1.f1), (8, .int .i64 a1.f2), (9, .slice A2 x2.length c3), (10, .int .i64 t2.2.1), (11, .pointer (some ⟨nx3, 0, none⟩))]) [] (RFacts.nil _ _ _) 3 [.no, .no, .l 3] (by kernel_rfl) (by kernel_rfl) ?_
   obtain ⟨t4, hA4, H⟩ := Option.bind_eq_some_iff.mp H
   refine RL.callP 15 [.slice A2 x2.length c3, .int .i64 t2.2.1, .agg #[.int .i64 t2.2.2.f0, .int .i64 t2.2.2.f1]] (some 84) (fun w => armillaryref29_Prepared.Post I7 w t4) (by kernel_rfl) (by kernel_rfl) (fun w hs => armillaryref29_Prepared.calls k I7 x2 A2 c3 t2.2.1 t2.2.2 w hs.im hl1 (Rd.ext hi7 hr1) t4 hA4) ?_
   rintro w v w' hs ⟨I8, rfl, hg⟩
   have hi8 := hg.le
   refine RL.resume (X' := []) rfl (hs.call hg) ?_
   clear hs hg
   generalize w'.heap.size = nx7
   clear w w'
   refine RL.simK (K' := [(15, .bool t4.2), (14, .int .u32 t4.1), (13, .bool t3.2), (12, .int .u32 t3.1), (5, .bool t1), (7, .int .i64 a1.f1), (8, .int .i64 a1.f2), (9, .slice A2 x2.length c3), (10, .int .i64 t2.2.1), (11, .pointer (some ⟨nx3, 0, none⟩))]) [] (RFacts.nil _ _ _) 5 [.no, .no, .no, .no, .no] (by kernel_rfl) (by kernel_rfl) ?_
   refine RL.nil (by kernel_rfl) ?_
   refine QN.then_ ?_
   refine OK.seq K3_40 K3_42 (by kernel_rfl) ?_
   refine OK.region 11 O3_40 (by kernel_rfl) ?_
   refine RL.simK (K' := [(90, .agg #[.int .i64 t2.2.2.f0, .int .i64 t2.2.2.f1]), (89, .int .i64 t2.2.1), (88, .slice A2 x2.length c3), (15, .bool t4.2), (14, .int .u32 t4.1), (13, .bool t3.2), (12, .int .u32 t3.1), (5, .bool t1), (7, .int .i64 a1.f1), (8, .int .i64 a1.f2), (9, .slice A2 x2.length c3), (10, .int .i64 t2.2.1), (11, .pointer (some ⟨nx3, 0, none⟩))]) [] (RFacts.nil _ _ _) 3 [.no, .no, .l 3] (by kernel_rfl) (by kernel_rfl) ?_
   obtain ⟨t5, hA5, H⟩ := Option.bind_eq_some_iff.mp H
   refine RL.callP 16 [.slice A2 x2.length c3, .int .i64 t2.2.1, .agg #[.int .i64 t2.2.2.f0, .int .i64 t2.2.2.f1]] (some 91) (fun w => quorum_Committed.Post I8 w t5) (by kernel_rfl) (by kernel_rfl) (fun w hs => quorum_Committed.calls k I8 x2 A2 c3 t2.2.1 t2.2.2 w hs.im hl1 (Rd.ext (Imm.le_trans hi7 hi8) hr1) t5 hA5) ?_
   rintro w v w' hs ⟨I9, rfl, hg⟩
   have hi9 := hg.le
   refine RL.resume (X' := []) rfl (hs.call hg) ?_
   clear hs hg
   generalize w'.heap.size = nx8
   clear w w'
   refine RL.simK (K' := [(17, .bool t5.2), (16, .int .u32 t5.1), (15, .bool t4.2), (14, .int .u32 t4.1), (13, .bool t3.2), (12, .int .u32 t3.1), (5, .bool t1), (7, .int .i64 a1.f1), (8, .int .i64 a1.f2), (9, .slice A2 x2.length c3), (10, .int .i64 t2.2.1), (11, .pointer (some ⟨nx3, 0, none⟩))]) [] (RFacts.nil _ _ _) 5 [.no, .no, .no, .no, .no] (by kernel_rfl) (by kernel_rfl) ?_
   refine RL.nil (by kernel_rfl) ?_
   refine QN.then_ ?_
   refine OK.seq K3_43 K3_45 (by kernel_rfl) ?_
   refine OK.region 12 O3_43 (by kernel_rfl) ?_
   refine RL.simK (K' := [(97, .agg #[.int .i64 t2.2.2.f0, .int .i64 t2.2.2.f1]), (96, .int .i64 t2.2.1), (95, .slice A2 x2.length c3), (17, .bool t5.2), (16, .int .u32 t5.1), (15, .bool t4.2), (14, .int .u32 t4.1), (13, .bool t3.2), (12, .int .u32 t3.1), (5, .bool t1), (7, .int .i64 a1.f1), (8, .int .i64 a1.f2), (9, .slice A2 x2.length c3), (10, .int .i64 t2.2.1), (11, .pointer (some ⟨nx3, 0, none⟩))]) [] (RFacts.nil _ _ _) 3 [.no, .no, .l 3] (by kernel_rfl) (by kernel_rfl) ?_
   obtain ⟨t6, hA6, H⟩ := Option.bind_eq_some_iff.mp H
   refine RL.callP 17 [.slice A2 x2.length c3, .int .i64 t2.2.1, .agg #[.int .i64 t2.2.2.f0, .int .i64 t2.2.2.f1]] (some 98) (fun w => armillaryref29_Committed.Post I9 w t6) (by kernel_rfl) (by kernel_rfl) (fun w hs => armillaryref29_Committed.calls k I9 x2 A2 c3 t2.2.1 t2.2.2 w hs.im hl1 (Rd.ext (Imm.le_trans (Imm.le_trans hi7 hi8) hi9) hr1) t6 hA6) ?_
   rintro w v w' hs ⟨I10, rfl, hg⟩
   have hi10 := hg.le
   refine RL.resume (X' := []) rfl (hs.call hg) ?_
   clear hs hg
   generalize w'.heap.size = nx9
   clear w w'
   refine RL.simK (K' := [(19, .bool t6.2), (18, .int .u32 t6.1), (17, .bool t5.2), (16, .int .u32 t5.1), (15, .bool t4.2), (14, .int .u32 t4.1), (13, .bool t3.2), (12, .int .u32 t3.1), (5, .bool t1), (7, .int .i64 a1.f1), (8, .int .i64 a1.f2), (9, .slice A2 x2.length c3), (10, .int .i64 t2.2.1), (11, .pointer (some ⟨nx3, 0, none⟩))]) [] (RFacts.nil _ _ _) 5 [.no, .no, .no, .no, .no] (by kernel_rfl) (by kernel_rfl) ?_
   refine RL.nil (by kernel_rfl) ?_
   refine QN.then_ ?_
   refine OK.seq K3_46 K3_48 (by kernel_rfl) ?_
   refine OK.region 13 O3_46 (by kernel_rfl) ?_
   refine RL.simK (K' := [(104, .agg #[.int .i64 t2.2.2.f0, .int .i64 t2.2.2.f1]), (103, .int .i64 t2.2.1), (102, .slice A2 x2.length c3), (19, .bool t6.2), (18, .int .u32 t6.1), (17, .bool t5.2), (16, .int .u32 t5.1), (15, .bool t4.2), (14, .int .u32 t4.1), (13, .bool t3.2), (12, .int .u32 t3.1), (5, .bool t1), (7, .int .i64 a1.f1), (8, .int .i64 a1.f2), (9, .slice A2 x2.length c3), (10, .int .i64 t2.2.1), (11, .pointer (some ⟨nx3, 0, none⟩))]) [] (RFacts.nil _ _ _) 3 [.no, .no, .l 3] (by kernel_rfl) (by kernel_rfl) ?_
   obtain ⟨t7, hA7, H⟩ := Option.bind_eq_some_iff.mp H
   refine RL.callP 18 [.slice A2 x2.length c3, .int .i64 t2.2.1, .agg #[.int .i64 t2.2.2.f0, .int .i64 t2.2.2.f1]] (some 105) (fun w => quorum_HighestPrepared.Post I10 w t7) (by kernel_rfl) (by kernel_rfl) (fun w hs => quorum_HighestPrepared.calls k I10 x2 A2 c3 t2.2.1 t2.2.2 w hs.im hl1 (Rd.ext (Imm.le_trans (Imm.le_trans (Imm.le_trans hi7 hi8) hi9) hi10) hr1) t7 hA7) ?_
   rintro w v w' hs ⟨I11, A3, c4, rfl, hg, hl2, hr2⟩
   have hi11 := hg.le
   refine RL.resume (X' := []) rfl (hs.call hg) ?_
   clear hs hg
   generalize w'.heap.size = nx10
   clear w w'
   refine RL.simP (K' := [(21, .bool t7.2), (20, .pointer (some ⟨nx10, 0, none⟩)), (19, .bool t6.2), (18, .int .u32 t6.1), (17, .bool t5.2), (16, .int .u32 t5.1), (15, .bool t4.2), (14, .int .u32 t4.1), (13, .bool t3.2), (12, .int .u32 t3.1), (5, .bool t1), (7, .int .i64 a1.f1), (8, .int .i64 a1.f2), (9, .slice A2 x2.length c3), (10, .int .i64 t2.2.1), (11, .pointer (some ⟨nx3, 0, none⟩))]) (nx' := nx10 + 1) (L' := [⟨nx0, [.slice Ap0_0 a0.f0.length cp0_0, .int .u8 a0.f1, .int .i64 a0.f2.f0, .int .i64 a0.f2.f1], 26⟩, ⟨nx0 + 1, [.int .i64 a1.f0.f0, .int .i64 a1.f0.f1, .int .i64 a1.f0.f2, .int .i64 a1.f0.f3, .int .u32 a1.f0.f4, .int .i64 a1.f0.f5.f0, .string a1.f0.f5.f1, .slice Ap1_0_5_2 a1.f0.f5.f2.length cp1_0_5_2, .int .i64 a1.f1, .int .i64 a1.f2], 34⟩, ⟨c1, [.int .i64 a1.f0.f0, .int .i64 a1.f0.f1, .int .i64 a1.f0.f2, .int .i64 a1.f0.f3, .int .u32 a1.f0.f4, .int .i64 a1.f0.f5.f0, .string a1.f0.f5.f1, .slice Ap1_0_5_2 a1.f0.f5.f2.length cp1_0_5_2], 32⟩, ⟨nx3, [.int .i64 t2.2.2.f0, .int .i64 t2.2.2.f1], 24⟩, ⟨nx10, [.int .i64 t7.1.f0, .string t7.1.f1, .slice A3 t7.1.f2.length c4], 30⟩]) [] (RFacts.nil _ _ _) 6 [.no, .no, .no, .no, .l 4, .no] (by kernel_rfl) (by kernel_rfl) ?_
   refine RL.nil (by kernel_rfl) ?_
   refine QN.then_ ?_
   refine OK.seq K3_49 K3_51 (by kernel_rfl) ?_
   refine OK.region 14 O3_49 (by kernel_rfl) ?_
   refine RL.simK (K' := [(111, .agg #[.int .i64 t2.2.2.f0, .int .i64 t2.2.2.f1]), (110, .int .i64 t2.2.1), (109, .slice A2 x2.length c3), (21, .bool t7.2), (20, .pointer (some ⟨nx10, 0, none⟩)), (19, .bool t6.2), (18, .int .u32 t6.1), (17, .bool t5.2), (16, .int .u32 t5.1), (15, .bool t4.2), (14, .int .u32 t4.1), (13, .bool t3.2), (12, .int .u32 t3.1), (5, .bool t1), (7, .int .i64 a1.f1), (8, .int .i64 a1.f2), (10, .int .i64 t2.2.1)]) [] (RFacts.nil _ _ _) 3 [.no, .no, .l 3] (by kernel_rfl) (by kernel_rfl) ?_
   obtain ⟨t8, hA8, H⟩ := Option.bind_eq_some_iff.mp H
   refine RL.callP 19 [.slice A2 x2.length c3, .int .i64 t2.2.1, .agg #[.int .i64 t2.2.2.f0, .int .i64 t2.2.2.f1]] (some 112) (fun w => armillaryref29_HighestPrepared.Post I11 w t8) (by kernel_rfl) (by kernel_rfl) (fun w hs => armillaryref29_HighestPrepared.calls k I11 x2 A2 c3 t2.2.1 t2.2.2 w hs.im hl1 (Rd.ext (Imm.le_trans (Imm.le_trans (Imm.le_trans (Imm.le_trans hi7 hi8) hi9) hi10) hi11) hr1) t8 hA8) ?_
   rintro w v w' hs ⟨I12, A4, c5, rfl, hg, hl3, hr3⟩
   have hi12 := hg.le
   refine RL.resume (X' := []) rfl (hs.call hg) ?_
   clear hs hg
   generalize w'.heap.size = nx11
   clear w w'
   refine RL.simP (K' := [(23, .bool t8.2), (22, .pointer (some ⟨nx11, 0, none⟩)), (21, .bool t7.2), (20, .pointer (some ⟨nx10, 0, none⟩)), (19, .bool t6.2), (18, .int .u32 t6.1), (17, .bool t5.2), (16, .int .u32 t5.1), (15, .bool t4.2), (14, .int .u32 t4.1), (13, .bool t3.2), (12, .int .u32 t3.1), (5, .bool t1), (7, .int .i64 a1.f1), (8, .int .i64 a1.f2), (10, .int .i64 t2.2.1)]) (nx' := nx11 + 1) (L' := [⟨nx0, [.slice Ap0_0 a0.f0.length cp0_0, .int .u8 a0.f1, .int .i64 a0.f2.f0, .int .i64 a0.f2.f1], 26⟩, ⟨nx0 + 1, [.int .i64 a1.f0.f0, .int .i64 a1.f0.f1, .int .i64 a1.f0.f2, .int .i64 a1.f0.f3, .int .u32 a1.f0.f4, .int .i64 a1.f0.f5.f0, .string a1.f0.f5.f1, .slice Ap1_0_5_2 a1.f0.f5.f2.length cp1_0_5_2, .int .i64 a1.f1, .int .i64 a1.f2], 34⟩, ⟨c1, [.int .i64 a1.f0.f0, .int .i64 a1.f0.f1, .int .i64 a1.f0.f2, .int .i64 a1.f0.f3, .int .u32 a1.f0.f4, .int .i64 a1.f0.f5.f0, .string a1.f0.f5.f1, .slice Ap1_0_5_2 a1.f0.f5.f2.length cp1_0_5_2], 32⟩, ⟨nx3, [.int .i64 t2.2.2.f0, .int .i64 t2.2.2.f1], 24⟩, ⟨nx10, [.int .i64 t7.1.f0, .string t7.1.f1, .slice A3 t7.1.f2.length c4], 30⟩, ⟨nx11, [.int .i64 t8.1.f0, .string t8.1.f1, .slice A4 t8.1.f2.length c5], 30⟩]) [] (RFacts.nil _ _ _) 6 [.no, .no, .no, .no, .l 5, .no] (by kernel_rfl) (by kernel_rfl) ?_
   refine RL.nil (by kernel_rfl) ?_
   refine QN.then_ ?_
   refine OK.seq K3_52 K3_54 (by kernel_rfl) ?_
   refine OK.join (fun K' I' _ L' X' => ∃ (x3 : Bool), K' = [(4, .bool x3)] ∧ L' = [⟨nx0, [.slice Ap0_0 a0.f0.length cp0_0, .int .u8 a0.f1, .int .i64 a0.f2.f0, .int .i64 a0.f2.f1], 26⟩, ⟨nx0 + 1, [.int .i64 a1.f0.f0, .int .i64 a1.f0.f1, .int .i64 a1.f0.f2, .int .i64 a1.f0.f3, .int .u32 a1.f0.f4, .int .i64 a1.f0.f5.f0, .string a1.f0.f5.f1, .slice Ap1_0_5_2 a1.f0.f5.f2.length cp1_0_5_2, .int .i64 a1.f1, .int .i64 a1.f2], 34⟩, ⟨c1, [.int .i64 a1.f0.f0, .int .i64 a1.f0.f1, .int .i64 a1.f0.f2, .int .i64 a1.f0.f3, .int .u32 a1.f0.f4, .int .i64 a1.f0.f5.f0, .string a1.f0.f5.f1, .slice Ap1_0_5_2 a1.f0.f5.f2.length cp1_0_5_2], 32⟩, ⟨nx3, [.int .i64 t2.2.2.f0, .int .i64 t2.2.2.f1], 24⟩, ⟨nx10, [.int .i64 t7.1.f0, .string t7.1.f1, .slice A3 t7.1.f2.length c4], 30⟩, ⟨nx11, [.int .i64 t8.1.f0, .string t8.1.f1, .slice A4 t8.1.f2.length c5], 30⟩] ∧ X' = [] ∧ Imm.le I12 I' ∧ armillarylaw29_QuorumMatchesReference.k1 x3 = some r) ?_ ?_
   ·rintro _ I13 nx12 _ _ ⟨x3, rfl, rfl, rfl, hi13, H⟩
    replace H : (some x3) = some r := H
    refine QN.then_ ?_
    refine OK.ret (by kernel_rfl) ?_
    obtain rfl := Option.some.inj H
    refine QN.body rfl [] (RFacts.nil _ _ _) (.no) (.bool x3) (by kernel_rfl) (by kernel_rfl) (by kernel_rfl) ?_ _ (.inr rfl)
    exact fun w' hs' => ⟨_, rfl, I13, rfl, hs'.got _ .slnil⟩
   ·intro Q_1 hJ3 hQ3
    obtain ⟨y3, H, HK3⟩ := Option.bind_eq_some_iff.mp H
    refine OK.region 15 O3_52 (by kernel_rfl) ?_
    refine RL.simK (K' := [(115, .int .i64 a1.f1), (23, .bool t8.2), (22, .pointer (some ⟨nx11, 0, none⟩)), (21, .bool t7.2), (20, .pointer (some ⟨nx10, 0, none⟩)), (19, .bool t6.2), (18, .int .u32 t6.1), (17, .bool t5.2), (16, .int .u32 t5.1), (15, .bool t4.2), (14, .int .u32 t4.1), (13, .bool t3.2), (12, .int .u32 t3.1), (5, .bool t1), (7, .int .i64 a1.f1), (8, .int .i64 a1.f2), (10, .int .i64 t2.2.1)]) [] (RFacts.nil _ _ _) 1 [.no] (by kernel_rfl) (by kernel_rfl) ?_
    obtain ⟨t9, hA9, H⟩ := Option.bind_eq_some_iff.mp H
    refine RL.callP 20 [.int .i64 a1.f1] (some 116) (fun w => quorum_MaxFaulty.Post I12 w t9) (by kernel_rfl) (by kernel_rfl) (fun w hs => quorum_MaxFaulty.calls I12 a1.f1 w hs.im  t9 hA9) ?_
    rintro w v w' hs ⟨I14, rfl, hg⟩
    have hi14 := hg.le
    refine RL.resume (X' := []) rfl (hs.call hg) ?_
    clear hs hg
    generalize w'.heap.size = nx13
    clear w w'
    refine RL.simK (K' := [(117, .int .i64 a1.f1), (116, .int .i64 t9), (23, .bool t8.2), (22, .pointer (some ⟨nx11, 0, none⟩)), (21, .bool t7.2), (20, .pointer (some ⟨nx10, 0, none⟩)), (19, .bool t6.2), (18, .int .u32 t6.1), (17, .bool t5.2), (16, .int .u32 t5.1), (15, .bool t4.2), (14, .int .u32 t4.1), (13, .bool t3.2), (12, .int .u32 t3.1), (5, .bool t1), (7, .int .i64 a1.f1), (8, .int .i64 a1.f2), (10, .int .i64 t2.2.1)]) [] (RFacts.nil _ _ _) 1 [.no] (by kernel_rfl) (by kernel_rfl) ?_
    obtain ⟨t10, hA10, H⟩ := Option.bind_eq_some_iff.mp H
    refine RL.callP 21 [.int .i64 a1.f1] (some 118) (fun w => armillaryref29_MaxFaulty.Post I14 w t10) (by kernel_rfl) (by kernel_rfl) (fun w hs => armillaryref29_MaxFaulty.calls I14 a1.f1 w hs.im  t10 hA10) ?_
    rintro w v w' hs ⟨I15, rfl, hg⟩
    have hi15 := hg.le
    refine RL.resume (X' := []) rfl (hs.call hg) ?_
    clear hs hg
    generalize w'.heap.size = nx14
    clear w w'
    refine RL.simK (K' := [(120, .bool (t9 == t10)), (23, .bool t8.2), (22, .pointer (some ⟨nx11, 0, none⟩)), (21, .bool t7.2), (20, .pointer (some ⟨nx10, 0, none⟩)), (19, .bool t6.2), (18, .int .u32 t6.1), (17, .bool t5.2), (16, .int .u32 t5.1), (15, .bool t4.2), (14, .int .u32 t4.1), (13, .bool t3.2), (12, .int .u32 t3.1), (5, .bool t1), (7, .int .i64 a1.f1), (8, .int .i64 a1.f2), (10, .int .i64 t2.2.1)]) [] (RFacts.nil _ _ _) 2 [.no, .no] (by kernel_rfl) (by kernel_rfl) ?_
    refine RL.cases (t9 == t10) (fun hb => ?_) (fun hb => ?_)
    ·have hc := (beq_iff_eq.1 hb)
     rw [hb]
     rw [if_pos hc] at H; clear hb
     refine RL.simK (K' := [(121, .int .i64 a1.f1), (120, .bool true), (23, .bool t8.2), (22, .pointer (some ⟨nx11, 0, none⟩)), (21, .bool t7.2), (20, .pointer (some ⟨nx10, 0, none⟩)), (19, .bool t6.2), (18, .int .u32 t6.1), (17, .bool t5.2), (16, .int .u32 t5.1), (15, .bool t4.2), (14, .int .u32 t4.1), (13, .bool t3.2), (12, .int .u32 t3.1), (5, .bool t1), (7, .int .i64 a1.f1), (8, .int .i64 a1.f2), (10, .int .i64 t2.2.1)]) [] (RFacts.nil _ _ _) 1 [.no] (by kernel_rfl) (by kernel_rfl) ?_
     obtain ⟨t11, hA11, H⟩ := Option.bind_eq_some_iff.mp H
     refine RL.callP 22 [.int .i64 a1.f1] (some 122) (fun w => quorum_Size.Post I15 w t11) (by kernel_rfl) (by kernel_rfl) (fun w hs => quorum_Size.calls I15 a1.f1 w hs.im  t11 hA11) ?_
     rintro w v w' hs ⟨I16, rfl, hg⟩
     have hi16 := hg.le
     refine RL.resume (X' := []) rfl (hs.call hg) ?_
     clear hs hg
     generalize w'.heap.size = nx15
     clear w w'
     refine RL.simK (K' := [(123, .int .i64 a1.f1), (122, .int .i64 t11), (120, .bool true), (23, .bool t8.2), (22, .pointer (some ⟨nx11, 0, none⟩)), (21, .bool t7.2), (20, .pointer (some ⟨nx10, 0, none⟩)), (19, .bool t6.2), (18, .int .u32 t6.1), (17, .bool t5.2), (16, .int .u32 t5.1), (15, .bool t4.2), (14, .int .u32 t4.1), (13, .bool t3.2), (12, .int .u32 t3.1), (5, .bool t1), (7, .int .i64 a1.f1), (8, .int .i64 a1.f2), (10, .int .i64 t2.2.1)]) [] (RFacts.nil _ _ _) 1 [.no] (by kernel_rfl) (by kernel_rfl) ?_
     obtain ⟨t12, hA12, H⟩ := Option.bind_eq_some_iff.mp H
     refine RL.callP 23 [.int .i64 a1.f1] (some 124) (fun w => armillaryref29_Size.Post I16 w t12) (by kernel_rfl) (by kernel_rfl) (fun w hs => armillaryref29_Size.calls I16 a1.f1 w hs.im  t12 hA12) ?_
     rintro w v w' hs ⟨I17, rfl, hg⟩
     have hi17 := hg.le
     refine RL.resume (X' := []) rfl (hs.call hg) ?_
     clear hs hg
     generalize w'.heap.size = nx16
     clear w w'
     refine RL.simK (K' := [(127, .bool (t11 == t12)), (23, .bool t8.2), (22, .pointer (some ⟨nx11, 0, none⟩)), (21, .bool t7.2), (20, .pointer (some ⟨nx10, 0, none⟩)), (19, .bool t6.2), (18, .int .u32 t6.1), (17, .bool t5.2), (16, .int .u32 t5.1), (15, .bool t4.2), (14, .int .u32 t4.1), (13, .bool t3.2), (12, .int .u32 t3.1), (5, .bool t1), (7, .int .i64 a1.f1), (8, .int .i64 a1.f2), (10, .int .i64 t2.2.1)]) [] (RFacts.nil _ _ _) 3 [.no, .no, .no] (by kernel_rfl) (by kernel_rfl) ?_
     refine RL.cases (t11 == t12) (fun hb => ?_) (fun hb => ?_)
     ·have hc := (beq_iff_eq.1 hb)
      rw [hb]
      rw [if_pos hc] at H; clear hb
      refine RL.simK (K' := [(129, .int .i64 a1.f2), (128, .int .i64 a1.f1), (127, .bool true), (23, .bool t8.2), (22, .pointer (some ⟨nx11, 0, none⟩)), (21, .bool t7.2), (20, .pointer (some ⟨nx10, 0, none⟩)), (19, .bool t6.2), (18, .int .u32 t6.1), (17, .bool t5.2), (16, .int .u32 t5.1), (15, .bool t4.2), (14, .int .u32 t4.1), (13, .bool t3.2), (12, .int .u32 t3.1), (5, .bool t1), (7, .int .i64 a1.f1), (8, .int .i64 a1.f2), (10, .int .i64 t2.2.1)]) [] (RFacts.nil _ _ _) 2 [.no, .no] (by kernel_rfl) (by kernel_rfl) ?_
      obtain ⟨t13, hA13, H⟩ := Option.bind_eq_some_iff.mp H
      refine RL.callP 24 [.int .i64 a1.f1, .int .i64 a1.f2] (some 130) (fun w => quorum_Leader.Post I17 w t13) (by kernel_rfl) (by kernel_rfl) (fun w hs => quorum_Leader.calls I17 a1.f1 a1.f2 w hs.im  t13 hA13) ?_
      rintro w v w' hs ⟨I18, rfl, hg⟩
      have hi18 := hg.le
      refine RL.resume (X' := []) rfl (hs.call hg) ?_
      clear hs hg
      generalize w'.heap.size = nx17
      clear w w'
      refine RL.simK (K' := [(132, .int .i64 a1.f2), (131, .int .i64 a1.f1), (130, .int .i64 t13), (127, .bool true), (23, .bool t8.2), (22, .pointer (some ⟨nx11, 0, none⟩)), (21, .bool t7.2), (20, .pointer (some ⟨nx10, 0, none⟩)), (19, .bool t6.2), (18, .int .u32 t6.1), (17, .bool t5.2), (16, .int .u32 t5.1), (15, .bool t4.2), (14, .int .u32 t4.1), (13, .bool t3.2), (12, .int .u32 t3.1), (5, .bool t1), (8, .int .i64 a1.f2), (10, .int .i64 t2.2.1)]) [] (RFacts.nil _ _ _) 2 [.no, .no] (by kernel_rfl) (by kernel_rfl) ?_
      obtain ⟨t14, hA14, H⟩ := Option.bind_eq_some_iff.mp H
      refine RL.callP 25 [.int .i64 a1.f1, .int .i64 a1.f2] (some 133) (fun w => armillaryref29_Leader.Post I18 w t14) (by kernel_rfl) (by kernel_rfl) (fun w hs => armillaryref29_Leader.calls I18 a1.f1 a1.f2 w hs.im  t14 hA14) ?_
      rintro w v w' hs ⟨I19, rfl, hg⟩
      have hi19 := hg.le
      refine RL.resume (X' := []) rfl (hs.call hg) ?_
      clear hs hg
      generalize w'.heap.size = nx18
      clear w w'
      refine RL.simK (K' := [(136, .bool (t13 == t14)), (23, .bool t8.2), (22, .pointer (some ⟨nx11, 0, none⟩)), (21, .bool t7.2), (20, .pointer (some ⟨nx10, 0, none⟩)), (19, .bool t6.2), (18, .int .u32 t6.1), (17, .bool t5.2), (16, .int .u32 t5.1), (15, .bool t4.2), (14, .int .u32 t4.1), (13, .bool t3.2), (12, .int .u32 t3.1), (5, .bool t1), (8, .int .i64 a1.f2), (10, .int .i64 t2.2.1)]) [] (RFacts.nil _ _ _) 3 [.no, .no, .no] (by kernel_rfl) (by kernel_rfl) ?_
      refine RL.cases (t13 == t14) (fun hb => ?_) (fun hb => ?_)
      ·have hc := (beq_iff_eq.1 hb)
       rw [hb]
       rw [if_pos hc] at H; clear hb
       refine RL.simK (K' := [(138, .int .i64 a1.f2), (137, .int .i64 t2.2.1), (136, .bool true), (23, .bool t8.2), (22, .pointer (some ⟨nx11, 0, none⟩)), (21, .bool t7.2), (20, .pointer (some ⟨nx10, 0, none⟩)), (19, .bool t6.2), (18, .int .u32 t6.1), (17, .bool t5.2), (16, .int .u32 t5.1), (15, .bool t4.2), (14, .int .u32 t4.1), (13, .bool t3.2), (12, .int .u32 t3.1), (5, .bool t1), (8, .int .i64 a1.f2), (10, .int .i64 t2.2.1)]) [] (RFacts.nil _ _ _) 2 [.no, .no] (by kernel_rfl) (by kernel_rfl) ?_
       obtain ⟨t15, hA15, H⟩ := Option.bind_eq_some_iff.mp H
       refine RL.callP 24 [.int .i64 t2.2.1, .int .i64 a1.f2] (some 139) (fun w => quorum_Leader.Post I19 w t15) (by kernel_rfl) (by kernel_rfl) (fun w hs => quorum_Leader.calls I19 t2.2.1 a1.f2 w hs.im  t15 hA15) ?_
       rintro w v w' hs ⟨I20, rfl, hg⟩
       have hi20 := hg.le
       refine RL.resume (X' := []) rfl (hs.call hg) ?_
       clear hs hg
       generalize w'.heap.size = nx19
       clear w w'
       refine RL.simK (K' := [(141, .int .i64 a1.f2), (140, .int .i64 t2.2.1), (139, .int .i64 t15), (136, .bool true), (23, .bool t8.2), (22, .pointer (some ⟨nx11, 0, none⟩)), (21, .bool t7.2), (20, .pointer (some ⟨nx10, 0, none⟩)), (19, .bool t6.2), (18, .int .u32 t6.1), (17, .bool t5.2), (16, .int .u32 t5.1), (15, .bool t4.2), (14, .int .u32 t4.1), (13, .bool t3.2), (12, .int .u32 t3.1), (5, .bool t1)]) [] (RFacts.nil _ _ _) 2 [.no, .no] (by kernel_rfl) (by kernel_rfl) ?_
       obtain ⟨t16, hA16, H⟩ := Option.bind_eq_some_iff.mp H
       refine RL.callP 25 [.int .i64 t2.2.1, .int .i64 a1.f2] (some 142) (fun w => armillaryref29_Leader.Post I20 w t16) (by kernel_rfl) (by kernel_rfl) (fun w hs => armillaryref29_Leader.calls I20 t2.2.1 a1.f2 w hs.im  t16 hA16) ?_
       rintro w v w' hs ⟨I21, rfl, hg⟩
       have hi21 := hg.le
       refine RL.resume (X' := []) rfl (hs.call hg) ?_
       clear hs hg
       generalize w'.heap.size = nx20
       clear w w'
       refine RL.simK (K' := [(145, .bool (t15 == t16)), (23, .bool t8.2), (22, .pointer (some ⟨nx11, 0, none⟩)), (21, .bool t7.2), (20, .pointer (some ⟨nx10, 0, none⟩)), (19, .bool t6.2), (18, .int .u32 t6.1), (17, .bool t5.2), (16, .int .u32 t5.1), (15, .bool t4.2), (14, .int .u32 t4.1), (13, .bool t3.2), (12, .int .u32 t3.1), (5, .bool t1)]) [] (RFacts.nil _ _ _) 3 [.no, .no, .no] (by kernel_rfl) (by kernel_rfl) ?_
       refine RL.cases (t15 == t16) (fun hb => ?_) (fun hb => ?_)
       ·have hc := (beq_iff_eq.1 hb)
        rw [hb]
        rw [if_pos hc] at H; clear hb
        refine RL.simK (K' := [(150, .bool (t3.1 == t4.1)), (23, .bool t8.2), (22, .pointer (some ⟨nx11, 0, none⟩)), (21, .bool t7.2), (20, .pointer (some ⟨nx10, 0, none⟩)), (19, .bool t6.2), (18, .int .u32 t6.1), (17, .bool t5.2), (16, .int .u32 t5.1), (15, .bool t4.2), (13, .bool t3.2), (5, .bool t1)]) [] (RFacts.nil _ _ _) 5 [.no, .no, .no, .no, .no] (by kernel_rfl) (by kernel_rfl) ?_
        refine RL.cases (t3.1 == t4.1) (fun hb => ?_) (fun hb => ?_)
        ·have hc := (beq_iff_eq.1 hb)
         rw [hb]
         rw [if_pos hc] at H; clear hb
         refine RL.simK (K' := [(155, .bool (t3.2 == t4.2)), (23, .bool t8.2), (22, .pointer (some ⟨nx11, 0, none⟩)), (21, .bool t7.2), (20, .pointer (some ⟨nx10, 0, none⟩)), (19, .bool t6.2), (18, .int .u32 t6.1), (17, .bool t5.2), (16, .int .u32 t5.1), (5, .bool t1)]) [] (RFacts.nil _ _ _) 5 [.no, .no, .no, .no, .no] (by kernel_rfl) (by kernel_rfl) ?_
         refine RL.cases (t3.2 == t4.2) (fun hb => ?_) (fun hb => ?_)
         ·have hc := hb
          rw [hb]
          rw [if_pos hc] at H; clear hb
          refine RL.simK (K' := [(160, .bool (t5.1 == t6.1)), (23, .bool t8.2), (22, .pointer (some ⟨nx11, 0, none⟩)), (21, .bool t7.2), (20, .pointer (some ⟨nx10, 0, none⟩)), (19, .bool t6.2), (17, .bool t5.2), (5, .bool t1)]) [] (RFacts.nil _ _ _) 5 [.no, .no, .no, .no, .no] (by kernel_rfl) (by kernel_rfl) ?_
          refine RL.cases (t5.1 == t6.1) (fun hb => ?_) (fun hb => ?_)
          ·have hc := (beq_iff_eq.1 hb)
           rw [hb]
           rw [if_pos hc] at H; clear hb
           refine RL.simK (K' := [(165, .bool (t5.2 == t6.2)), (23, .bool t8.2), (22, .pointer (some ⟨nx11, 0, none⟩)), (21, .bool t7.2), (20, .pointer (some ⟨nx10, 0, none⟩)), (5, .bool t1)]) [] (RFacts.nil _ _ _) 5 [.no, .no, .no, .no, .no] (by kernel_rfl) (by kernel_rfl) ?_
           refine RL.cases (t5.2 == t6.2) (fun hb => ?_) (fun hb => ?_)
           ·have hc := hb
            rw [hb]
            rw [if_pos hc] at H; clear hb
            refine RL.simK (K' := [(167, .agg #[.int .i64 t8.1.f0, .string t8.1.f1, .slice A4 t8.1.f2.length c5]), (166, .agg #[.int .i64 t7.1.f0, .string t7.1.f1, .slice A3 t7.1.f2.length c4]), (165, .bool true), (23, .bool t8.2), (21, .bool t7.2), (5, .bool t1)]) [] (RFacts.nil _ _ _) 2 [.l 4, .l 5] (by kernel_rfl) (by kernel_rfl) ?_
            obtain ⟨t17, hA17, H⟩ := Option.bind_eq_some_iff.mp H
            refine RL.callP 26 [.agg #[.int .i64 t7.1.f0, .string t7.1.f1, .slice A3 t7.1.f2.length c4], .agg #[.int .i64 t8.1.f0, .string t8.1.f1, .slice A4 t8.1.f2.length c5]] (some 168) (fun w => armillaryref29_Same.Post I21 w t17) (by kernel_rfl) (by kernel_rfl) (fun w hs => armillaryref29_Same.calls I21 t7.1 A3 c4 t8.1 A4 c5 w hs.im hl2 (Rd.ext (Imm.le_trans (Imm.le_trans (Imm.le_trans (Imm.le_trans (Imm.le_trans (Imm.le_trans (Imm.le_trans (Imm.le_trans hi12 hi14) hi15) hi16) hi17) hi18) hi19) hi20) hi21) hr2) hl3 (Rd.ext (Imm.le_trans (Imm.le_trans (Imm.le_trans (Imm.le_trans (Imm.le_trans (Imm.le_trans (Imm.le_trans hi14 hi15) hi16) hi17) hi18) hi19) hi20) hi21) hr3) t17 hA17) ?_
            rintro w v w' hs ⟨I22, rfl, hg⟩
            have hi22 := hg.le
            refine RL.resume (X' := []) rfl (hs.call hg) ?_
            clear hs hg
            generalize w'.heap.size = nx21
            clear w w'
            refine RL.simK (K' := [(170, .bool t17), (23, .bool t8.2), (21, .bool t7.2), (5, .bool t1)]) [] (RFacts.nil _ _ _) 2 [.no, .no] (by kernel_rfl) (by kernel_rfl) ?_
            refine RL.cases t17 (fun hb => ?_) (fun hb => ?_)
            ·have hc := hb
             rw [hb]
             rw [if_pos hc] at H; clear hb
             refine RL.simK (K' := [(175, .bool (t7.2 == t8.2)), (5, .bool t1)]) [] (RFacts.nil _ _ _) 5 [.no, .no, .no, .no, .no] (by kernel_rfl) (by kernel_rfl) ?_
             refine RL.cases (t7.2 == t8.2) (fun hb => ?_) (fun hb => ?_)
             ·have hc := hb
              rw [hb]
              rw [if_pos hc] at H; clear hb
              refine RL.simK (K' := [(4, .bool t1)]) [] (RFacts.nil _ _ _) 3 [.no, .no, .no] (by kernel_rfl) (by kernel_rfl) ?_
              refine RL.nil (by kernel_rfl) ?_
              obtain rfl := Option.some.inj H
              refine QN.sub (K' := [(4, .bool t1)]) (L' := [⟨nx0, [.slice Ap0_0 a0.f0.length cp0_0, .int .u8 a0.f1, .int .i64 a0.f2.f0, .int .i64 a0.f2.f1], 26⟩, ⟨nx0 + 1, [.int .i64 a1.f0.f0, .int .i64 a1.f0.f1, .int .i64 a1.f0.f2, .int .i64 a1.f0.f3, .int .u32 a1.f0.f4, .int .i64 a1.f0.f5.f0, .string a1.f0.f5.f1, .slice Ap1_0_5_2 a1.f0.f5.f2.length cp1_0_5_2, .int .i64 a1.f1, .int .i64 a1.f2], 34⟩, ⟨c1, [.int .i64 a1.f0.f0, .int .i64 a1.f0.f1, .int .i64 a1.f0.f2, .int .i64 a1.f0.f3, .int .u32 a1.f0.f4, .int .i64 a1.f0.f5.f0, .string a1.f0.f5.f1, .slice Ap1_0_5_2 a1.f0.f5.f2.length cp1_0_5_2], 32⟩, ⟨nx3, [.int .i64 t2.2.2.f0, .int .i64 t2.2.2.f1], 24⟩, ⟨nx10, [.int .i64 t7.1.f0, .string t7.1.f1, .slice A3 t7.1.f2.length c4], 30⟩, ⟨nx11, [.int .i64 t8.1.f0, .string t8.1.f1, .slice A4 t8.1.f2.length c5], 30⟩]) (by kernel_rfl) (.cons_cons _ (.cons_cons _ (.cons_cons _ (.cons_cons _ (.cons_cons _ (.cons_cons _ .slnil)))))) (.refl _) ?_
              exact hJ3 _ _ _ _ _ ⟨t1, rfl, rfl, rfl, (Imm.le_trans (Imm.le_trans (Imm.le_trans (Imm.le_trans (Imm.le_trans (Imm.le_trans (Imm.le_trans (Imm.le_trans hi14 hi15) hi16) hi17) hi18) hi19) hi20) hi21) hi22), HK3⟩
             ·have hc := (Bool.eq_false_iff.1 hb)
              rw [hb]
              rw [if_neg hc] at H; clear hb
              refine RL.simK (K' := [(4, .bool false)]) [] (RFacts.nil _ _ _) 3 [.no, .no, .no] (by kernel_rfl) (by kernel_rfl) ?_
              refine RL.nil (by kernel_rfl) ?_
              obtain rfl := Option.some.inj H
              refine QN.sub (K' := [(4, .bool false)]) (L' := [⟨nx0, [.slice Ap0_0 a0.f0.length cp0_0, .int .u8 a0.f1, .int .i64 a0.f2.f0, .int .i64 a0.f2.f1], 26⟩, ⟨nx0 + 1, [.int .i64 a1.f0.f0, .int .i64 a1.f0.f1, .int .i64 a1.f0.f2, .int .i64 a1.f0.f3, .int .u32 a1.f0.f4, .int .i64 a1.f0.f5.f0, .string a1.f0.f5.f1, .slice Ap1_0_5_2 a1.f0.f5.f2.length cp1_0_5_2, .int .i64 a1.f1, .int .i64 a1.f2], 34⟩, ⟨c1, [.int .i64 a1.f0.f0, .int .i64 a1.f0.f1, .int .i64 a1.f0.f2, .int .i64 a1.f0.f3, .int .u32 a1.f0.f4, .int .i64 a1.f0.f5.f0, .string a1.f0.f5.f1, .slice Ap1_0_5_2 a1.f0.f5.f2.length cp1_0_5_2], 32⟩, ⟨nx3, [.int .i64 t2.2.2.f0, .int .i64 t2.2.2.f1], 24⟩, ⟨nx10, [.int .i64 t7.1.f0, .string t7.1.f1, .slice A3 t7.1.f2.length c4], 30⟩, ⟨nx11, [.int .i64 t8.1.f0, .string t8.1.f1, .slice A4 t8.1.f2.length c5], 30⟩]) (by kernel_rfl) (.cons_cons _ (.cons_cons _ (.cons_cons _ (.cons_cons _ (.cons_cons _ (.cons_cons _ .slnil)))))) (.refl _) ?_
              exact hJ3 _ _ _ _ _ ⟨false, rfl, rfl, rfl, (Imm.le_trans (Imm.le_trans (Imm.le_trans (Imm.le_trans (Imm.le_trans (Imm.le_trans (Imm.le_trans (Imm.le_trans hi14 hi15) hi16) hi17) hi18) hi19) hi20) hi21) hi22), HK3⟩
            ·have hc := (Bool.eq_false_iff.1 hb)
             rw [hb]
             rw [if_neg hc] at H; clear hb
             refine RL.simK (K' := [(4, .bool false)]) [] (RFacts.nil _ _ _) 8 [.no, .no, .no, .no, .no, .no, .no, .no] (by kernel_rfl) (by kernel_rfl) ?_
             refine RL.nil (by kernel_rfl) ?_
             obtain rfl := Option.some.inj H
             refine QN.sub (K' := [(4, .bool false)]) (L' := [⟨nx0, [.slice Ap0_0 a0.f0.length cp0_0, .int .u8 a0.f1, .int .i64 a0.f2.f0, .int .i64 a0.f2.f1], 26⟩, ⟨nx0 + 1, [.int .i64 a1.f0.f0, .int .i64 a1.f0.f1, .int .i64 a1.f0.f2, .int .i64 a1.f0.f3, .int .u32 a1.f0.f4, .int .i64 a1.f0.f5.f0, .string a1.f0.f5.f1, .slice Ap1_0_5_2 a1.f0.f5.f2.length cp1_0_5_2, .int .i64 a1.f1, .int .i64 a1.f2], 34⟩, ⟨c1, [.int .i64 a1.f0.f0, .int .i64 a1.f0.f1, .int .i64 a1.f0.f2, .int .i64 a1.f0.f3, .int .u32 a1.f0.f4, .int .i64 a1.f0.f5.f0, .string a1.f0.f5.f1, .slice Ap1_0_5_2 a1.f0.f5.f2.length cp1_0_5_2], 32⟩, ⟨nx3, [.int .i64 t2.2.2.f0, .int .i64 t2.2.2.f1], 24⟩, ⟨nx10, [.int .i64 t7.1.f0, .string t7.1.f1, .slice A3 t7.1.f2.length c4], 30⟩, ⟨nx11, [.int .i64 t8.1.f0, .string t8.1.f1, .slice A4 t8.1.f2.length c5], 30⟩]) (by kernel_rfl) (.cons_cons _ (.cons_cons _ (.cons_cons _ (.cons_cons _ (.cons_cons _ (.cons_cons _ .slnil)))))) (.refl _) ?_
             exact hJ3 _ _ _ _ _ ⟨false, rfl, rfl, rfl, (Imm.le_trans (Imm.le_trans (Imm.le_trans (Imm.le_trans (Imm.le_trans (Imm.le_trans (Imm.le_trans (Imm.le_trans hi14 hi15) hi16) hi17) hi18) hi19) hi20) hi21) hi22), HK3⟩
           ·have hc := (Bool.eq_false_iff.1 hb)
            rw [hb]
            rw [if_neg hc] at H; clear hb
            refine RL.simK (K' := [(4, .bool false)]) [] (RFacts.nil _ _ _) 13 [.no, .no, .no, .no, .no, .no, .no, .no, .no, .no, .no, .no, .no] (by kernel_rfl) (by kernel_rfl) ?_
            refine RL.nil (by kernel_rfl) ?_
            obtain rfl := Option.some.inj H
            refine QN.sub (K' := [(4, .bool false)]) (L' := [⟨nx0, [.slice Ap0_0 a0.f0.length cp0_0, .int .u8 a0.f1, .int .i64 a0.f2.f0, .int .i64 a0.f2.f1], 26⟩, ⟨nx0 + 1, [.int .i64 a1.f0.f0, .int .i64 a1.f0.f1, .int .i64 a1.f0.f2, .int .i64 a1.f0.f3, .int .u32 a1.f0.f4, .int .i64 a1.f0.f5.f0, .string a1.f0.f5.f1, .slice Ap1_0_5_2 a1.f0.f5.f2.length cp1_0_5_2, .int .i64 a1.f1, .int .i64 a1.f2], 34⟩, ⟨c1, [.int .i64 a1.f0.f0, .int .i64 a1.f0.f1, .int .i64 a1.f0.f2, .int .i64 a1.f0.f3, .int .u32 a1.f0.f4, .int .i64 a1.f0.f5.f0, .string a1.f0.f5.f1, .slice Ap1_0_5_2 a1.f0.f5.f2.length cp1_0_5_2], 32⟩, ⟨nx3, [.int .i64 t2.2.2.f0, .int .i64 t2.2.2.f1], 24⟩, ⟨nx10, [.int .i64 t7.1.f0, .string t7.1.f1, .slice A3 t7.1.f2.length c4], 30⟩, ⟨nx11, [.int .i64 t8.1.f0, .string t8.1.f1, .slice A4 t8.1.f2.length c5], 30⟩]) (by kernel_rfl) (.cons_cons _ (.cons_cons _ (.cons_cons _ (.cons_cons _ (.cons_cons _ (.cons_cons _ .slnil)))))) (.refl _) ?_
            exact hJ3 _ _ _ _ _ ⟨false, rfl, rfl, rfl, (Imm.le_trans (Imm.le_trans (Imm.le_trans (Imm.le_trans (Imm.le_trans (Imm.le_trans (Imm.le_trans hi14 hi15) hi16) hi17) hi18) hi19) hi20) hi21), HK3⟩
          ·have hc := (beq_eq_false_iff_ne.1 hb)
           rw [hb]
           rw [if_neg hc] at H; clear hb
           refine RL.simK (K' := [(4, .bool false)]) [] (RFacts.nil _ _ _) 18 [.no, .no, .no, .no, .no, .no, .no, .no, .no, .no, .no, .no, .no, .no, .no, .no, .no, .no] (by kernel_rfl) (by kernel_rfl) ?_
           refine RL.nil (by kernel_rfl) ?_
           obtain rfl := Option.some.inj H
           refine QN.sub (K' := [(4, .bool false)]) (L' := [⟨nx0, [.slice Ap0_0 a0.f0.length cp0_0, .int .u8 a0.f1, .int .i64 a0.f2.f0, .int .i64 a0.f2.f1], 26⟩, ⟨nx0 + 1, [.int .i64 a1.f0.f0, .int .i64 a1.f0.f1, .int .i64 a1.f0.f2, .int .i64 a1.f0.f3, .int .u32 a1.f0.f4, .int .i64 a1.f0.f5.f0, .string a1.f0.f5.f1, .slice Ap1_0_5_2 a1.f0.f5.f2.length cp1_0_5_2, .int .i64 a1.f1, .int .i64 a1.f2], 34⟩, ⟨c1, [.int .i64 a1.f0.f0, .int .i64 a1.f0.f1, .int .i64 a1.f0.f2, .int .i64 a1.f0.f3, .int .u32 a1.f0.f4, .int .i64 a1.f0.f5.f0, .string a1.f0.f5.f1, .slice Ap1_0_5_2 a1.f0.f5.f2.length cp1_0_5_2], 32⟩, ⟨nx3, [.int .i64 t2.2.2.f0, .int .i64 t2.2.2.f1], 24⟩, ⟨nx10, [.int .i64 t7.1.f0, .string t7.1.f1, .slice A3 t7.1.f2.length c4], 30⟩, ⟨nx11, [.int .i64 t8.1.f0, .string t8.1.f1, .slice A4 t8.1.f2.length c5], 30⟩]) (by kernel_rfl) (.cons_cons _ (.cons_cons _ (.cons_cons _ (.cons_cons _ (.cons_cons _ (.cons_cons _ .slnil)))))) (.refl _) ?_
           exact hJ3 _ _ _ _ _ ⟨false, rfl, rfl, rfl, (Imm.le_trans (Imm.le_trans (Imm.le_trans (Imm.le_trans (Imm.le_trans (Imm.le_trans (Imm.le_trans hi14 hi15) hi16) hi17) hi18) hi19) hi20) hi21), HK3⟩
         ·have hc := (Bool.eq_false_iff.1 hb)
          rw [hb]
          rw [if_neg hc] at H; clear hb
          refine RL.simK (K' := [(4, .bool false)]) [] (RFacts.nil _ _ _) 23 [.no, .no, .no, .no, .no, .no, .no, .no, .no, .no, .no, .no, .no, .no, .no, .no, .no, .no, .no, .no, .no, .no, .no] (by kernel_rfl) (by kernel_rfl) ?_
          refine RL.nil (by kernel_rfl) ?_
          obtain rfl := Option.some.inj H
          refine QN.sub (K' := [(4, .bool false)]) (L' := [⟨nx0, [.slice Ap0_0 a0.f0.length cp0_0, .int .u8 a0.f1, .int .i64 a0.f2.f0, .int .i64 a0.f2.f1], 26⟩, ⟨nx0 + 1, [.int .i64 a1.f0.f0, .int .i64 a1.f0.f1, .int .i64 a1.f0.f2, .int .i64 a1.f0.f3, .int .u32 a1.f0.f4, .int .i64 a1.f0.f5.f0, .string a1.f0.f5.f1, .slice Ap1_0_5_2 a1.f0.f5.f2.length cp1_0_5_2, .int .i64 a1.f1, .int .i64 a1.f2], 34⟩, ⟨c1, [.int .i64 a1.f0.f0, .int .i64 a1.f0.f1, .int .i64 a1.f0.f2, .int .i64 a1.f0.f3, .int .u32 a1.f0.f4, .int .i64 a1.f0.f5.f0, .string a1.f0.f5.f1, .slice Ap1_0_5_2 a1.f0.f5.f2.length cp1_0_5_2], 32⟩, ⟨nx3, [.int .i64 t2.2.2.f0, .int .i64 t2.2.2.f1], 24⟩, ⟨nx10, [.int .i64 t7.1.f0, .string t7.1.f1, .slice A3 t7.1.f2.length c4], 30⟩, ⟨nx11, [.int .i64 t8.1.f0, .string t8.1.f1, .slice A4 t8.1.f2.length c5], 30⟩]) (by kernel_rfl) (.cons_cons _ (.cons_cons _ (.cons_cons _ (.cons_cons _ (.cons_cons _ (.cons_cons _ .slnil)))))) (.refl _) ?_
          exact hJ3 _ _ _ _ _ ⟨false, rfl, rfl, rfl, (Imm.le_trans (Imm.le_trans (Imm.le_trans (Imm.le_trans (Imm.le_trans (Imm.le_trans (Imm.le_trans hi14 hi15) hi16) hi17) hi18) hi19) hi20) hi21), HK3⟩
        ·have hc := (beq_eq_false_iff_ne.1 hb)
         rw [hb]
         rw [if_neg hc] at H; clear hb
         refine RL.simK (K' := [(4, .bool false)]) [] (RFacts.nil _ _ _) 28 [.no, .no, .no, .no, .no, .no, .no, .no, .no, .no, .no, .no, .no, .no, .no, .no, .no, .no, .no, .no, .no, .no, .no, .no, .no, .no, .no, .no] (by kernel_rfl) (by kernel_rfl) ?_
         refine RL.nil (by kernel_rfl) ?_
         obtain rfl := Option.some.inj H
         refine QN.sub (K' := [(4, .bool false)]) (L' := [⟨nx0, [.slice Ap0_0 a0.f0.length cp0_0, .int .u8 a0.f1, .int .i64 a0.f2.f0, .int .i64 a0.f2.f1], 26⟩, ⟨nx0 + 1, [.int .i64 a1.f0.f0, .int .i64 a1.f0.f1, .int .i64 a1.f0.f2, .int .i64 a1.f0.f3, .int .u32 a1.f0.f4, .int .i64 a1.f0.f5.f0, .string a1.f0.f5.f1, .slice Ap1_0_5_2 a1.f0.f5.f2.length cp1_0_5_2, .int .i64 a1.f1, .int .i64 a1.f2], 34⟩, ⟨c1, [.int .i64 a1.f0.f0, .int .i64 a1.f0.f1, .int .i64 a1.f0.f2, .int .i64 a1.f0.f3, .int .u32 a1.f0.f4, .int .i64 a1.f0.f5.f0, .string a1.f0.f5.f1, .slice Ap1_0_5_2 a1.f0.f5.f2.length cp1_0_5_2], 32⟩, ⟨nx3, [.int .i64 t2.2.2.f0, .int .i64 t2.2.2.f1], 24⟩, ⟨nx10, [.int .i64 t7.1.f0, .string t7.1.f1, .slice A3 t7.1.f2.length c4], 30⟩, ⟨nx11, [.int .i64 t8.1.f0, .string t8.1.f1, .slice A4 t8.1.f2.length c5], 30⟩]) (by kernel_rfl) (.cons_cons _ (.cons_cons _ (.cons_cons _ (.cons_cons _ (.cons_cons _ (.cons_cons _ .slnil)))))) (.refl _) ?_
         exact hJ3 _ _ _ _ _ ⟨false, rfl, rfl, rfl, (Imm.le_trans (Imm.le_trans (Imm.le_trans (Imm.le_trans (Imm.le_trans (Imm.le_trans (Imm.le_trans hi14 hi15) hi16) hi17) hi18) hi19) hi20) hi21), HK3⟩
       ·have hc := (beq_eq_false_iff_ne.1 hb)
        rw [hb]
        rw [if_neg hc] at H; clear hb
        refine RL.simK (K' := [(4, .bool false)]) [] (RFacts.nil _ _ _) 33 (.no :: .no :: .no :: .no :: .no :: .no :: .no :: .no :: .no :: .no :: .no :: .no :: .no :: .no :: .no :: .no :: .no :: .no :: .no :: .no :: .no :: .no :: .no :: .no :: .no :: .no :: .no :: .no :: .no :: .no :: .no :: .no :: .no :: []) (by kernel_rfl) (by kernel_rfl) ?_
        refine RL.nil (by kernel_rfl) ?_
        obtain rfl := Option.some.inj H
        refine QN.sub (K' := [(4, .bool false)]) (L' := [⟨nx0, [.slice Ap0_0 a0.f0.length cp0_0, .int .u8 a0.f1, .int .i64 a0.f2.f0, .int .i64 a0.f2.f1], 26⟩, ⟨nx0 + 1, [.int .i64 a1.f0.f0, .int .i64 a1.f0.f1, .int .i64 a1.f0.f2, .int .i64 a1.f0.f3, .int .u32 a1.f0.f4, .int .i64 a1.f0.f5.f0, .string a1.f0.f5.f1, .slice Ap1_0_5_2 a1.f0.f5.f2.length cp1_0_5_2, .int .i64 a1.f1, .int .i64 a1.f2], 34⟩, ⟨c1, [.int .i64 a1.f0.f0, .int .i64 a1.f0.f1, .int .i64 a1.f0.f2, .int .i64 a1.f0.f3, .int .u32 a1.f0.f4, .int .i64 a1.f0.f5.f0, .string a1.f0.f5.f1, .slice Ap1_0_5_2 a1.f0.f5.f2.length cp1_0_5_2], 32⟩, ⟨nx3, [.int .i64 t2.2.2.f0, .int .i64 t2.2.2.f1], 24⟩, ⟨nx10, [.int .i64 t7.1.f0, .string t7.1.f1, .slice A3 t7.1.f2.length c4], 30⟩, ⟨nx11, [.int .i64 t8.1.f0, .string t8.1.f1, .slice A4 t8.1.f2.length c5], 30⟩]) (by kernel_rfl) (.cons_cons _ (.cons_cons _ (.cons_cons _ (.cons_cons _ (.cons_cons _ (.cons_cons _ .slnil)))))) (.refl _) ?_
        exact hJ3 _ _ _ _ _ ⟨false, rfl, rfl, rfl, (Imm.le_trans (Imm.le_trans (Imm.le_trans (Imm.le_trans (Imm.le_trans (Imm.le_trans (Imm.le_trans hi14 hi15) hi16) hi17) hi18) hi19) hi20) hi21), HK3⟩
      ·have hc := (beq_eq_false_iff_ne.1 hb)
       rw [hb]
       rw [if_neg hc] at H; clear hb
       refine RL.simK (K' := [(4, .bool false)]) [] (RFacts.nil _ _ _) 42 (.no :: .no :: .no :: .no :: .no :: .no :: .no :: .no :: .no :: .no :: .no :: .no :: .no :: .no :: .no :: .no :: .no :: .no :: .no :: .no :: .no :: .no :: .no :: .no :: .no :: .no :: .no :: .no :: .no :: .no :: .no :: .no :: .no :: .no :: .no :: .no :: .no :: .no :: .no :: .no :: .no :: .no :: []) (by kernel_rfl) (by kernel_rfl) ?_
       refine RL.nil (by kernel_rfl) ?_
       obtain rfl := Option.some.inj H
       refine QN.sub (K' := [(4, .bool false)]) (L' := [⟨nx0, [.slice Ap0_0 a0.f0.length cp0_0, .int .u8 a0.f1, .int .i64 a0.f2.f0, .int .i64 a0.f2.f1], 26⟩, ⟨nx0 + 1, [.int .i64 a1.f0.f0, .int .i64 a1.f0.f1, .int .i64 a1.f0.f2, .int .i64 a1.f0.f3, .int .u32 a1.f0.f4, .int .i64 a1.f0.f5.f0, .string a1.f0.f5.f1, .slice Ap1_0_5_2 a1.f0.f5.f2.length cp1_0_5_2, .int .i64 a1.f1, .int .i64 a1.f2], 34⟩, ⟨c1, [.int .i64 a1.f0.f0, .int .i64 a1.f0.f1, .int .i64 a1.f0.f2, .int .i64 a1.f0.f3, .int .u32 a1.f0.f4, .int .i64 a1.f0.f5.f0, .string a1.f0.f5.f1, .slice Ap1_0_5_2 a1.f0.f5.f2.length cp1_0_5_2], 32⟩, ⟨nx3, [.int .i64 t2.2.2.f0, .int .i64 t2.2.2.f1], 24⟩, ⟨nx10, [.int .i64 t7.1.f0, .string t7.1.f1, .slice A3 t7.1.f2.length c4], 30⟩, ⟨nx11, [.int .i64 t8.1.f0, .string t8.1.f1, .slice A4 t8.1.f2.length c5], 30⟩]) (by kernel_rfl) (.cons_cons _ (.cons_cons _ (.cons_cons _ (.cons_cons _ (.cons_cons _ (.cons_cons _ .slnil)))))) (.refl _) ?_
       exact hJ3 _ _ _ _ _ ⟨false, rfl, rfl, rfl, (Imm.le_trans (Imm.le_trans (Imm.le_trans (Imm.le_trans (Imm.le_trans hi14 hi15) hi16) hi17) hi18) hi19), HK3⟩
     ·have hc := (beq_eq_false_iff_ne.1 hb)
      rw [hb]
      rw [if_neg hc] at H; clear hb
      refine RL.simK (K' := [(4, .bool false)]) [] (RFacts.nil _ _ _) 51 (.no :: .no :: .no :: .no :: .no :: .no :: .no :: .no :: .no :: .no :: .no :: .no :: .no :: .no :: .no :: .no :: .no :: .no :: .no :: .no :: .no :: .no :: .no :: .no :: .no :: .no :: .no :: .no :: .no :: .no :: .no :: .no :: .no :: .no :: .no :: .no :: .no :: .no :: .no :: .no :: .no :: .no :: .no :: .no :: .no :: .no :: .no :: .no :: .no :: .no :: .no :: []) (by kernel_rfl) (by kernel_rfl) ?_
      refine RL.nil (by kernel_rfl) ?_
      obtain rfl := Option.some.inj H
      refine QN.sub (K' := [(4, .bool false)]) (L' := [⟨nx0, [.slice Ap0_0 a0.f0.length cp0_0, .int .u8 a0.f1, .int .i64 a0.f2.f0, .int .i64 a0.f2.f1], 26⟩, ⟨nx0 + 1, [.int .i64 a1.f0.f0, .int .i64 a1.f0.f1, .int .i64 a1.f0.f2, .int .i64 a1.f0.f3, .int .u32 a1.f0.f4, .int .i64 a1.f0.f5.f0, .string a1.f0.f5.f1, .slice Ap1_0_5_2 a1.f0.f5.f2.length cp1_0_5_2, .int .i64 a1.f1, .int .i64 a1.f2], 34⟩, ⟨c1, [.int .i64 a1.f0.f0, .int .i64 a1.f0.f1, .int .i64 a1.f0.f2, .int .i64 a1.f0.f3, .int .u32 a1.f0.f4, .int .i64 a1.f0.f5.f0, .string a1.f0.f5.f1, .slice Ap1_0_5_2 a1.f0.f5.f2.length cp1_0_5_2], 32⟩, ⟨nx3, [.int .i64 t2.2.2.f0, .int .i64 t2.2.2.f1], 24⟩, ⟨nx10, [.int .i64 t7.1.f0, .string t7.1.f1, .slice A3 t7.1.f2.length c4], 30⟩, ⟨nx11, [.int .i64 t8.1.f0, .string t8.1.f1, .slice A4 t8.1.f2.length c5], 30⟩]) (by kernel_rfl) (.cons_cons _ (.cons_cons _ (.cons_cons _ (.cons_cons _ (.cons_cons _ (.cons_cons _ .slnil)))))) (.refl _) ?_
      exact hJ3 _ _ _ _ _ ⟨false, rfl, rfl, rfl, (Imm.le_trans (Imm.le_trans (Imm.le_trans hi14 hi15) hi16) hi17), HK3⟩
    ·have hc := (beq_eq_false_iff_ne.1 hb)
     rw [hb]
     rw [if_neg hc] at H; clear hb
     refine RL.simK (K' := [(4, .bool false)]) [] (RFacts.nil _ _ _) 58 (.no :: .no :: .no :: .no :: .no :: .no :: .no :: .no :: .no :: .no :: .no :: .no :: .no :: .no :: .no :: .no :: .no :: .no :: .no :: .no :: .no :: .no :: .no :: .no :: .no :: .no :: .no :: .no :: .no :: .no :: .no :: .no :: .no :: .no :: .no :: .no :: .no :: .no :: .no :: .no :: .no :: .no :: .no :: .no :: .no :: .no :: .no :: .no :: .no :: .no :: .no :: .no :: .no :: .no :: .no :: .no :: .no :: .no :: []) (by kernel_rfl) (by kernel_rfl) ?_
     refine RL.nil (by kernel_rfl) ?_
     obtain rfl := Option.some.inj H
     refine QN.sub (K' := [(4, .bool false)]) (L' := [⟨nx0, [.slice Ap0_0 a0.f0.length cp0_0, .int .u8 a0.f1, .int .i64 a0.f2.f0, .int .i64 a0.f2.f1], 26⟩, ⟨nx0 + 1, [.int .i64 a1.f0.f0, .int .i64 a1.f0.f1, .int .i64 a1.f0.f2, .int .i64 a1.f0.f3, .int .u32 a1.f0.f4, .int .i64 a1.f0.f5.f0, .string a1.f0.f5.f1, .slice Ap1_0_5_2 a1.f0.f5.f2.length cp1_0_5_2, .int .i64 a1.f1, .int .i64 a1.f2], 34⟩, ⟨c1, [.int .i64 a1.f0.f0, .int .i64 a1.f0.f1, .int .i64 a1.f0.f2, .int .i64 a1.f0.f3, .int .u32 a1.f0.f4, .int .i64 a1.f0.f5.f0, .string a1.f0.f5.f1, .slice Ap1_0_5_2 a1.f0.f5.f2.length cp1_0_5_2], 32⟩, ⟨nx3, [.int .i64 t2.2.2.f0, .int .i64 t2.2.2.f1], 24⟩, ⟨nx10, [.int .i64 t7.1.f0, .string t7.1.f1, .slice A3 t7.1.f2.length c4], 30⟩, ⟨nx11, [.int .i64 t8.1.f0, .string t8.1.f1, .slice A4 t8.1.f2.length c5], 30⟩]) (by kernel_rfl) (.cons_cons _ (.cons_cons _ (.cons_cons _ (.cons_cons _ (.cons_cons _ (.cons_cons _ .slnil)))))) (.refl _) ?_
     exact hJ3 _ _ _ _ _ ⟨false, rfl, rfl, rfl, (Imm.le_trans hi14 hi15), HK3⟩
  ·intro Q_2 hJ2 hQ2
   obtain ⟨y2, H, HK2⟩ := Option.bind_eq_some_iff.mp H
   refine OK.cond (.tmp 48) K3_17 K3_32 x1 (by kernel_rfl) (by kernel_rfl) (by kernel_rfl) (fun hb => ?_) (fun hb => ?_)
   ·skip
    have hc := hb
    rw [if_pos hc] at H
    clear hb
    refine OK.seq K3_18 K3_27 (by kernel_rfl) ?_
    refine OK.seq K3_19 K3_21 (by kernel_rfl) ?_
    refine OK.join (fun K' I' _ L' X' => ∃ (x4 : Bool), K' = [(5, .bool t1), (6, .pointer (some ⟨c1, 0, none⟩)), (7, .int .i64 a1.f1), (8, .int .i64 a1.f2), (9, .slice A1 t2.1.length c2), (10, .int .i64 t2.2.1), (11, .pointer (some ⟨nx3, 0, none⟩)), (64, .bool x4)] ∧ L' = [⟨nx0, [.slice Ap0_0 a0.f0.length cp0_0, .int .u8 a0.f1, .int .i64 a0.f2.f0, .int .i64 a0.f2.f1], 26⟩, ⟨nx0 + 1, [.int .i64 a1.f0.f0, .int .i64 a1.f0.f1, .int .i64 a1.f0.f2, .int .i64 a1.f0.f3, .int .u32 a1.f0.f4, .int .i64 a1.f0.f5.f0, .string a1.f0.f5.f1, .slice Ap1_0_5_2 a1.f0.f5.f2.length cp1_0_5_2, .int .i64 a1.f1, .int .i64 a1.f2], 34⟩, ⟨c1, [.int .i64 a1.f0.f0, .int .i64 a1.f0.f1, .int .i64 a1.f0.f2, .int .i64 a1.f0.f3, .int .u32 a1.f0.f4, .int .i64 a1.f0.f5.f0, .string a1.f0.f5.f1, .slice Ap1_0_5_2 a1.f0.f5.f2.length cp1_0_5_2], 32⟩, ⟨nx3, [.int .i64 t2.2.2.f0, .int .i64 t2.2.2.f1], 24⟩] ∧ X' = [orow 32 8 A1 t2.1.length c2 cs1] ∧ Imm.le I4 I' ∧ armillarylaw29_QuorumMatchesReference.k3 a1 t2 x4 = some y2) ?_ ?_
    ·rintro _ I23 nx22 _ _ ⟨x4, rfl, rfl, rfl, hi23, H⟩
     replace H : (if x4 = true then (some (Sum.inr false)) else (if ([a1.f0].length + t2.1.length) * 88 ≤ 140737488355328 then (if (([a1.f0] ++ t2.1).length + [a1.f0].length) * 88 ≤ 140737488355328 then (some (Sum.inl (([a1.f0] ++ t2.1) ++ [a1.f0]))) else none) else none)) = some y2 := H
     refine QN.then_ ?_
     refine OK.cond (.tmp 64) K3_22 K3_26 x4 (by kernel_rfl) (by kernel_rfl) (by kernel_rfl) (fun hb => ?_) (fun hb => ?_)
     ·skip
      have hc := hb
      rw [if_pos hc] at H
      clear hb
      refine OK.seq K3_23 K3_25 (by kernel_rfl) ?_
      refine OK.region 6 O3_23 (by kernel_rfl) ?_
      refine RL.simK (K' := [(4, .bool false)]) [] (RFacts.nil _ _ _) 1 [.no] (by kernel_rfl) (by kernel_rfl) ?_
      refine RL.nil (by kernel_rfl) ?_
      refine QN.then_ ?_
      refine OK.ret (by kernel_rfl) ?_
      refine QN.thenR ?_
      refine QN.outR hQ2 ?_
      refine QN.thenR ?_
      obtain rfl := Option.some.inj H
      replace H : some false = some r := HK2
      obtain rfl := Option.some.inj H
      refine QN.body rfl [] (RFacts.nil _ _ _) (.no) (.bool false) (by kernel_rfl) (by kernel_rfl) (by kernel_rfl) ?_ _ (.inr rfl)
      exact fun w' hs' => ⟨_, rfl, I23, rfl, hs'.got _ (.cons _ .slnil)⟩
     ·skip
      have hc := (Bool.eq_false_iff.1 hb)
      rw [if_neg hc] at H
      clear hb
      refine OK.skip (by kernel_rfl) ?_
      refine QN.then_ ?_
      refine OK.seq K3_28 K3_30 (by kernel_rfl) ?_
      refine OK.region 7 O3_28 (by kernel_rfl) ?_
      refine RL.simP (K' := [(67, .slice A1 t2.1.length c2), (66, .slice (some ⟨nx22, 0, none⟩) 1 1), (5, .bool t1), (6, .pointer (some ⟨c1, 0, none⟩)), (7, .int .i64 a1.f1), (8, .int .i64 a1.f2), (9, .slice A1 t2.1.length c2), (10, .int .i64 t2.2.1), (11, .pointer (some ⟨nx3, 0, none⟩))]) (nx' := nx22 + 1) (L' := [⟨nx0, [.slice Ap0_0 a0.f0.length cp0_0, .int .u8 a0.f1, .int .i64 a0.f2.f0, .int .i64 a0.f2.f1], 26⟩, ⟨nx0 + 1, [.int .i64 a1.f0.f0, .int .i64 a1.f0.f1, .int .i64 a1.f0.f2, .int .i64 a1.f0.f3, .int .u32 a1.f0.f4, .int .i64 a1.f0.f5.f0, .string a1.f0.f5.f1, .slice Ap1_0_5_2 a1.f0.f5.f2.length cp1_0_5_2, .int .i64 a1.f1, .int .i64 a1.f2], 34⟩, ⟨c1, [.int .i64 a1.f0.f0, .int .i64 a1.f0.f1, .int .i64 a1.f0.f2, .int .i64 a1.f0.f3, .int .u32 a1.f0.f4, .int .i64 a1.f0.f5.f0, .string a1.f0.f5.f1, .slice Ap1_0_5_2 a1.f0.f5.f2.length cp1_0_5_2], 32⟩, ⟨nx3, [.int .i64 t2.2.2.f0, .int .i64 t2.2.2.f1], 24⟩, ⟨nx22, [.int .i64 a1.f0.f0, .int .i64 a1.f0.f1, .int .i64 a1.f0.f2, .int .i64 a1.f0.f3, .int .u32 a1.f0.f4, .int .i64 a1.f0.f5.f0, .string a1.f0.f5.f1, .slice Ap1_0_5_2 a1.f0.f5.f2.length cp1_0_5_2], 32⟩]) [] (RFacts.nil _ _ _) 3 [.l 2, .no, .no] (by kernel_rfl) (by kernel_rfl) ?_
      refine RL.freeze (e := 32) (sz := 8) (S := A1) (n := t2.1.length) (cap := c2) 0 (by kernel_rfl) (Reps.ext (Imm.le_trans hi4 hi23) hp1) rfl (fun _ h => h.elim) (fun I24 hi24 hl4 hr4 => ?_)
      skip
      refine RL.toRow (b := ⟨nx22, [.int .i64 a1.f0.f0, .int .i64 a1.f0.f1, .int .i64 a1.f0.f2, .int .i64 a1.f0.f3, .int .u32 a1.f0.f4, .int .i64 a1.f0.f5.f0, .string a1.f0.f5.f1, .slice Ap1_0_5_2 a1.f0.f5.f2.length cp1_0_5_2], 32⟩) 4 1 8 (by kernel_rfl) (by kernel_rfl) (by decide) ?_
      have hp3 : Reps t32 I24 [a1.f0] [.int .i64 a1.f0.f0, .int .i64 a1.f0.f1, .int .i64 a1.f0.f2, .int .i64 a1.f0.f3, .int .u32 a1.f0.f4, .int .i64 a1.f0.f5.f0, .string a1.f0.f5.f1, .slice Ap1_0_5_2 a1.f0.f5.f2.length cp1_0_5_2] := ⟨_, _, rfl, (t32_mk _ _ hlp1_0_5_2 (Rd.ext (Imm.le_trans (Imm.le_trans (Imm.le_trans (Imm.le_trans (Imm.le_trans hi1 hi2) hi3) hi4) hi23) hi24) hrp1_0_5_2)), rfl⟩
      refine RL.norm (L' := [⟨nx0, [.slice Ap0_0 a0.f0.length cp0_0, .int .u8 a0.f1, .int .i64 a0.f2.f0, .int .i64 a0.f2.f1], 26⟩, ⟨nx0 + 1, [.int .i64 a1.f0.f0, .int .i64 a1.f0.f1, .int .i64 a1.f0.f2, .int .i64 a1.f0.f3, .int .u32 a1.f0.f4, .int .i64 a1.f0.f5.f0, .string a1.f0.f5.f1, .slice Ap1_0_5_2 a1.f0.f5.f2.length cp1_0_5_2, .int .i64 a1.f1, .int .i64 a1.f2], 34⟩, ⟨c1, [.int .i64 a1.f0.f0, .int .i64 a1.f0.f1, .int .i64 a1.f0.f2, .int .i64 a1.f0.f3, .int .u32 a1.f0.f4, .int .i64 a1.f0.f5.f0, .string a1.f0.f5.f1, .slice Ap1_0_5_2 a1.f0.f5.f2.length cp1_0_5_2], 32⟩, ⟨nx3, [.int .i64 t2.2.2.f0, .int .i64 t2.2.2.f1], 24⟩]) (X' := [orow 32 8 (some ⟨nx22, 0, none⟩) ([a1.f0].length) 1 [.int .i64 a1.f0.f0, .int .i64 a1.f0.f1, .int .i64 a1.f0.f2, .int .i64 a1.f0.f3, .int .u32 a1.f0.f4, .int .i64 a1.f0.f5.f0, .string a1.f0.f5.f1, .slice Ap1_0_5_2 a1.f0.f5.f2.length cp1_0_5_2]]) rfl rfl (by kernel_rfl) (by kernel_rfl) ?_
      by_cases hz1 : ([a1.f0].length + t2.1.length) * 88 ≤ 140737488355328
      case neg => rw [if_neg hz1] at H; cases H
      rw [if_pos hz1] at H
      refine RL.appendR (T := 22) (e := 32) (S := (some ⟨nx22, 0, none⟩)) (S2 := A1) 8 88 22 1 c2 [.int .i64 a1.f0.f0, .int .i64 a1.f0.f1, .int .i64 a1.f0.f2, .int .i64 a1.f0.f3, .int .u32 a1.f0.f4, .int .i64 a1.f0.f5.f0, .string a1.f0.f5.f1, .slice Ap1_0_5_2 a1.f0.f5.f2.length cp1_0_5_2] t32 [a1.f0] t2.1 0 (some 68) (by kernel_rfl) (by kernel_rfl) (by kernel_rfl) (by kernel_rfl) (by kernel_rfl) (by decide) (by kernel_rfl) hp3 hr4 hz1 (by omega) (fun A5 c6 nx23 cs3 hp4 => ?_)
      refine RL.sub (K' := [(68, .slice A5 (([a1.f0] ++ t2.1).length) c6), (67, .slice A1 t2.1.length c2), (66, .slice (some ⟨nx22, 0, none⟩) 1 1), (5, .bool t1), (6, .pointer (some ⟨c1, 0, none⟩)), (7, .int .i64 a1.f1), (8, .int .i64 a1.f2), (9, .slice A1 t2.1.length c2), (10, .int .i64 t2.2.1), (11, .pointer (some ⟨nx3, 0, none⟩))]) (L' := [⟨nx0, [.slice Ap0_0 a0.f0.length cp0_0, .int .u8 a0.f1, .int .i64 a0.f2.f0, .int .i64 a0.f2.f1], 26⟩, ⟨nx0 + 1, [.int .i64 a1.f0.f0, .int .i64 a1.f0.f1, .int .i64 a1.f0.f2, .int .i64 a1.f0.f3, .int .u32 a1.f0.f4, .int .i64 a1.f0.f5.f0, .string a1.f0.f5.f1, .slice Ap1_0_5_2 a1.f0.f5.f2.length cp1_0_5_2, .int .i64 a1.f1, .int .i64 a1.f2], 34⟩, ⟨c1, [.int .i64 a1.f0.f0, .int .i64 a1.f0.f1, .int .i64 a1.f0.f2, .int .i64 a1.f0.f3, .int .u32 a1.f0.f4, .int .i64 a1.f0.f5.f0, .string a1.f0.f5.f1, .slice Ap1_0_5_2 a1.f0.f5.f2.length cp1_0_5_2], 32⟩, ⟨nx3, [.int .i64 t2.2.2.f0, .int .i64 t2.2.2.f1], 24⟩]) (X' := [orow 32 8 A5 (([a1.f0] ++ t2.1).length) c6 cs3]) (by kernel_rfl) (.refl _) (.refl _) ?_
      refine RL.simK (K' := [(9, .slice A5 (([a1.f0] ++ t2.1).length) c6), (5, .bool t1), (6, .pointer (some ⟨c1, 0, none⟩)), (7, .int .i64 a1.f1), (8, .int .i64 a1.f2), (10, .int .i64 t2.2.1), (11, .pointer (some ⟨nx3, 0, none⟩))]) [] (RFacts.nil _ _ _) 1 [.no] (by kernel_rfl) (by kernel_rfl) ?_
      refine RL.nil (by kernel_rfl) ?_
      refine QN.then_ ?_
      refine OK.region 8 O3_30 (by kernel_rfl) ?_
      refine RL.simP (K' := [(71, .slice (some ⟨nx23, 0, none⟩) 1 1), (69, .slice A5 (([a1.f0] ++ t2.1).length) c6), (9, .slice A5 (([a1.f0] ++ t2.1).length) c6), (5, .bool t1), (7, .int .i64 a1.f1), (8, .int .i64 a1.f2), (10, .int .i64 t2.2.1), (11, .pointer (some ⟨nx3, 0, none⟩))]) (nx' := nx23 + 1) (L' := [⟨nx0, [.slice Ap0_0 a0.f0.length cp0_0, .int .u8 a0.f1, .int .i64 a0.f2.f0, .int .i64 a0.f2.f1], 26⟩, ⟨nx0 + 1, [.int .i64 a1.f0.f0, .int .i64 a1.f0.f1, .int .i64 a1.f0.f2, .int .i64 a1.f0.f3, .int .u32 a1.f0.f4, .int .i64 a1.f0.f5.f0, .string a1.f0.f5.f1, .slice Ap1_0_5_2 a1.f0.f5.f2.length cp1_0_5_2, .int .i64 a1.f1, .int .i64 a1.f2], 34⟩, ⟨c1, [.int .i64 a1.f0.f0, .int .i64 a1.f0.f1, .int .i64 a1.f0.f2, .int .i64 a1.f0.f3, .int .u32 a1.f0.f4, .int .i64 a1.f0.f5.f0, .string a1.f0.f5.f1, .slice Ap1_0_5_2 a1.f0.f5.f2.length cp1_0_5_2], 32⟩, ⟨nx3, [.int .i64 t2.2.2.f0, .int .i64 t2.2.2.f1], 24⟩, ⟨nx23, [.int .i64 a1.f0.f0, .int .i64 a1.f0.f1, .int .i64 a1.f0.f2, .int .i64 a1.f0.f3, .int .u32 a1.f0.f4, .int .i64 a1.f0.f5.f0, .string a1.f0.f5.f1, .slice Ap1_0_5_2 a1.f0.f5.f2.length cp1_0_5_2], 32⟩]) [] (RFacts.nil _ _ _) 3 [.no, .l 2, .no] (by kernel_rfl) (by kernel_rfl) ?_
      by_cases hz2 : (([a1.f0] ++ t2.1).length + [a1.f0].length) * 88 ≤ 140737488355328
      case neg => rw [if_neg hz2] at H; cases H
      rw [if_pos hz2] at H
      refine RL.appendB (T := 22) (e := 32) (S := A5) 8 88 22 c6 4 1 nx23 32 cs3 [.int .i64 a1.f0.f0, .int .i64 a1.f0.f1, .int .i64 a1.f0.f2, .int .i64 a1.f0.f3, .int .u32 a1.f0.f4, .int .i64 a1.f0.f5.f0, .string a1.f0.f5.f1, .slice Ap1_0_5_2 a1.f0.f5.f2.length cp1_0_5_2] t32 ([a1.f0] ++ t2.1) [a1.f0] 0 (some 72) (by kernel_rfl) (by kernel_rfl) (by kernel_rfl) (by kernel_rfl) (by kernel_rfl) (by decide) (by kernel_rfl) hp4 (by kernel_rfl) ⟨_, _, rfl, (t32_mk _ _ hlp1_0_5_2 (Rd.ext (Imm.le_trans (Imm.le_trans (Imm.le_trans (Imm.le_trans (Imm.le_trans hi1 hi2) hi3) hi4) hi23) hi24) hrp1_0_5_2)), rfl⟩ hz2 (by omega) (fun A6 c7 nx24 cs4 hp5 => ?_)
      refine RL.sub (K' := [(72, .slice A6 ((([a1.f0] ++ t2.1) ++ [a1.f0]).length) c7), (71, .slice (some ⟨nx23, 0, none⟩) 1 1), (5, .bool t1), (7, .int .i64 a1.f1), (8, .int .i64 a1.f2), (10, .int .i64 t2.2.1), (11, .pointer (some ⟨nx3, 0, none⟩))]) (L' := [⟨nx0, [.slice Ap0_0 a0.f0.length cp0_0, .int .u8 a0.f1, .int .i64 a0.f2.f0, .int .i64 a0.f2.f1], 26⟩, ⟨nx0 + 1, [.int .i64 a1.f0.f0, .int .i64 a1.f0.f1, .int .i64 a1.f0.f2, .int .i64 a1.f0.f3, .int .u32 a1.f0.f4, .int .i64 a1.f0.f5.f0, .string a1.f0.f5.f1, .slice Ap1_0_5_2 a1.f0.f5.f2.length cp1_0_5_2, .int .i64 a1.f1, .int .i64 a1.f2], 34⟩, ⟨c1, [.int .i64 a1.f0.f0, .int .i64 a1.f0.f1, .int .i64 a1.f0.f2, .int .i64 a1.f0.f3, .int .u32 a1.f0.f4, .int .i64 a1.f0.f5.f0, .string a1.f0.f5.f1, .slice Ap1_0_5_2 a1.f0.f5.f2.length cp1_0_5_2], 32⟩, ⟨nx3, [.int .i64 t2.2.2.f0, .int .i64 t2.2.2.f1], 24⟩, ⟨nx23, [.int .i64 a1.f0.f0, .int .i64 a1.f0.f1, .int .i64 a1.f0.f2, .int .i64 a1.f0.f3, .int .u32 a1.f0.f4, .int .i64 a1.f0.f5.f0, .string a1.f0.f5.f1, .slice Ap1_0_5_2 a1.f0.f5.f2.length cp1_0_5_2], 32⟩]) (X' := [orow 32 8 A6 ((([a1.f0] ++ t2.1) ++ [a1.f0]).length) c7 cs4]) (by kernel_rfl) (.refl _) (.refl _) ?_
      refine RL.simK (K' := [(9, .slice A6 ((([a1.f0] ++ t2.1) ++ [a1.f0]).length) c7), (5, .bool t1), (7, .int .i64 a1.f1), (8, .int .i64 a1.f2), (10, .int .i64 t2.2.1), (11, .pointer (some ⟨nx3, 0, none⟩))]) [] (RFacts.nil _ _ _) 1 [.no] (by kernel_rfl) (by kernel_rfl) ?_
      refine RL.nil (by kernel_rfl) ?_
      obtain rfl := Option.some.inj H
      refine QN.sub (K' := [(5, .bool t1), (7, .int .i64 a1.f1), (8, .int .i64 a1.f2), (9, .slice A6 ((([a1.f0] ++ t2.1) ++ [a1.f0]).length) c7), (10, .int .i64 t2.2.1), (11, .pointer (some ⟨nx3, 0, none⟩))]) (L' := [⟨nx0, [.slice Ap0_0 a0.f0.length cp0_0, .int .u8 a0.f1, .int .i64 a0.f2.f0, .int .i64 a0.f2.f1], 26⟩, ⟨nx0 + 1, [.int .i64 a1.f0.f0, .int .i64 a1.f0.f1, .int .i64 a1.f0.f2, .int .i64 a1.f0.f3, .int .u32 a1.f0.f4, .int .i64 a1.f0.f5.f0, .string a1.f0.f5.f1, .slice Ap1_0_5_2 a1.f0.f5.f2.length cp1_0_5_2, .int .i64 a1.f1, .int .i64 a1.f2], 34⟩, ⟨c1, [.int .i64 a1.f0.f0, .int .i64 a1.f0.f1, .int .i64 a1.f0.f2, .int .i64 a1.f0.f3, .int .u32 a1.f0.f4, .int .i64 a1.f0.f5.f0, .string a1.f0.f5.f1, .slice Ap1_0_5_2 a1.f0.f5.f2.length cp1_0_5_2], 32⟩, ⟨nx3, [.int .i64 t2.2.2.f0, .int .i64 t2.2.2.f1], 24⟩]) (by kernel_rfl) (.cons_cons _ (.cons_cons _ (.cons_cons _ (.cons_cons _ (.cons _ .slnil))))) (.refl _) ?_
      exact hJ2 _ _ _ _ _ ⟨(([a1.f0] ++ t2.1) ++ [a1.f0]), A6, c7, cs4, rfl, rfl, rfl, (Imm.le_trans hi23 hi24), hp5, HK2⟩
    ·intro Q_3 hJ4 hQ4
     obtain ⟨y4, H, HK4⟩ := Option.bind_eq_some_iff.mp H
     obtain ⟨t18, hA18, H⟩ := Option.bind_eq_some_iff.mp H
     obtain ⟨t19, hA19, H⟩ := Option.bind_eq_some_iff.mp H
     refine OK.cases (t18 == t19) (fun hb1 => ?_) (fun hb1 => ?_)
     ·have hc1 := hb1
      rw [if_pos hc1] at H
      obtain ⟨t20, hA20, H⟩ := Option.bind_eq_some_iff.mp H
      refine OK.drawnC 5 13 O3_19 a3_19n (by kernel_rfl) (by kernel_rfl) (u3d2l t18 t19 t20) u3d2g [] (RI.nil _) [.l 2, .no, .no, .l 2, .no, .no, .no, .no, .l 2, .no, .no, .l 2, .no] a3_19 a3_19o (by kernel_rfl) (by kernel_rfl) (u3d2s a1 Ap1_0_5_2 cp1_0_5_2 t2 t18 t19 t20) (u3d2f a1 Ap1_0_5_2 cp1_0_5_2 t1 c1 t2 A1 c2 nx3 x1 t18 t19 t20 13) (u3d2v a0 Ap0_0 cp0_0 a1 Ap1_0_5_2 cp1_0_5_2 nx0 t1 c1 t2 A1 c2 nx3 x1 t18 t19 t20) (u3d2e a0 Ap0_0 cp0_0 a1 Ap1_0_5_2 cp1_0_5_2 nx0 t1 c1 t2 A1 c2 nx3 x1 t18 t19 t20) [u3d2f a1 Ap1_0_5_2 cp1_0_5_2 t1 c1 t2 A1 c2 nx3 x1 t18 t19 t20 2, u3d2f a1 Ap1_0_5_2 cp1_0_5_2 t1 c1 t2 A1 c2 nx3 x1 t18 t19 t20 5, u3d2f a1 Ap1_0_5_2 cp1_0_5_2 t1 c1 t2 A1 c2 nx3 x1 t18 t19 t20 10] (framesOk.cons (fun u => rfl) (framesOk.cons (fun u => rfl) (framesOk.cons (fun u => rfl) framesOk.nil))) ?_ [u3d2f a1 Ap1_0_5_2 cp1_0_5_2 t1 c1 t2 A1 c2 nx3 x1 t18 t19 t20 7] (framesOk.cons (fun u => rfl) framesOk.nil) ?_ ?_
      ·refine LoudsG.cons ?_ (LoudsG.cons ?_ (LoudsG.cons ?_ (LoudsG.nil)))
       ·intro D u J w hp hJ hs hF
        refine Does.call 12 [.agg #[.int .i64 a1.f0.f0, .int .i64 a1.f0.f1, .int .i64 a1.f0.f2, .int .i64 a1.f0.f3, .int .u32 a1.f0.f4, .int .i64 a1.f0.f5.f0, .string a1.f0.f5.f1, .slice Ap1_0_5_2 a1.f0.f5.f2.length cp1_0_5_2], .int .i64 a1.f1] (by kernel_rfl) ((quorum_Valid.calls k J a1.f0 Ap1_0_5_2 cp1_0_5_2 a1.f1 w hs.im hlp1_0_5_2 (Rd.ext (Imm.le_trans (Imm.le_trans (Imm.le_trans (Imm.le_trans hi1 hi2) hi3) hi4) hJ) hrp1_0_5_2) t18 hA18).mono ?_)
        rintro e w' ⟨v, rfl, J2, rfl, hg⟩
        exact ⟨_, rfl, fun _ => (none, 0, []), J2, rfl, hg, trivial⟩
       ·intro D u J w hp hJ hs hF
        refine Does.call 13 [.agg #[.int .i64 a1.f0.f0, .int .i64 a1.f0.f1, .int .i64 a1.f0.f2, .int .i64 a1.f0.f3, .int .u32 a1.f0.f4, .int .i64 a1.f0.f5.f0, .string a1.f0.f5.f1, .slice Ap1_0_5_2 a1.f0.f5.f2.length cp1_0_5_2], .int .i64 a1.f1] (by kernel_rfl) ((armillaryref29_Valid.calls k J a1.f0 Ap1_0_5_2 cp1_0_5_2 a1.f1 w hs.im hlp1_0_5_2 (Rd.ext (Imm.le_trans (Imm.le_trans (Imm.le_trans (Imm.le_trans hi1 hi2) hi3) hi4) hJ) hrp1_0_5_2) t19 hA19).mono ?_)
        rintro e w' ⟨v, rfl, J2, rfl, hg⟩
        exact ⟨_, rfl, fun _ => (none, 0, []), J2, rfl, hg, trivial⟩
       ·intro D u J w hp hJ hs hF
        refine Does.call 12 [.agg #[.int .i64 a1.f0.f0, .int .i64 a1.f0.f1, .int .i64 a1.f0.f2, .int .i64 a1.f0.f3, .int .u32 a1.f0.f4, .int .i64 a1.f0.f5.f0, .string a1.f0.f5.f1, .slice Ap1_0_5_2 a1.f0.f5.f2.length cp1_0_5_2], .int .i64 t2.2.1] (by kernel_rfl) ((quorum_Valid.calls k J a1.f0 Ap1_0_5_2 cp1_0_5_2 t2.2.1 w hs.im hlp1_0_5_2 (Rd.ext (Imm.le_trans (Imm.le_trans (Imm.le_trans (Imm.le_trans hi1 hi2) hi3) hi4) hJ) hrp1_0_5_2) t20 hA20).mono ?_)
        rintro e w' ⟨v, rfl, J2, rfl, hg⟩
        exact ⟨_, rfl, fun _ => (none, 0, []), J2, rfl, hg, trivial⟩
      ·refine Givens.cons (fun u w =>  ?_) (fun _ _ _ => rfl) (Givens.nil)
       ·exact giv_run (v := .bool (!(t18 == t19))) (by kernel_rfl) (by rw [hb1]; try rfl) w
      intro u I25 nx25 hi25 hF
      clear hF
      refine RL.norm (K' := [(61, .int .i64 t2.2.1), (60, .agg #[.int .i64 a1.f0.f0, .int .i64 a1.f0.f1, .int .i64 a1.f0.f2, .int .i64 a1.f0.f3, .int .u32 a1.f0.f4, .int .i64 a1.f0.f5.f0, .string a1.f0.f5.f1, .slice Ap1_0_5_2 a1.f0.f5.f2.length cp1_0_5_2]), (59, .bool t20), (58, .int .i64 t2.2.1), (57, .agg #[.int .i64 a1.f0.f0, .int .i64 a1.f0.f1, .int .i64 a1.f0.f2, .int .i64 a1.f0.f3, .int .u32 a1.f0.f4, .int .i64 a1.f0.f5.f0, .string a1.f0.f5.f1, .slice Ap1_0_5_2 a1.f0.f5.f2.length cp1_0_5_2]), (56, .bool false), (55, .bool (!(t18 == t19))), (54, .bool t19), (53, .int .i64 a1.f1), (52, .agg #[.int .i64 a1.f0.f0, .int .i64 a1.f0.f1, .int .i64 a1.f0.f2, .int .i64 a1.f0.f3, .int .u32 a1.f0.f4, .int .i64 a1.f0.f5.f0, .string a1.f0.f5.f1, .slice Ap1_0_5_2 a1.f0.f5.f2.length cp1_0_5_2]), (51, .bool t18), (50, .int .i64 a1.f1), (49, .agg #[.int .i64 a1.f0.f0, .int .i64 a1.f0.f1, .int .i64 a1.f0.f2, .int .i64 a1.f0.f3, .int .u32 a1.f0.f4, .int .i64 a1.f0.f5.f0, .string a1.f0.f5.f1, .slice Ap1_0_5_2 a1.f0.f5.f2.length cp1_0_5_2]), (5, .bool t1), (6, .pointer (some ⟨c1, 0, none⟩)), (7, .int .i64 a1.f1), (8, .int .i64 a1.f2), (9, .slice A1 t2.1.length c2), (10, .int .i64 t2.2.1), (11, .pointer (some ⟨nx3, 0, none⟩)), (48, .bool x1)]) (X' := [orow 32 8 A1 t2.1.length c2 cs1]) (by kernel_rfl) rfl rfl rfl ?_
      obtain ⟨t21, hA21, H⟩ := Option.bind_eq_some_iff.mp H
      refine RL.callP 13 [.agg #[.int .i64 a1.f0.f0, .int .i64 a1.f0.f1, .int .i64 a1.f0.f2, .int .i64 a1.f0.f3, .int .u32 a1.f0.f4, .int .i64 a1.f0.f5.f0, .string a1.f0.f5.f1, .slice Ap1_0_5_2 a1.f0.f5.f2.length cp1_0_5_2], .int .i64 t2.2.1] (some 62) (fun w => armillaryref29_Valid.Post I25 w t21) (by kernel_rfl) (by kernel_rfl) (fun w hs => armillaryref29_Valid.calls k I25 a1.f0 Ap1_0_5_2 cp1_0_5_2 t2.2.1 w hs.im hlp1_0_5_2 (Rd.ext (Imm.le_trans (Imm.le_trans (Imm.le_trans (Imm.le_trans hi1 hi2) hi3) hi4) hi25) hrp1_0_5_2) t21 hA21) ?_
      rintro w v w' hs ⟨I26, rfl, hg⟩
      have hi26 := hg.le
      refine RL.resume (X' := [orow 32 8 A1 t2.1.length c2 cs1]) rfl (hs.call hg) ?_
      clear hs hg
      generalize w'.heap.size = nx26
      clear w w'
      refine RL.simK (K' := [(64, .bool (!(t20 == t21))), (5, .bool t1), (6, .pointer (some ⟨c1, 0, none⟩)), (7, .int .i64 a1.f1), (8, .int .i64 a1.f2), (9, .slice A1 t2.1.length c2), (10, .int .i64 t2.2.1), (11, .pointer (some ⟨nx3, 0, none⟩))]) [] (RFacts.nil _ _ _) 2 [.no, .no] (by kernel_rfl) (by kernel_rfl) ?_
      refine RL.nil (by kernel_rfl) ?_
      obtain rfl := Option.some.inj H
      refine QN.sub (K' := [(5, .bool t1), (6, .pointer (some ⟨c1, 0, none⟩)), (7, .int .i64 a1.f1), (8, .int .i64 a1.f2), (9, .slice A1 t2.1.length c2), (10, .int .i64 t2.2.1), (11, .pointer (some ⟨nx3, 0, none⟩)), (64, .bool (!(t20 == t21)))]) (L' := [⟨nx0, [.slice Ap0_0 a0.f0.length cp0_0, .int .u8 a0.f1, .int .i64 a0.f2.f0, .int .i64 a0.f2.f1], 26⟩, ⟨nx0 + 1, [.int .i64 a1.f0.f0, .int .i64 a1.f0.f1, .int .i64 a1.f0.f2, .int .i64 a1.f0.f3, .int .u32 a1.f0.f4, .int .i64 a1.f0.f5.f0, .string a1.f0.f5.f1, .slice Ap1_0_5_2 a1.f0.f5.f2.length cp1_0_5_2, .int .i64 a1.f1, .int .i64 a1.f2], 34⟩, ⟨c1, [.int .i64 a1.f0.f0, .int .i64 a1.f0.f1, .int .i64 a1.f0.f2, .int .i64 a1.f0.f3, .int .u32 a1.f0.f4, .int .i64 a1.f0.f5.f0, .string a1.f0.f5.f1, .slice Ap1_0_5_2 a1.f0.f5.f2.length cp1_0_5_2], 32⟩, ⟨nx3, [.int .i64 t2.2.2.f0, .int .i64 t2.2.2.f1], 24⟩]) (by kernel_rfl) (.cons_cons _ (.cons_cons _ (.cons_cons _ (.cons_cons _ .slnil)))) (.refl _) ?_
      exact hJ4 _ _ _ _ _ ⟨(!(t20 == t21)), rfl, rfl, rfl, (Imm.le_trans hi25 hi26), HK4⟩
     ·have hc1 := (Bool.eq_false_iff.1 hb1)
      rw [if_neg hc1] at H
      refine OK.drawnC 5 13 O3_19 a3_19n (by kernel_rfl) (by kernel_rfl) (u3d3l t18 t19) u3d3g [] (RI.nil _) [.l 2, .no, .no, .l 2, .no, .no, .no, .no, .no, .no, .no, .no, .no] a3_19 a3_19o (by kernel_rfl) (by kernel_rfl) (u3d3s a1 Ap1_0_5_2 cp1_0_5_2 t18 t19) (u3d3f a1 Ap1_0_5_2 cp1_0_5_2 t1 c1 t2 A1 c2 nx3 x1 t18 t19 13) (u3d3v a0 Ap0_0 cp0_0 a1 Ap1_0_5_2 cp1_0_5_2 nx0 t1 c1 t2 A1 c2 nx3 x1 t18 t19) (u3d3e a0 Ap0_0 cp0_0 a1 Ap1_0_5_2 cp1_0_5_2 nx0 t1 c1 t2 A1 c2 nx3 x1 t18 t19) [u3d3f a1 Ap1_0_5_2 cp1_0_5_2 t1 c1 t2 A1 c2 nx3 x1 t18 t19 2, u3d3f a1 Ap1_0_5_2 cp1_0_5_2 t1 c1 t2 A1 c2 nx3 x1 t18 t19 5] (framesOk.cons (fun u => rfl) (framesOk.cons (fun u => rfl) framesOk.nil)) ?_ [u3d3f a1 Ap1_0_5_2 cp1_0_5_2 t1 c1 t2 A1 c2 nx3 x1 t18 t19 7] (framesOk.cons (fun u => rfl) framesOk.nil) ?_ ?_
      ·refine LoudsG.cons ?_ (LoudsG.cons ?_ (LoudsG.nil))
       ·intro D u J w hp hJ hs hF
        refine Does.call 12 [.agg #[.int .i64 a1.f0.f0, .int .i64 a1.f0.f1, .int .i64 a1.f0.f2, .int .i64 a1.f0.f3, .int .u32 a1.f0.f4, .int .i64 a1.f0.f5.f0, .string a1.f0.f5.f1, .slice Ap1_0_5_2 a1.f0.f5.f2.length cp1_0_5_2], .int .i64 a1.f1] (by kernel_rfl) ((quorum_Valid.calls k J a1.f0 Ap1_0_5_2 cp1_0_5_2 a1.f1 w hs.im hlp1_0_5_2 (Rd.ext (Imm.le_trans (Imm.le_trans (Imm.le_trans (Imm.le_trans hi1 hi2) hi3) hi4) hJ) hrp1_0_5_2) t18 hA18).mono ?_)
        rintro e w' ⟨v, rfl, J2, rfl, hg⟩
        exact ⟨_, rfl, fun _ => (none, 0, []), J2, rfl, hg, trivial⟩
       ·intro D u J w hp hJ hs hF
        refine Does.call 13 [.agg #[.int .i64 a1.f0.f0, .int .i64 a1.f0.f1, .int .i64 a1.f0.f2, .int .i64 a1.f0.f3, .int .u32 a1.f0.f4, .int .i64 a1.f0.f5.f0, .string a1.f0.f5.f1, .slice Ap1_0_5_2 a1.f0.f5.f2.length cp1_0_5_2], .int .i64 a1.f1] (by kernel_rfl) ((armillaryref29_Valid.calls k J a1.f0 Ap1_0_5_2 cp1_0_5_2 a1.f1 w hs.im hlp1_0_5_2 (Rd.ext (Imm.le_trans (Imm.le_trans (Imm.le_trans (Imm.le_trans hi1 hi2) hi3) hi4) hJ) hrp1_0_5_2) t19 hA19).mono ?_)
        rintro e w' ⟨v, rfl, J2, rfl, hg⟩
        exact ⟨_, rfl, fun _ => (none, 0, []), J2, rfl, hg, trivial⟩
      ·refine Givens.cons (fun u w =>  ?_) (fun _ _ _ => rfl) (Givens.nil)
       ·exact giv_run (v := .bool (!(t18 == t19))) (by kernel_rfl) (by rw [hb1]; try rfl) w
      intro u I27 nx27 hi27 hF
      clear hF
      refine RL.norm (K' := [(61, undef), (60, undef), (59, undef), (58, undef), (57, undef), (56, .bool true), (55, .bool (!(t18 == t19))), (54, .bool t19), (53, .int .i64 a1.f1), (52, .agg #[.int .i64 a1.f0.f0, .int .i64 a1.f0.f1, .int .i64 a1.f0.f2, .int .i64 a1.f0.f3, .int .u32 a1.f0.f4, .int .i64 a1.f0.f5.f0, .string a1.f0.f5.f1, .slice Ap1_0_5_2 a1.f0.f5.f2.length cp1_0_5_2]), (51, .bool t18), (50, .int .i64 a1.f1), (49, .agg #[.int .i64 a1.f0.f0, .int .i64 a1.f0.f1, .int .i64 a1.f0.f2, .int .i64 a1.f0.f3, .int .u32 a1.f0.f4, .int .i64 a1.f0.f5.f0, .string a1.f0.f5.f1, .slice Ap1_0_5_2 a1.f0.f5.f2.length cp1_0_5_2]), (5, .bool t1), (6, .pointer (some ⟨c1, 0, none⟩)), (7, .int .i64 a1.f1), (8, .int .i64 a1.f2), (9, .slice A1 t2.1.length c2), (10, .int .i64 t2.2.1), (11, .pointer (some ⟨nx3, 0, none⟩)), (48, .bool x1)]) (X' := [orow 32 8 A1 t2.1.length c2 cs1]) (by kernel_rfl) rfl rfl rfl ?_
      refine RL.simK (K' := [(64, .bool true), (5, .bool t1), (6, .pointer (some ⟨c1, 0, none⟩)), (7, .int .i64 a1.f1), (8, .int .i64 a1.f2), (9, .slice A1 t2.1.length c2), (10, .int .i64 t2.2.1), (11, .pointer (some ⟨nx3, 0, none⟩))]) [] (RFacts.nil _ _ _) 3 [.no, .no, .no] (by kernel_rfl) (by kernel_rfl) ?_
      refine RL.nil (by kernel_rfl) ?_
      obtain rfl := Option.some.inj H
      refine QN.sub (K' := [(5, .bool t1), (6, .pointer (some ⟨c1, 0, none⟩)), (7, .int .i64 a1.f1), (8, .int .i64 a1.f2), (9, .slice A1 t2.1.length c2), (10, .int .i64 t2.2.1), (11, .pointer (some ⟨nx3, 0, none⟩)), (64, .bool true)]) (L' := [⟨nx0, [.slice Ap0_0 a0.f0.length cp0_0, .int .u8 a0.f1, .int .i64 a0.f2.f0, .int .i64 a0.f2.f1], 26⟩, ⟨nx0 + 1, [.int .i64 a1.f0.f0, .int .i64 a1.f0.f1, .int .i64 a1.f0.f2, .int .i64 a1.f0.f3, .int .u32 a1.f0.f4, .int .i64 a1.f0.f5.f0, .string a1.f0.f5.f1, .slice Ap1_0_5_2 a1.f0.f5.f2.length cp1_0_5_2, .int .i64 a1.f1, .int .i64 a1.f2], 34⟩, ⟨c1, [.int .i64 a1.f0.f0, .int .i64 a1.f0.f1, .int .i64 a1.f0.f2, .int .i64 a1.f0.f3, .int .u32 a1.f0.f4, .int .i64 a1.f0.f5.f0, .string a1.f0.f5.f1, .slice Ap1_0_5_2 a1.f0.f5.f2.length cp1_0_5_2], 32⟩, ⟨nx3, [.int .i64 t2.2.2.f0, .int .i64 t2.2.2.f1], 24⟩]) (by kernel_rfl) (.cons_cons _ (.cons_cons _ (.cons_cons _ (.cons_cons _ .slnil)))) (.refl _) ?_
      exact hJ4 _ _ _ _ _ ⟨true, rfl, rfl, rfl, hi27, HK4⟩
   ·skip
    have hc := (Bool.eq_false_iff.1 hb)
    rw [if_neg hc] at H
    clear hb
    refine OK.skip (by kernel_rfl) ?_
    obtain rfl := Option.some.inj H
    refine QN.sub (K' := [(5, .bool t1), (7, .int .i64 a1.f1), (8, .int .i64 a1.f2), (9, .slice A1 t2.1.length c2), (10, .int .i64 t2.2.1), (11, .pointer (some ⟨nx3, 0, none⟩))]) (L' := [⟨nx0, [.slice Ap0_0 a0.f0.length cp0_0, .int .u8 a0.f1, .int .i64 a0.f2.f0, .int .i64 a0.f2.f1], 26⟩, ⟨nx0 + 1, [.int .i64 a1.f0.f0, .int .i64 a1.f0.f1, .int .i64 a1.f0.f2, .int .i64 a1.f0.f3, .int .u32 a1.f0.f4, .int .i64 a1.f0.f5.f0, .string a1.f0.f5.f1, .slice Ap1_0_5_2 a1.f0.f5.f2.length cp1_0_5_2, .int .i64 a1.f1, .int .i64 a1.f2], 34⟩, ⟨c1, [.int .i64 a1.f0.f0, .int .i64 a1.f0.f1, .int .i64 a1.f0.f2, .int .i64 a1.f0.f3, .int .u32 a1.f0.f4, .int .i64 a1.f0.f5.f0, .string a1.f0.f5.f1, .slice Ap1_0_5_2 a1.f0.f5.f2.length cp1_0_5_2], 32⟩, ⟨nx3, [.int .i64 t2.2.2.f0, .int .i64 t2.2.2.f1], 24⟩]) (by kernel_rfl) (.cons_cons _ (.cons_cons _ (.cons_cons _ (.cons_cons _ .slnil)))) (.refl _) ?_
    exact hJ2 _ _ _ _ _ ⟨t2.1, A1, c2, cs1, rfl, rfl, rfl, (Imm.le_refl _), (Reps.ext hi4 hp1), HK2⟩
 ·intro Q_4 hJ1 hQ1
  obtain ⟨y1, H, HK1⟩ := Option.bind_eq_some_iff.mp H
  refine OK.region 4 O3_14 (by kernel_rfl) ?_
  refine RL.simK (K' := [(42, .bool (decide ((a1.f0.f5.f2.length : Int) ≤ 30000))), (10, .int .i64 t2.2.1), (9, .slice A1 t2.1.length c2), (11, .pointer (some ⟨nx3, 0, none⟩)), (8, .int .i64 a1.f2), (7, .int .i64 a1.f1), (6, .pointer (some ⟨c1, 0, none⟩)), (5, .bool t1)]) [] (RFacts.nil _ _ _) 6 [.no, .no, .l 2, .no, .no, .no] (by kernel_rfl) (by kernel_rfl) ?_
  refine RL.cases (decide ((a1.f0.f5.f2.length : Int) ≤ 30000)) (fun hb => ?_) (fun hb => ?_)
  ·have hc := (of_decide_eq_true hb)
   rw [hb]
   rw [if_pos hc] at H; clear hb
   refine RL.simK (K' := [(48, .bool (decide ((a1.f0.f5.f1.size : Int) ≤ 100))), (10, .int .i64 t2.2.1), (9, .slice A1 t2.1.length c2), (11, .pointer (some ⟨nx3, 0, none⟩)), (8, .int .i64 a1.f2), (7, .int .i64 a1.f1), (6, .pointer (some ⟨c1, 0, none⟩)), (5, .bool t1)]) [] (RFacts.nil _ _ _) 6 [.no, .no, .l 2, .no, .no, .no] (by kernel_rfl) (by kernel_rfl) ?_
   refine RL.nil (by kernel_rfl) ?_
   obtain rfl := Option.some.inj H
   refine QN.sub (K' := [(5, .bool t1), (6, .pointer (some ⟨c1, 0, none⟩)), (7, .int .i64 a1.f1), (8, .int .i64 a1.f2), (9, .slice A1 t2.1.length c2), (10, .int .i64 t2.2.1), (11, .pointer (some ⟨nx3, 0, none⟩)), (48, .bool (decide ((a1.f0.f5.f1.size : Int) ≤ 100)))]) (L' := [⟨nx0, [.slice Ap0_0 a0.f0.length cp0_0, .int .u8 a0.f1, .int .i64 a0.f2.f0, .int .i64 a0.f2.f1], 26⟩, ⟨nx0 + 1, [.int .i64 a1.f0.f0, .int .i64 a1.f0.f1, .int .i64 a1.f0.f2, .int .i64 a1.f0.f3, .int .u32 a1.f0.f4, .int .i64 a1.f0.f5.f0, .string a1.f0.f5.f1, .slice Ap1_0_5_2 a1.f0.f5.f2.length cp1_0_5_2, .int .i64 a1.f1, .int .i64 a1.f2], 34⟩, ⟨c1, [.int .i64 a1.f0.f0, .int .i64 a1.f0.f1, .int .i64 a1.f0.f2, .int .i64 a1.f0.f3, .int .u32 a1.f0.f4, .int .i64 a1.f0.f5.f0, .string a1.f0.f5.f1, .slice Ap1_0_5_2 a1.f0.f5.f2.length cp1_0_5_2], 32⟩, ⟨nx3, [.int .i64 t2.2.2.f0, .int .i64 t2.2.2.f1], 24⟩]) (by kernel_rfl) (.cons_cons _ (.cons_cons _ (.cons_cons _ (.cons_cons _ .slnil)))) (.refl _) ?_
   exact hJ1 _ _ _ _ _ ⟨(decide ((a1.f0.f5.f1.size : Int) ≤ 100)), rfl, rfl, rfl, (Imm.le_refl _), HK1⟩
  ·have hc := (of_decide_eq_false hb)
   rw [hb]
   rw [if_neg hc] at H; clear hb
   refine RL.simK (K' := [(48, .bool false), (10, .int .i64 t2.2.1), (9, .slice A1 t2.1.length c2), (11, .pointer (some ⟨nx3, 0, none⟩)), (8, .int .i64 a1.f2), (7, .int .i64 a1.f1), (6, .pointer (some ⟨c1, 0, none⟩)), (5, .bool t1)]) [] (RFacts.nil _ _ _) 6 [.no, .no, .no, .no, .no, .no] (by kernel_rfl) (by kernel_rfl) ?_
   refine RL.nil (by kernel_rfl) ?_
   obtain rfl := Option.some.inj H
   refine QN.sub (K' := [(5, .bool t1), (6, .pointer (some ⟨c1, 0, none⟩)), (7, .int .i64 a1.f1), (8, .int .i64 a1.f2), (9, .slice A1 t2.1.length c2), (10, .int .i64 t2.2.1), (11, .pointer (some ⟨nx3, 0, none⟩)), (48, .bool false)]) (L' := [⟨nx0, [.slice Ap0_0 a0.f0.length cp0_0, .int .u8 a0.f1, .int .i64 a0.f2.f0, .int .i64 a0.f2.f1], 26⟩, ⟨nx0 + 1, [.int .i64 a1.f0.f0, .int .i64 a1.f0.f1, .int .i64 a1.f0.f2, .int .i64 a1.f0.f3, .int .u32 a1.f0.f4, .int .i64 a1.f0.f5.f0, .string a1.f0.f5.f1, .slice Ap1_0_5_2 a1.f0.f5.f2.length cp1_0_5_2, .int .i64 a1.f1, .int .i64 a1.f2], 34⟩, ⟨c1, [.int .i64 a1.f0.f0, .int .i64 a1.f0.f1, .int .i64 a1.f0.f2, .int .i64 a1.f0.f3, .int .u32 a1.f0.f4, .int .i64 a1.f0.f5.f0, .string a1.f0.f5.f1, .slice Ap1_0_5_2 a1.f0.f5.f2.length cp1_0_5_2], 32⟩, ⟨nx3, [.int .i64 t2.2.2.f0, .int .i64 t2.2.2.f1], 24⟩]) (by kernel_rfl) (.cons_cons _ (.cons_cons _ (.cons_cons _ (.cons_cons _ .slnil)))) (.refl _) ?_
   exact hJ1 _ _ _ _ _ ⟨false, rfl, rfl, rfl, (Imm.le_refl _), HK1⟩

end Go.Proofs.Ytieakigoinebdaa
namespace Go.Proofs.Ytieakigoinebdaa.refq
open Go Go.Proofs.Ytieakigoinebdaa Go.Proofs.Ytieakigoinebdaa.RW enc
set_option linter.unusedVariables false
set_option maxRecDepth 100000
/-! ### numbers -/
theorem pos_eq (n : Int) : armillaryref29_replicas.f n = quorum_group_possible.f n := rfl
theorem pos_some (n : Int) : ∃ b, quorum_group_possible.f n = some b ∧ (b = true → 1 ≤ n ∧ n ≤ 13) := by
 unfold quorum_group_possible.f
 by_cases h : n ≥ 1
 ·rw [if_pos h]
  exact ⟨_, rfl, fun hh => ⟨h, of_decide_eq_true hh⟩⟩
 ·rw [if_neg h]
  exact ⟨_, rfl, fun hh => by cases hh⟩
theorem maxf_both (n : Int) : ∃ v, quorum_MaxFaulty.f n = some v ∧ armillaryref29_MaxFaulty.f n = some v := by
 obtain ⟨b, hb, _⟩ := pos_some n
 unfold quorum_MaxFaulty.f armillaryref29_MaxFaulty.f
 rw [pos_eq, hb]
 cases b with
 | true => exact ⟨_, rfl, rfl⟩
 | false => exact ⟨_, rfl, rfl⟩
theorem size_both (n : Int) : ∃ v, quorum_Size.f n = some v ∧ armillaryref29_Size.f n = some v := by
 obtain ⟨b, hb, _⟩ := pos_some n
 obtain ⟨v, h1, h2⟩ := maxf_both n
 unfold quorum_Size.f armillaryref29_Size.f
 rw [pos_eq, hb, h1, h2]
 cases b with
 | true => exact ⟨_, rfl, rfl⟩
 | false => exact ⟨_, rfl, rfl⟩
theorem lead_both (n v : Int) : ∃ l, quorum_Leader.f n v = some l ∧ armillaryref29_Leader.f n v = some l := by
 obtain ⟨b, hb, hr⟩ := pos_some n
 unfold quorum_Leader.f armillaryref29_Leader.f
 rw [pos_eq, hb]
 cases b with
 | false => exact ⟨_, rfl, rfl⟩
 | true =>
  obtain ⟨n1, n2⟩ := hr rfl
  simp only [Option.bind_some, if_true]
  unfold quorum_Leader.k1 armillaryref29_Leader.k1
  by_cases hv : v < 0
  ·rw [decide_eq_true hv, if_pos rfl]
   exact ⟨_, rfl, rfl⟩
  ·rw [decide_eq_false hv, if_neg (by decide), if_neg (by omega)]
   exact ⟨_, rfl, rfl⟩
theorem empty_both (s : ByteArray) : s.toList = (⟨#[]⟩ : ByteArray).toList ↔ (s.size : Int) = 0 := by
 rw [ByteArray.toList_eq, ByteArray.toList_eq]
 have h2 : s.size = s.data.toList.length := by rw [Array.length_toList]; rfl
 constructor
 ·intro h
  have : s.data.toList.length = 0 := by rw [h]; rfl
  omega
 ·intro h
  have : s.data.toList.length = 0 := by omega
  rw [List.length_eq_zero_iff.1 this]
theorem zero_both (x : S32) : ∃ b, quorum_bare.f x = some b ∧ armillaryref29_zero.f x.f5 = some b := by
 unfold quorum_bare.f armillaryref29_zero.f
 by_cases c1 : x.f5.f0 = 0
 ·by_cases c2 : (x.f5.f1.size : Int) = 0
  ·rw [if_pos c1, if_pos c1, if_pos c2, if_pos ((empty_both _).2 c2)]
   exact ⟨_, rfl, rfl⟩
  ·rw [if_pos c1, if_pos c1, if_neg c2, if_neg (fun h => c2 ((empty_both _).1 h))]
   exact ⟨_, rfl, rfl⟩
 ·rw [if_neg c1, if_neg c1]
  exact ⟨_, rfl, rfl⟩
/-! ### one message -/
theorem valid_both {n : Int} {x : S32} (hb : ∀ y ∈ x.f5.f2, byte y) : ∃ v, ∀ k, quorum_group_valid.f (k + 40000) n x = some v ∧ armillaryref29_Valid.f (k + 40000) x n = some v := by
 obtain ⟨b, hp, _⟩ := pos_some n
 obtain ⟨z, z1, z2⟩ := zero_both x
 obtain ⟨bs, code, s, s1, s2, s3⟩ := sum_both hb
 obtain ⟨l, l1, l2⟩ := lead_both n x.f2
 obtain ⟨c, hc⟩ : ∃ c, (if b = true then (if x.f1 < 0 then (some true) else (if x.f1 ≥ n then (some true) else (if x.f2 < 0 then (some true) else (if x.f2 > 1048576 then (some true) else (if x.f3 < 0 then (some true) else (some (decide (x.f3 ≥ 1000)))))))) else (some true)) = some c := by
  repeat (first | exact ⟨_, rfl⟩ | split)
 cases c with
 | true =>
  refine ⟨false, fun k => ⟨?_, ?_⟩⟩
  ·unfold quorum_group_valid.f; rw [hp, Option.bind_some, hc]; rfl
  ·unfold armillaryref29_Valid.f; rw [pos_eq, hp, Option.bind_some, hc]; rfl
 | false =>
  have q : ∀ k, quorum_group_valid.f (k + 40000) n x = quorum_group_valid.k4 (k + 40000) n x false := fun k => by unfold quorum_group_valid.f; rw [hp, Option.bind_some, hc, Option.bind_some]
  have r : ∀ k, armillaryref29_Valid.f (k + 40000) x n = armillaryref29_Valid.k3 (k + 40000) x n false := fun k => by unfold armillaryref29_Valid.f; rw [pos_eq, hp, Option.bind_some, hc, Option.bind_some]
  by_cases c1 : x.f0 = 1
  ·refine ⟨if code = 0 then (if x.f1 = l then s == x.f4 else false) else false, fun k => ⟨?_, ?_⟩⟩
   ·rw [q]
    unfold quorum_group_valid.k4
    simp only [Bool.false_eq_true, if_false]
    rw [if_pos c1, s1 k, Option.bind_some, l1, Option.bind_some]
    simp only [s2]
    by_cases c2 : code = 0
    ·rw [if_pos c2, if_pos c2]
     by_cases c3 : x.f1 = l
     ·rw [if_pos c3, if_pos c3]; rfl
     ·rw [if_neg c3, if_neg c3]; rfl
    ·rw [if_neg c2, if_neg c2]; rfl
   ·rw [r]
    unfold armillaryref29_Valid.k3
    simp only [Bool.false_eq_true, if_false]
    rw [if_pos c1, s3 k, Option.bind_some, l2]
    simp only [Option.bind_some]
    by_cases c2 : code = 0
    ·rw [if_pos (by simpa using c2), if_pos c2]
     by_cases c3 : x.f1 = l
     ·rw [if_pos c3, if_pos c3]; rfl
     ·rw [if_neg c3, if_neg c3]; rfl
    ·rw [if_neg (by simpa using c2), if_neg c2]; rfl
  ·have q2 : ∀ k, quorum_group_valid.k4 (k + 40000) n x false = quorum_group_valid.k3 x (x.f0 == 2 || x.f0 == 3) := fun k => by
    unfold quorum_group_valid.k4
    simp only [Bool.false_eq_true, if_false]
    rw [if_neg c1]
    by_cases c2 : x.f0 = 2
    ·rw [if_pos c2, Option.bind_some, c2]; rfl
    ·rw [if_neg c2, Option.bind_some, show (x.f0 == 2) = false from by simpa using c2, Bool.false_or]
   have r2 : ∀ k, armillaryref29_Valid.k3 (k + 40000) x n false = (if x.f0 = 2 then some z else if x.f0 = 3 then some z else if x.f0 = 4 then some (if z = true then (if x.f3 = 0 then x.f4 == 0 else false) else false) else some false) := fun k => by
    unfold armillaryref29_Valid.k3
    simp only [Bool.false_eq_true, if_false]
    rw [if_neg c1, z2]
    simp only [Option.bind_some]
    by_cases c4 : x.f0 = 4
    ·rw [if_pos c4, if_pos c4]
     congr 2
     cases z with
     | true =>
      rw [if_pos rfl, if_pos rfl]
      by_cases c5 : x.f3 = 0
      ·rw [if_pos c5, if_pos c5]; rfl
      ·rw [if_neg c5, if_neg c5]; rfl
     | false => rfl
    ·rw [if_neg c4, if_neg c4]
   by_cases c23 : x.f0 = 2 ∨ x.f0 = 3
   ·refine ⟨z, fun k => ⟨?_, ?_⟩⟩
    ·rw [q, q2, show (x.f0 == 2 || x.f0 == 3) = true from by rcases c23 with h | h <;> simp [h]]
     unfold quorum_group_valid.k3
     rw [if_pos rfl, z1]; rfl
    ·rw [r, r2]
     rcases c23 with h | h
     ·rw [if_pos h]
     ·rw [if_neg (by omega), if_pos h]
   ·have n2 : ¬ x.f0 = 2 := fun h => c23 (Or.inl h)
    have n3 : ¬ x.f0 = 3 := fun h => c23 (Or.inr h)
    refine ⟨if x.f0 = 4 then (if z = true then (if x.f3 = 0 then x.f4 == 0 else false) else false) else false, fun k => ⟨?_, ?_⟩⟩
    ·rw [q, q2, show (x.f0 == 2 || x.f0 == 3) = false from by simp [n2, n3]]
     unfold quorum_group_valid.k3
     simp only [Bool.false_eq_true, if_false]
     by_cases c4 : x.f0 = 4
     ·rw [if_pos c4, if_pos c4, z1]
      simp only [Option.bind_some]
      cases z with
      | true =>
       rw [if_pos rfl, if_pos rfl]
       by_cases c5 : x.f3 = 0
       ·rw [if_pos c5, if_pos c5]; rfl
       ·rw [if_neg c5, if_neg c5]; rfl
      | false => rfl
     ·rw [if_neg c4, if_neg c4]
    ·rw [r, r2, if_neg n2, if_neg n3]
     by_cases c4 : x.f0 = 4
     ·rw [if_pos c4, if_pos c4]
     ·rw [if_neg c4, if_neg c4]
/-! ### what was seen -/
theorem seenP_iff (V : S32 → Bool) (q : VK) : ∀ (l : List S32) (seen : List (VK × Bool)), (mget (seenP V l seen) q).getD false = true ↔ (mget seen q).getD false = true ∨ ∃ y ∈ l, V y = true ∧ vkey y = q
 | [], seen => by simp [seenP]
 | m :: r, seen => by
  simp only [seenP]
  by_cases h1 : (mget seen (vkey m)).getD false = true
  ·rw [if_pos h1, seenP_iff V q r seen]
   constructor
   ·rintro (h | ⟨y, hy, h⟩)
    ·exact Or.inl h
    ·exact Or.inr ⟨y, List.mem_cons_of_mem _ hy, h⟩
   ·rintro (h | ⟨y, hy, hv, hk⟩)
    ·exact Or.inl h
    ·rcases List.mem_cons.1 hy with rfl | hy
     ·exact Or.inl (hk ▸ h1)
     ·exact Or.inr ⟨y, hy, hv, hk⟩
  ·rw [if_neg h1]
   by_cases h2 : V m = true
   ·rw [if_pos h2, seenP_iff V q r]
    by_cases e : q = vkey m
    ·constructor
     ·intro _; exact Or.inr ⟨m, List.mem_cons_self, h2, e.symm⟩
     ·intro _; left; rw [e, mput_get]; rfl
    ·rw [mput_other _ _ _ _ e]
     constructor
     ·rintro (h | ⟨y, hy, h⟩)
      ·exact Or.inl h
      ·exact Or.inr ⟨y, List.mem_cons_of_mem _ hy, h⟩
     ·rintro (h | ⟨y, hy, hv, hk⟩)
      ·exact Or.inl h
      ·rcases List.mem_cons.1 hy with rfl | hy
       ·exact absurd hk.symm e
       ·exact Or.inr ⟨y, hy, hv, hk⟩
   ·rw [if_neg h2, seenP_iff V q r seen]
    constructor
    ·rintro (h | ⟨y, hy, h⟩)
     ·exact Or.inl h
     ·exact Or.inr ⟨y, List.mem_cons_of_mem _ hy, h⟩
    ·rintro (h | ⟨y, hy, hv, hk⟩)
     ·exact Or.inl h
     ·rcases List.mem_cons.1 hy with rfl | hy
      ·exact absurd hv h2
      ·exact Or.inr ⟨y, hy, hv, hk⟩
/-- Does message i count? -/
def cts (V : S32 → Bool) (l : List S32) (i : Nat) (x : S32) : Prop := V x = true ∧ ¬ ∃ y ∈ l.take i, V y = true ∧ vkey y = vkey x
theorem cnt_snoc (V : S32 → Bool) {l : List S32} {i : Nat} (hi : i < l.length) : cntP V (l.take (i + 1)) [] = cntP V (l.take i) [] ++ (if (mget (seenP V (l.take i) []) (vkey l[i])).getD false = true then [] else if V l[i] = true then [l[i]] else []) := by
 rw [List.take_add_one, List.getElem?_eq_getElem hi, cntP_append]
 congr 1
theorem cts_iff (V : S32 → Bool) {l : List S32} {i : Nat} (hi : i < l.length) : (cts V l i l[i] → cntP V (l.take (i + 1)) [] = cntP V (l.take i) [] ++ [l[i]]) ∧ (¬ cts V l i l[i] → cntP V (l.take (i + 1)) [] = cntP V (l.take i) []) := by
 have h := seenP_iff V (vkey l[i]) (l.take i) []
 have h0 : ¬ ((mget ([] : List (VK × Bool)) (vkey l[i])).getD false = true) := fun hh => by cases hh
 rw [cnt_snoc V hi]
 constructor
 ·rintro ⟨h1, h2⟩
  rw [if_neg (fun hh => (h.1 hh).elim h0 h2), if_pos h1]
 ·intro hc
  by_cases h1 : (mget (seenP V (l.take i) []) (vkey l[i])).getD false = true
  ·rw [if_pos h1, List.append_nil]
  ·rw [if_neg h1]
   by_cases h2 : V l[i] = true
   ·exact absurd ⟨h2, fun hh => h1 (h.2 (Or.inr hh))⟩ hc
   ·rw [if_neg h2, List.append_nil]
end Go.Proofs.Ytieakigoinebdaa.refq
namespace Go.Proofs.Ytieakigoinebdaa.refq
open Go Go.Proofs.Ytieakigoinebdaa Go.Proofs.Ytieakigoinebdaa.RW enc
set_option linter.unusedVariables false
set_option maxRecDepth 100000
theorem getD_at {l : List S32} {i : Nat} (hi : i < l.length) : l.getD (i : Int).toNat z32 = l[i] := by
 rw [Int.toNat_natCast, List.getD_eq_getElem?_getD, List.getElem?_eq_getElem hi]; rfl
/-- Both validities, of all messages of a list. -/
def VB (n : Int) (V : S32 → Bool) (l : List S32) : Prop := ∀ m ∈ l, ∀ k, quorum_group_valid.f (k + 40000) n m = some (V m) ∧ armillaryref29_Valid.f (k + 40000) m n = some (V m)
section
variable {n : Int} {V : S32 → Bool} {l : List S32}
theorem counts_l1 (hV : VB n V l) (hlen : l.length ≤ 100) {i : Nat} (hi : i < l.length) : ∀ (r j k : Nat), j + r = i → (∃ y ∈ (l.take i).drop j, V y = true ∧ vkey y = vkey l[i]) ∧ armillaryref29_counts.l1 l n (i : Int) (k + 40001 + r) (j : Int) = some (.inr false) ∨ (¬ ∃ y ∈ (l.take i).drop j, V y = true ∧ vkey y = vkey l[i]) ∧ armillaryref29_counts.l1 l n (i : Int) (k + 40001 + r) (j : Int) = some (.inl ()) := by
 intro r
 induction r with
 | zero =>
  intro j k hj
  right
  refine ⟨fun ⟨y, hy, _⟩ => ?_, ?_⟩
  ·rw [List.drop_of_length_le (by rw [List.length_take]; omega)] at hy
   cases hy
  ·rw [show k + 40001 + 0 = (k + 40000) + 1 from by omega]
   generalize k + 40000 = K
   simp only [armillaryref29_counts.l1]
   rw [if_neg (by omega)]
 | succ r ih =>
  intro j k hj
  have hjl : j < l.length := by omega
  have hjt : j < (l.take i).length := by rw [List.length_take]; omega
  have hdrop : (l.take i).drop j = l[j] :: (l.take i).drop (j + 1) := by
   rw [List.drop_eq_getElem_cons hjt, List.getElem_take]
  have hnext := ih (j + 1) k (by omega)
  have hv := (hV l[j] (List.getElem_mem hjl) (k + 1 + r)).2
  rw [show (k + 1 + r) + 40000 = k + 40001 + r from by omega] at hv
  rw [show k + 40001 + (r + 1) = (k + 40001 + r) + 1 from by omega]
  generalize k + 40001 + r = K at hnext hv
  have a1 : 0 ≤ (j : Int) := by omega
  have a2 : (j : Int) < (l.length : Int) := by omega
  have a3 : 0 ≤ (i : Int) := by omega
  have a4 : (i : Int) < (l.length : Int) := by omega
  simp only [armillaryref29_counts.l1, getD_at hjl, getD_at hi, if_pos a1, if_pos a2, if_pos a3, if_pos a4]
  rw [if_pos (by omega), hv]
  obtain ⟨c, hc, hc2⟩ : ∃ c, (if l[j].f0 = l[i].f0 then (if l[j].f1 = l[i].f1 then (if l[j].f2 = l[i].f2 then (if l[j].f3 = l[i].f3 then ((some (V l[j])).bind fun t2 => some t2) else some false) else some false) else some false) else some false) = some c ∧ (c = true ↔ V l[j] = true ∧ vkey l[j] = vkey l[i]) := by
   unfold vkey
   by_cases d0 : l[j].f0 = l[i].f0
   ·by_cases d1 : l[j].f1 = l[i].f1
    ·by_cases d2 : l[j].f2 = l[i].f2
     ·by_cases d3 : l[j].f3 = l[i].f3
      ·exact ⟨V l[j], by rw [if_pos d0, if_pos d1, if_pos d2, if_pos d3]; rfl, by rw [d0, d1, d2, d3]; simp⟩
      ·exact ⟨false, by rw [if_pos d0, if_pos d1, if_pos d2, if_neg d3], by simp [d3]⟩
     ·exact ⟨false, by rw [if_pos d0, if_pos d1, if_neg d2], by simp [d2]⟩
    ·exact ⟨false, by rw [if_pos d0, if_neg d1], by simp [d1]⟩
   ·exact ⟨false, by rw [if_neg d0], by simp [d0]⟩
  rw [hc, Option.bind_some]
  cases c with
  | true =>
   obtain ⟨e1, e2⟩ := hc2.1 rfl
   left
   exact ⟨⟨l[j], by rw [hdrop]; exact List.mem_cons_self, e1, e2⟩, by rw [if_pos rfl]⟩
  | false =>
   rw [if_neg (by decide), W64 (by omega) (by omega), show ((j : Int) + 1) = ((j + 1 : Nat) : Int) from by omega]
   rcases hnext with ⟨⟨y, hy, hyk⟩, h2⟩ | ⟨h1, h2⟩
   ·left
    exact ⟨⟨y, by rw [hdrop]; exact List.mem_cons_of_mem _ hy, hyk⟩, h2⟩
   ·right
    refine ⟨fun ⟨y, hy, hyk⟩ => ?_, h2⟩
    rw [hdrop] at hy
    rcases List.mem_cons.1 hy with rfl | hy
    ·have := hc2.2 hyk; cases this
    ·exact h1 ⟨y, hy, hyk⟩
theorem counts_f (hV : VB n V l) (hlen : l.length ≤ 100) {i : Nat} (hi : i < l.length) (k : Nat) : ∃ b, armillaryref29_counts.f (k + 40101) l n (i : Int) = some b ∧ (b = true ↔ cts V l i l[i]) := by
 unfold armillaryref29_counts.f
 have hv := (hV l[i] (List.getElem_mem hi) (k + 101)).2
 rw [if_pos (by omega), if_pos (by omega), getD_at hi, show k + 40101 = k + 101 + 40000 from by omega, hv, Option.bind_some]
 unfold cts
 cases hvv : V l[i] with
 | false => exact ⟨false, by rw [if_neg (by decide)], by simp⟩
 | true =>
  rw [if_pos rfl]
  have h := counts_l1 hV hlen hi i 0 (k + 100 - i) (by omega)
  rw [show k + 100 - i + 40001 + i = k + 101 + 40000 from by omega, List.drop_zero, show ((0 : Nat) : Int) = 0 from rfl] at h
  rcases h with ⟨h1, h2⟩ | ⟨h1, h2⟩
  ·rw [h2, Option.bind_some]
   exact ⟨false, rfl, by simp only [Bool.false_eq_true, true_and, false_iff, Classical.not_not]; exact h1⟩
  ·rw [h2, Option.bind_some]
   exact ⟨true, rfl, by simp only [true_and, true_iff]; exact h1⟩
/-- The votes for message x1's sum. -/
theorem votes_l2 (hV : VB n V l) (hlen : l.length ≤ 100) {i : Nat} (hi : i < l.length) (at_ : S24) (kd : Int) : ∀ (r j k : Nat), j + r = l.length → armillaryref29_decided.l2 l n at_ kd (i : Int) (k + 40102 + r) ((cntB (kd, at_.f0, at_.f1, l[i].f4) (cntP V (l.take j) []) : Nat) : Int) (j : Int) = some ((cntB (kd, at_.f0, at_.f1, l[i].f4) (cntP V l []) : Nat) : Int) := by
 intro r
 induction r with
 | zero =>
  intro j k hj
  rw [show k + 40102 + 0 = (k + 40101) + 1 from by omega]
  generalize k + 40101 = K
  simp only [armillaryref29_decided.l2]
  rw [if_neg (by omega), List.take_of_length_le (by omega)]
 | succ r ih =>
  intro j k hj
  have hjl : j < l.length := by omega
  have hnext := ih (j + 1) k (by omega)
  obtain ⟨b, hb, hb2⟩ := counts_f hV hlen hjl (k + 1 + r)
  rw [show (k + 1 + r) + 40101 = k + 40102 + r from by omega] at hb
  rw [show k + 40102 + (r + 1) = (k + 40102 + r) + 1 from by omega]
  generalize k + 40102 + r = K at hnext hb
  have a1 : 0 ≤ (j : Int) := by omega
  have a2 : (j : Int) < (l.length : Int) := by omega
  have a3 : 0 ≤ (i : Int) := by omega
  have a4 : (i : Int) < (l.length : Int) := by omega
  have hcl : cntB (kd, at_.f0, at_.f1, l[i].f4) (cntP V (l.take j) []) ≤ 100 := by
   have h1 : (cntP V (l.take j) []).length ≤ (l.take j).length := by
    have : ∀ (c : List S32) (s : List (VK × Bool)), (cntP V c s).length ≤ c.length := by
     intro c
     induction c with
     | nil => intro s; simp [cntP]
     | cons m r ih =>
      intro s
      simp only [cntP]
      split
      ·have := ih s; rw [List.length_cons]; omega
      ·split
       ·have := ih (mput s (vkey m) true); rw [List.length_cons, List.length_cons]; omega
       ·have := ih s; rw [List.length_cons]; omega
    exact this _ _
   have h2 : cntB (kd, at_.f0, at_.f1, l[i].f4) (cntP V (l.take j) []) ≤ (cntP V (l.take j) []).length := List.length_filter_le _ _
   rw [List.length_take] at h1
   omega
  simp only [armillaryref29_decided.l2, getD_at hjl, getD_at hi, if_pos a1, if_pos a2, if_pos a3, if_pos a4]
  rw [hb]
  obtain ⟨c, hc, hc2⟩ : ∃ c, (if l[j].f0 = kd then (if l[j].f2 = at_.f0 then (if l[j].f3 = at_.f1 then (if l[j].f4 = l[i].f4 then ((some b).bind fun t2 => some t2) else some false) else some false) else some false) else some false) = some c ∧ (c = true ↔ b = true ∧ bkey l[j] = (kd, at_.f0, at_.f1, l[i].f4)) := by
   unfold bkey
   by_cases d0 : l[j].f0 = kd
   ·by_cases d1 : l[j].f2 = at_.f0
    ·by_cases d2 : l[j].f3 = at_.f1
     ·by_cases d3 : l[j].f4 = l[i].f4
      ·exact ⟨b, by rw [if_pos d0, if_pos d1, if_pos d2, if_pos d3]; rfl, by rw [d0, d1, d2, d3]; simp⟩
      ·exact ⟨false, by rw [if_pos d0, if_pos d1, if_pos d2, if_neg d3], by simp [d3]⟩
     ·exact ⟨false, by rw [if_pos d0, if_pos d1, if_neg d2], by simp [d2]⟩
    ·exact ⟨false, by rw [if_pos d0, if_neg d1], by simp [d1]⟩
   ·exact ⟨false, by rw [if_neg d0], by simp [d0]⟩
  have hstep : (if c = true then some (W .i64 (((cntB (kd, at_.f0, at_.f1, l[i].f4) (cntP V (l.take j) []) : Nat) : Int) + 1)) else some ((cntB (kd, at_.f0, at_.f1, l[i].f4) (cntP V (l.take j) []) : Nat) : Int)) = some ((cntB (kd, at_.f0, at_.f1, l[i].f4) (cntP V (l.take (j + 1)) []) : Nat) : Int) := by
   obtain ⟨t1, t2⟩ := cts_iff V hjl
   by_cases hct : cts V l j l[j]
   ·rw [t1 hct, cntB_snoc]
    by_cases hk : bkey l[j] = (kd, at_.f0, at_.f1, l[i].f4)
    ·rw [if_pos (hc2.2 ⟨hb2.2 hct, hk⟩), if_pos hk, W64 (by omega) (by omega)]
     rfl
    ·rw [if_neg (fun h => hk (hc2.1 h).2), if_neg hk, Nat.add_zero]
   ·rw [t2 hct, if_neg (fun h => hct (hb2.1 (hc2.1 h).1))]
  rw [hc, Option.bind_some, hstep, Option.bind_some, W64 (by omega) (by omega), show ((j : Int) + 1) = ((j + 1 : Nat) : Int) from by omega]
  exact hnext
end
end Go.Proofs.Ytieakigoinebdaa.refq
namespace Go.Proofs.Ytieakigoinebdaa.refq
open Go Go.Proofs.Ytieakigoinebdaa Go.Proofs.Ytieakigoinebdaa.RW enc
set_option linter.unusedVariables false
set_option maxRecDepth 100000
theorem made_body {K : Nat} {m x : S32} {n : Int} (h : armillaryref29_Made.f K m n = some x) : x.f5.f2 = [] := by
 unfold armillaryref29_Made.f at h
 split at h
 ·cases h
 ·obtain ⟨t1, _, h⟩ := Option.bind_eq_some_iff.1 h
  obtain ⟨⟨x1, x2, x3, x4, x5⟩, _, h⟩ := Option.bind_eq_some_iff.1 h
  simp only [armillaryref29_Made.k1, Option.some.injEq] at h
  subst h
  rfl
theorem all_body {l : List S32} {n : Int} : ∀ (K : Nat) (acc : List S32) (i : Int) (L : List S32), armillaryref29_MadeAll.l1 l n 40 K acc i = some L → (∀ x ∈ acc, x.f5.f2 = []) → ∀ x ∈ L, x.f5.f2 = [] := by
 intro K
 induction K with
 | zero => intro acc i L h; cases h
 | succ K ih =>
  intro acc i L h ha
  simp only [armillaryref29_MadeAll.l1] at h
  obtain ⟨b, _, h⟩ := Option.bind_eq_some_iff.1 h
  split at h
  ·split at h
   ·split at h
    ·obtain ⟨t1, ht, h⟩ := Option.bind_eq_some_iff.1 h
     split at h
     ·refine ih _ _ _ h (fun x hx => ?_)
      rcases List.mem_append.1 hx with hx | hx
      ·exact ha x hx
      ·rw [List.mem_singleton.1 hx]; exact made_body ht
     ·cases h
    ·cases h
   ·cases h
  ·injection h with h
   subst h
   exact ha
theorem madeAll_body {l : List S32} {n : Int} {K : Nat} {L : List S32} (h : armillaryref29_MadeAll.f K l n 40 = some L) : ∀ x ∈ L, x.f5.f2 = [] := by
 unfold armillaryref29_MadeAll.f at h
 obtain ⟨t, ht, h⟩ := Option.bind_eq_some_iff.1 h
 have : t = L := by simpa [armillaryref29_MadeAll.k1] using h
 subst this
 exact all_body _ _ _ _ ht (fun x hx => by cases hx)
section
variable {n : Int} {l : List S32}
theorem size_ref (h1 : 1 ≤ n) (h2 : n ≤ 13) : armillaryref29_Size.f n = some (qsz n) := by
 obtain ⟨v, e1, e2⟩ := size_both n
 rw [(size_eq h1 h2).1] at e1
 injection e1 with e1
 rw [e2, e1]
/-- Is message i one for the answer? -/
def hit (n : Int) (l : List S32) (at_ : S24) (kd : Int) (x : S32) : Prop := x.f0 = kd ∧ x.f2 = at_.f0 ∧ x.f3 = at_.f1 ∧ vbN 41000 n x = true ∧ qsz n ≤ ((cntB (kd, at_.f0, at_.f1, x.f4) (cntP (vbN 41000 n) l []) : Nat) : Int)
theorem decided_l1 (h1 : 1 ≤ n) (h2 : n ≤ 13) (hV : VB n (vbN 41000 n) l) (hlen : l.length ≤ 100) (at_ : S24) (kd : Int) : ∀ (r i k : Nat), i + r = l.length →
  (∃ s, decN 41000 n l kd at_.f0 at_.f1 = some s ∧ armillaryref29_decided.l1 l n at_ kd (k + 40303 + r) (i : Int) = some (.inr (s, true))) ∨ ((¬ ∃ x ∈ l.drop i, hit n l at_ kd x) ∧ armillaryref29_decided.l1 l n at_ kd (k + 40303 + r) (i : Int) = some (.inl ())) := by
 intro r
 induction r with
 | zero =>
  intro i k hi
  right
  refine ⟨fun ⟨x, hx, _⟩ => ?_, ?_⟩
  ·rw [List.drop_of_length_le (by omega)] at hx; cases hx
  ·rw [show k + 40303 + 0 = (k + 40302) + 1 from by omega]
   generalize k + 40302 = K
   simp only [armillaryref29_decided.l1]
   rw [if_neg (by omega)]
 | succ r ih =>
  intro i k hi
  have hil : i < l.length := by omega
  have hdrop : l.drop i = l[i] :: l.drop (i + 1) := List.drop_eq_getElem_cons hil
  have hnext := ih (i + 1) k (by omega)
  have hv := (hV l[i] (List.getElem_mem hil) (k + 303 + r)).2
  rw [show k + 303 + r + 40000 = k + 40303 + r from by omega] at hv
  have hvotes := votes_l2 hV hlen hil at_ kd l.length 0 (k + 201 + r - l.length) (by omega)
  rw [show k + 201 + r - l.length + 40102 + l.length = k + 40303 + r from by omega, List.take_zero, show ((0 : Nat) : Int) = 0 from rfl, show ((cntB (kd, at_.f0, at_.f1, l[i].f4) (cntP (vbN 41000 n) [] []) : Nat) : Int) = 0 from by simp [cntP, cntB]] at hvotes
  rw [show k + 40303 + (r + 1) = (k + 40303 + r) + 1 from by omega]
  generalize k + 40303 + r = K at hnext hv hvotes
  have a1 : 0 ≤ (i : Int) := by omega
  have a2 : (i : Int) < (l.length : Int) := by omega
  have hW : W .i64 ((i : Int) + 1) = ((i + 1 : Nat) : Int) := by rw [W64 (by omega) (by omega)]; rfl
  simp only [armillaryref29_decided.l1, getD_at hil, if_pos a1, if_pos a2, hW]
  rw [hv]
  obtain ⟨c, hc, hc2⟩ : ∃ c, (if l[i].f0 ≠ kd then some true else (if l[i].f2 ≠ at_.f0 then some true else (if l[i].f3 ≠ at_.f1 then some true else ((some (vbN 41000 n l[i])).bind fun t3 => some (!t3))))) = some c ∧ (c = false ↔ l[i].f0 = kd ∧ l[i].f2 = at_.f0 ∧ l[i].f3 = at_.f1 ∧ vbN 41000 n l[i] = true) := by
   by_cases d0 : l[i].f0 = kd
   ·by_cases d1 : l[i].f2 = at_.f0
    ·by_cases d2 : l[i].f3 = at_.f1
     ·exact ⟨!(vbN 41000 n l[i]), by rw [if_neg (not_not_intro d0), if_neg (not_not_intro d1), if_neg (not_not_intro d2)]; rfl, by simp [d0, d1, d2]⟩
     ·exact ⟨true, by rw [if_neg (not_not_intro d0), if_neg (not_not_intro d1), if_pos d2], by simp [d2]⟩
    ·exact ⟨true, by rw [if_neg (not_not_intro d0), if_pos d1], by simp [d1]⟩
   ·exact ⟨true, by rw [if_pos d0], by simp [d0]⟩
  have skip : (¬ hit n l at_ kd l[i]) → (∃ s, decN 41000 n l kd at_.f0 at_.f1 = some s ∧ armillaryref29_decided.l1 l n at_ kd K ((i + 1 : Nat) : Int) = some (.inr (s, true))) ∨ ((¬ ∃ x ∈ l.drop i, hit n l at_ kd x) ∧ armillaryref29_decided.l1 l n at_ kd K ((i + 1 : Nat) : Int) = some (.inl ())) := fun hno => by
   rcases hnext with h | ⟨h3, h4⟩
   ·exact Or.inl h
   ·right
    refine ⟨fun ⟨x, hx, hxh⟩ => ?_, h4⟩
    rw [hdrop] at hx
    rcases List.mem_cons.1 hx with rfl | hx
    ·exact hno hxh
    ·exact h3 ⟨x, hx, hxh⟩
  rw [hc, Option.bind_some]
  unfold armillaryref29_decided.k6
  cases c with
  | true =>
   rw [if_pos rfl, Option.bind_some]
   exact skip (fun hh => by have := hc2.2 ⟨hh.1, hh.2.1, hh.2.2.1, hh.2.2.2.1⟩; cases this)
  | false =>
   rw [if_neg (by decide), hvotes, Option.bind_some]
   unfold armillaryref29_decided.k3
   rw [size_ref h1 h2, Option.bind_some]
   obtain ⟨q0, q1, q2, q3⟩ := hc2.1 rfl
   by_cases hq : ((cntB (kd, at_.f0, at_.f1, l[i].f4) (cntP (vbN 41000 n) l []) : Nat) : Int) ≥ qsz n
   ·rw [if_pos hq, if_pos a1, if_pos a2, getD_at hil, Option.bind_some]
    left
    exact ⟨l[i].f4, (decN_iff h1 h2 l kd at_.f0 at_.f1 l[i].f4).2 hq, rfl⟩
   ·rw [if_neg hq, Option.bind_some]
    exact skip (fun hh => hq hh.2.2.2.2)
theorem decided_f (h1 : 1 ≤ n) (h2 : n ≤ 13) (hV : VB n (vbN 41000 n) l) (hlen : l.length ≤ 100) (at_ : S24) (kd : Int) (k : Nat) : armillaryref29_decided.f (k + 40403) l n at_ kd = some ((decN 41000 n l kd at_.f0 at_.f1).getD 0, (decN 41000 n l kd at_.f0 at_.f1).isSome) := by
 unfold armillaryref29_decided.f
 have h := decided_l1 h1 h2 hV hlen at_ kd l.length 0 (k + 100 - l.length) (by omega)
 rw [show k + 100 - l.length + 40303 + l.length = k + 40403 from by omega, List.drop_zero, show ((0 : Nat) : Int) = 0 from rfl] at h
 rcases h with ⟨s, e1, e2⟩ | ⟨e1, e2⟩
 ·rw [e2, e1]; rfl
 ·rw [e2]
  cases hd : decN 41000 n l kd at_.f0 at_.f1 with
  | none => rfl
  | some s =>
   exfalso
   have hq := (decN_iff h1 h2 l kd at_.f0 at_.f1 s).1 hd
   have hpos : 0 < cntB (kd, at_.f0, at_.f1, s) (cntP (vbN 41000 n) l []) := by unfold qsz at hq; omega
   unfold cntB at hpos
   obtain ⟨x, hx⟩ := List.exists_mem_of_length_pos hpos
   have hx1 := List.mem_filter.1 hx
   have hb := bkey_eq.1 (of_decide_eq_true hx1.2)
   have hm := cntP_mem _ _ _ x hx1.1
   have hs := hb.1
   unfold slotOf at hs
   injection hs with s1 s2
   injection s2 with s2 s3
   exact e1 ⟨x, hm.1, s1, s2, s3, hm.2.1, by rw [hb.2]; exact hq⟩
theorem prepR (h1 : 1 ≤ n) (h2 : n ≤ 13) (hV : VB n (vbN 41000 n) l) (hlen : l.length ≤ 100) (at_ : S24) (k : Nat) : armillaryref29_Prepared.f (k + 40403) l n at_ = some ((decN 41000 n l 2 at_.f0 at_.f1).getD 0, (decN 41000 n l 2 at_.f0 at_.f1).isSome) := by
 unfold armillaryref29_Prepared.f
 rw [decided_f h1 h2 hV hlen, Option.bind_some]
theorem commR (h1 : 1 ≤ n) (h2 : n ≤ 13) (hV : VB n (vbN 41000 n) l) (hlen : l.length ≤ 100) (at_ : S24) (k : Nat) : armillaryref29_Committed.f (k + 40403) l n at_ = some ((decN 41000 n l 3 at_.f0 at_.f1).getD 0, (decN 41000 n l 3 at_.f0 at_.f1).isSome) := by
 unfold armillaryref29_Committed.f
 rw [decided_f h1 h2 hV hlen, Option.bind_some]
/-! ### the highest entry -/
theorem hpB {at_ : S24} {t1 : List (VK × Int)} {V : S32 → Bool} {D : Int → Int → Option Int} (hlen : l.length ≤ 1000) (hV : VB n V l) (hD : ∀ v q, mget t1 (2, 0, v, q) = D v q) :
  ∀ (r i : Nat) (k : Nat) (st : S30 × Int), i + r = l.length → quorum_HighestPrepared.l1 l n at_ t1 (k + 40001 + r) st.1.f0 st.1.f1 st.1.f2 st.2 (i : Int) =
   some (((l.drop i).foldl (hstep V D at_) st).1.f0, ((l.drop i).foldl (hstep V D at_) st).1.f1, ((l.drop i).foldl (hstep V D at_) st).1.f2, ((l.drop i).foldl (hstep V D at_) st).2) := by
 intro r
 induction r with
 | zero =>
  intro i k st hi
  rw [show k + 40001 + 0 = (k + 40000) + 1 from by omega]
  generalize k + 40000 = K
  simp only [quorum_HighestPrepared.l1]
  rw [if_neg (by omega), List.drop_of_length_le (by omega)]
  rfl
 | succ r ih =>
  intro i k st hi
  have hil : i < l.length := by omega
  have hdrop : l.drop i = l[i] :: l.drop (i + 1) := List.drop_eq_getElem_cons hil
  have hv := (hV l[i] (List.getElem_mem hil) (k + 1 + r)).1
  rw [show (k + 1 + r) + 40000 = k + 40001 + r from by omega] at hv
  have hnext := ih (i + 1) k (hstep V D at_ st l[i]) (by omega)
  have hit := hp_iter (k := k + 40001 + r) (at_ := at_) (st := st) (i := (i : Int)) (getD_at hil) hv hD
  rw [show k + 40001 + (r + 1) = (k + 40001 + r) + 1 from by omega]
  generalize k + 40001 + r = K at hnext hit
  simp only [quorum_HighestPrepared.l1]
  rw [if_pos (by omega), if_pos (by omega), if_pos (by omega), getD_at hil, hit, Option.bind_some]
  simp only
  rw [W64 (by omega) (by omega), show ((i : Int) + 1) = ((i + 1 : Nat) : Int) from by omega, hnext, hdrop]
  rfl
theorem highQ (h1 : 1 ≤ n) (h2 : n ≤ 13) (hV : VB n (vbN 41000 n) l) (hlen : l.length ≤ 100) (at_ : S24) :
  quorum_HighestPrepared.f 41000 l n at_ = some ((l.foldl (hstep (vbN 41000 n) (decN 41000 n l 2) at_) (⟨0, ⟨#[]⟩, []⟩, -1)).1, decide ((l.foldl (hstep (vbN 41000 n) (decN 41000 n l 2) at_) (⟨0, ⟨#[]⟩, []⟩, -1)).2 ≥ 0)) := by
 unfold quorum_HighestPrepared.f
 rw [tally_dec h1 h2 (fun m hm => ⟨_, (hV m hm 1000).1⟩), Option.bind_some]
 have := hpB (at_ := at_) (V := vbN 41000 n) (D := decN 41000 n l 2) (t1 := (tst (qsz n) (cntP (vbN 41000 n) l [])).2) (by omega) hV (fun v q => rfl) l.length 0 (999 - l.length) ((⟨0, ⟨#[]⟩, []⟩ : S30), (-1 : Int)) (by omega)
 rw [show 999 - l.length + 40001 + l.length = 41000 from by omega, show ((0 : Nat) : Int) = 0 from rfl, List.drop_zero] at this
 simp only at this
 rw [this, Option.bind_some]
 unfold quorum_HighestPrepared.k1
 rfl
theorem hpR_iter {K : Nat} {at_ : S24} {V : S32 → Bool} {D : Int → Int → Option Int} {st : S30 × Int} {i : Int} {m : S32} (hget : l.getD i.toNat z32 = m) (hV : armillaryref29_Valid.f K m n = some (V m)) (hD : armillaryref29_Prepared.f K l n ⟨m.f2, m.f3⟩ = some ((D m.f2 m.f3).getD 0, (D m.f2 m.f3).isSome)) :
  ((if m.f0 ≠ 1 then (some true) else (if m.f3 ≠ at_.f1 then (some true) else (if m.f2 ≥ at_.f0 then (some true) else (if m.f2 ≤ st.2 then (some true) else ((armillaryref29_Valid.f K m n).bind fun t2 => (some (!t2))))))).bind (armillaryref29_HighestPrepared.k5 l n st.1.f0 st.1.f1 st.1.f2 st.2 i K)) =
   some ((hstep V D at_ st m).1.f0, (hstep V D at_ st m).1.f1, (hstep V D at_ st m).1.f2, (hstep V D at_ st m).2) := by
 have skip : ∀ b, b = true → (hstep V D at_ st m = st) → armillaryref29_HighestPrepared.k5 l n st.1.f0 st.1.f1 st.1.f2 st.2 i K b = some ((hstep V D at_ st m).1.f0, (hstep V D at_ st m).1.f1, (hstep V D at_ st m).1.f2, (hstep V D at_ st m).2) := by
  intro b hb hs
  unfold armillaryref29_HighestPrepared.k5
  rw [if_pos hb, hs]
 have noHC : ¬ (HC V D at_ m ∧ st.2 < m.f2) → hstep V D at_ st m = st := fun h => by unfold hstep; rw [if_neg h]
 by_cases h1 : m.f0 = 1
 ·rw [if_neg (by simpa using h1)]
  by_cases h2 : m.f3 = at_.f1
  ·rw [if_neg (by simpa using h2)]
   by_cases h3 : m.f2 ≥ at_.f0
   ·rw [if_pos h3, Option.bind_some]
    exact skip _ rfl (noHC (fun h => by have := h.1.2.2.1; omega))
   ·rw [if_neg h3]
    by_cases h4 : m.f2 ≤ st.2
    ·rw [if_pos h4, Option.bind_some]
     exact skip _ rfl (noHC (fun h => by have := h.2; omega))
    ·rw [if_neg h4, hV, Option.bind_some, Option.bind_some]
     cases h5 : V m with
     | false => exact skip _ rfl (noHC (fun h => by have := h.1.2.2.2.1; rw [h5] at this; cases this))
     | true =>
      unfold armillaryref29_HighestPrepared.k5
      rw [if_neg (by decide), hget, hD, Option.bind_some]
      cases h6 : D m.f2 m.f3 with
      | none =>
       have hs := noHC (fun h => by have := h.1.2.2.2.2; rw [h6] at this; cases this)
       simp only [Option.isSome_none, Bool.false_eq_true, if_false, Option.bind_some, armillaryref29_HighestPrepared.k4, armillaryref29_HighestPrepared.k3, hs]
      | some s =>
       simp only [Option.isSome_some, if_true, Option.getD_some, Option.bind_some]
       by_cases h7 : s = m.f4
       ·have hs : hstep V D at_ st m = (m.f5, m.f2) := by
         unfold hstep
         rw [if_pos ⟨⟨h1, h2, by omega, h5, by rw [h6, h7]⟩, by omega⟩]
        have e : (s == m.f4) = true := by simpa using h7
        simp only [e, armillaryref29_HighestPrepared.k4, if_true, Option.bind_some, armillaryref29_HighestPrepared.k3, hget, hs]
       ·have hs := noHC (fun h => by have := h.1.2.2.2.2; rw [h6] at this; exact h7 (Option.some.inj this))
        have e : (s == m.f4) = false := by simpa using h7
        simp only [e, armillaryref29_HighestPrepared.k4, Bool.false_eq_true, if_false, Option.bind_some, armillaryref29_HighestPrepared.k3, hs]
  ·rw [if_pos h2, Option.bind_some]
   exact skip _ rfl (noHC (fun h => h2 h.1.2.1))
 ·rw [if_pos h1, Option.bind_some]
  exact skip _ rfl (noHC (fun h => h1 h.1.1))
theorem hpR {at_ : S24} {V : S32 → Bool} {D : Int → Int → Option Int} (hlen : l.length ≤ 1000) (hV : VB n V l) (hD : ∀ k v q, armillaryref29_Prepared.f (k + 40403) l n ⟨v, q⟩ = some ((D v q).getD 0, (D v q).isSome)) :
  ∀ (r i : Nat) (k : Nat) (st : S30 × Int), i + r = l.length → armillaryref29_HighestPrepared.l1 l n at_ (k + 40404 + r) st.1.f0 st.1.f1 st.1.f2 st.2 (i : Int) =
   some (((l.drop i).foldl (hstep V D at_) st).1.f0, ((l.drop i).foldl (hstep V D at_) st).1.f1, ((l.drop i).foldl (hstep V D at_) st).1.f2, ((l.drop i).foldl (hstep V D at_) st).2) := by
 intro r
 induction r with
 | zero =>
  intro i k st hi
  rw [show k + 40404 + 0 = (k + 40403) + 1 from by omega]
  generalize k + 40403 = K
  simp only [armillaryref29_HighestPrepared.l1]
  rw [if_neg (by omega), List.drop_of_length_le (by omega)]
  rfl
 | succ r ih =>
  intro i k st hi
  have hil : i < l.length := by omega
  have hdrop : l.drop i = l[i] :: l.drop (i + 1) := List.drop_eq_getElem_cons hil
  have hv := (hV l[i] (List.getElem_mem hil) (k + 404 + r)).2
  rw [show (k + 404 + r) + 40000 = k + 40404 + r from by omega] at hv
  have hd := hD (k + 1 + r) l[i].f2 l[i].f3
  rw [show (k + 1 + r) + 40403 = k + 40404 + r from by omega] at hd
  have hnext := ih (i + 1) k (hstep V D at_ st l[i]) (by omega)
  have hit := hpR_iter (K := k + 40404 + r) (at_ := at_) (st := st) (i := (i : Int)) (getD_at hil) hv hd
  rw [show k + 40404 + (r + 1) = (k + 40404 + r) + 1 from by omega]
  generalize k + 40404 + r = K at hnext hit
  simp only [armillaryref29_HighestPrepared.l1]
  rw [if_pos (by omega), if_pos (by omega), if_pos (by omega), getD_at hil, hit, Option.bind_some]
  simp only
  rw [W64 (by omega) (by omega), show ((i : Int) + 1) = ((i + 1 : Nat) : Int) from by omega, hnext, hdrop]
  rfl
theorem highR (h1 : 1 ≤ n) (h2 : n ≤ 13) (hV : VB n (vbN 41000 n) l) (hlen : l.length ≤ 100) (at_ : S24) :
  armillaryref29_HighestPrepared.f 41000 l n at_ = some ((l.foldl (hstep (vbN 41000 n) (decN 41000 n l 2) at_) (⟨0, ⟨#[]⟩, []⟩, -1)).1, decide ((l.foldl (hstep (vbN 41000 n) (decN 41000 n l 2) at_) (⟨0, ⟨#[]⟩, []⟩, -1)).2 ≥ 0)) := by
 unfold armillaryref29_HighestPrepared.f
 have := hpR (at_ := at_) (V := vbN 41000 n) (D := decN 41000 n l 2) (by omega) hV (fun k v q => prepR h1 h2 hV hlen ⟨v, q⟩ k) l.length 0 (596 - l.length) ((⟨0, ⟨#[]⟩, []⟩ : S30), (-1 : Int)) (by omega)
 rw [show 596 - l.length + 40404 + l.length = 41000 from by omega, show ((0 : Nat) : Int) = 0 from rfl, List.drop_zero] at this
 simp only at this
 rw [this, Option.bind_some]
 unfold armillaryref29_HighestPrepared.k1
 rfl
end
end Go.Proofs.Ytieakigoinebdaa.refq
namespace Go.Proofs.Ytieakigoinebdaa
open Go Go.Proofs.Ytieakigoinebdaa.RW enc refq
set_option linter.unusedVariables false
set_option maxRecDepth 1000000
theorem sane3 : armillarylaw29_sanity.f 41000 = some true := by kernel_rfl
theorem num13c {x : Int} (h : (Lit.int .u8 x).wf = true) : 1 ≤ W .i64 (1 + W .i64 (x.tmod 13)) ∧ W .i64 (1 + W .i64 (x.tmod 13)) ≤ 13 := by
 have : 0 ≤ x ∧ x ≤ 255 := by simpa [Lit.wf, IntKind.min, IntKind.max, IntKind.signed, IntKind.bits] using h
 rw [Int.tmod_eq_emod_of_nonneg this.1, W64 (n := x % 13) (by omega) (by omega), W64 (by omega) (by omega)]
 omega
theorem wf_u32c {x : Int} (h : (Lit.int .u32 x).wf = true) : 0 ≤ x := by
 have : 0 ≤ x ∧ x ≤ 4294967295 := by simpa [Lit.wf, IntKind.min, IntKind.max, IntKind.signed, IntKind.bits] using h
 exact this.1
theorem wf_byte {x : Int} (h : (Lit.int .u8 x).wf = true) : byte x := by simpa [byte, Lit.wf, IntKind.min, IntKind.max, IntKind.signed, IntKind.bits] using h
/-- The law's last part, on a list of which both validities agree. -/
theorem last3 {n : Int} (n1 : 1 ≤ n) (n2 : n ≤ 13) {l : List S32} (hV : VB n (vbN 41000 n) l) (hlen : l.length ≤ 100) (at_ : S24) (a1 : S34) (L0 : List S32) : armillarylaw29_QuorumMatchesReference.k2 41000 a1 true (L0, n, at_) (.inl l) = some true := by
 have vl : ∀ m ∈ l, ∃ b, quorum_group_valid.f 41000 n m = some b := fun m hm => ⟨_, (hV m hm 1000).1⟩
 obtain ⟨v1, x1, y1⟩ := maxf_both a1.f1
 obtain ⟨v2, x2, y2⟩ := size_both a1.f1
 obtain ⟨v3, x3, y3⟩ := lead_both a1.f1 a1.f2
 obtain ⟨v4, x4, y4⟩ := lead_both n a1.f2
 have k1t : armillarylaw29_QuorumMatchesReference.k1 true = some true := by unfold armillarylaw29_QuorumMatchesReference.k1; rfl
 unfold armillarylaw29_QuorumMatchesReference.k2
 simp only
 rw [prepared_dec n1 n2 vl, Option.bind_some, show (41000 : Nat) = 597 + 40403 from rfl, prepR n1 n2 hV hlen at_ 597, Option.bind_some, show 597 + 40403 = 41000 from rfl, committed_dec n1 n2 vl, Option.bind_some, show (41000 : Nat) = 597 + 40403 from rfl, commR n1 n2 hV hlen at_ 597, Option.bind_some, show 597 + 40403 = 41000 from rfl, highQ n1 n2 hV hlen at_, Option.bind_some, highR n1 n2 hV hlen at_, Option.bind_some]
 rw [x1, y1, x2, y2, x3, y3, x4, y4]
 simp only [Option.bind_some, if_true, beq_self_eq_true, same_refl]
 exact k1t
theorem armillarylaw29_QuorumMatchesReference_holds (a0 : S26) (a1 : S34) (h0 : p26 a0) (h1 : p34 a1) : ∃ k, armillarylaw29_QuorumMatchesReference.f k a0 a1 = some true := by
 refine ⟨41000, ?_⟩
 obtain ⟨n1, n2⟩ := num13c h0.2.1
 obtain ⟨n, hn⟩ : ∃ n, W .i64 (1 + W .i64 (a0.f1.tmod 13)) = n := ⟨_, rfl⟩
 rw [hn] at n1 n2
 obtain ⟨L, hL1, hL2, hL3⟩ := madeAll_ok a0.f0 (fun m hm => wf_u32c (h0.1 m hm).2.2.2.2.1) n1 n2
 have e1 : armillarylaw29_made.f 41000 a0 = some (L, n, (⟨(bAnd .i64 a0.f2.f0 255).tmod 4, (bAnd .i64 a0.f2.f1 255).tmod 3⟩ : S24)) := by
  unfold armillarylaw29_made.f
  rw [hn, hL1 40899, Option.bind_some]
 obtain ⟨at_, hat⟩ : ∃ at_ : S24, (⟨(bAnd .i64 a0.f2.f0 255).tmod 4, (bAnd .i64 a0.f2.f1 255).tmod 3⟩ : S24) = at_ := ⟨_, rfl⟩
 rw [hat] at e1
 have toV : ∀ {m : S32}, (∀ y ∈ m.f5.f2, byte y) → ∀ k, quorum_group_valid.f (k + 40000) n m = some (vbN 41000 n m) ∧ armillaryref29_Valid.f (k + 40000) m n = some (vbN 41000 n m) := fun {m} hb => by
  obtain ⟨v, hv⟩ := valid_both (n := n) hb
  have e : vbN 41000 n m = v := by
   unfold vbN
   rw [show (41000 : Nat) = 1000 + 40000 from rfl, (hv 1000).1]
   cases v <;> simp
  intro k
  rw [e]
  exact hv k
 have hVL : VB n (vbN 41000 n) L := fun m hm k => toV (fun y hy => by rw [madeAll_body (hL1 0) m hm] at hy; cases hy) k
 unfold armillarylaw29_QuorumMatchesReference.f
 rw [sane3, Option.bind_some, e1, Option.bind_some]
 obtain ⟨c, hc⟩ : ∃ c, (if (a1.f0.f5.f2.length : Int) ≤ 30000 then (some (decide ((a1.f0.f5.f1.size : Int) ≤ 100))) else (some false)) = some c := by split <;> exact ⟨_, rfl⟩
 rw [hc, Option.bind_some]
 unfold armillarylaw29_QuorumMatchesReference.k4
 cases c with
 | false =>
  rw [if_neg (by decide), Option.bind_some]
  exact last3 n1 n2 hVL (by omega) at_ a1 L
 | true =>
  have hbx : ∀ y ∈ a1.f0.f5.f2, byte y := fun y hy => wf_byte (h1.1.2.2.2.2.2.2.2 y hy)
  obtain ⟨v, hv⟩ := valid_both (n := a1.f1) hbx
  obtain ⟨u, hu⟩ := valid_both (n := n) hbx
  have q1 : quorum_Valid.f 41000 a1.f0 a1.f1 = some v := by unfold quorum_Valid.f; rw [show (41000 : Nat) = 1000 + 40000 from rfl, (hv 1000).1]; rfl
  have q2 : quorum_Valid.f 41000 a1.f0 n = some u := by unfold quorum_Valid.f; rw [show (41000 : Nat) = 1000 + 40000 from rfl, (hu 1000).1]; rfl
  have r1 : armillaryref29_Valid.f 41000 a1.f0 a1.f1 = some v := (hv 1000).2
  have r2 : armillaryref29_Valid.f 41000 a1.f0 n = some u := (hu 1000).2
  rw [if_pos rfl, q1, Option.bind_some, r1, Option.bind_some]
  simp only [beq_self_eq_true, if_true, q2, r2, Option.bind_some, Bool.not_true]
  unfold armillarylaw29_QuorumMatchesReference.k3
  simp only [Bool.false_eq_true, if_false]
  rw [if_pos (by simp only [List.length_cons, List.length_nil]; omega), if_pos (by simp only [List.length_append, List.length_cons, List.length_nil]; omega), Option.bind_some]
  refine last3 n1 n2 ?_ (by simp only [List.length_append, List.length_cons, List.length_nil]; omega) at_ a1 L
  intro m hm k
  rcases List.mem_append.1 hm with hm | hm
  ·rcases List.mem_append.1 hm with hm | hm
   ·rw [List.mem_singleton.1 hm]; exact toV hbx k
   ·exact hVL m hm k
  ·rw [List.mem_singleton.1 hm]; exact toV hbx k
end Go.Proofs.Ytieakigoinebdaa
