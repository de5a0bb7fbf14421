/- What a function of the program computes, and the walk that shows it; made by a program of the session's out of the translation; no conditions beyond those that the theorems name. -/
import Derived.Test.YtieakigoinebdaaS
import Derived.Test.YtieakigoinebdaaC
import Derived.Test.YtieakigoinebdaaG24
import Derived.Test.YtieakigoinebdaaG37
import Derived.Test.YtieakigoinebdaaG42
import Derived.Test.YtieakigoinebdaaG44
namespace Go.Proofs.Ytieakigoinebdaa
open Go Go.Proofs.Ytieakigoinebdaa.RW
set_option linter.unusedVariables false
set_option maxRecDepth 100000
set_option maxHeartbeats 8000000

/-! ### quorum_group_valid: function 32, (armillary/quorum.group).valid -/
noncomputable def K32_0 : Code := cBody Try.f32
noncomputable def K32_1 : Code := cL K32_0
noncomputable def O32_1 : List Oper := cOps K32_1
noncomputable def K32_3 : Code := cR K32_0
noncomputable def K32_4 : Code := cL K32_3
noncomputable def K32_5 : Code := cL K32_4
noncomputable def O32_5 : List Oper := cOps K32_5
noncomputable def K32_7 : Code := cR K32_4
noncomputable def K32_8 : Code := cL K32_7
noncomputable def K32_9 : Code := cL K32_8
noncomputable def O32_9 : List Oper := cOps K32_9
noncomputable def K32_11 : Code := cR K32_8
noncomputable def K32_12 : Code := cR K32_7
noncomputable def K32_13 : Code := cR K32_3
noncomputable def K32_14 : Code := cL K32_13
noncomputable def K32_15 : Code := cL K32_14
noncomputable def O32_15 : List Oper := cOps K32_15
noncomputable def K32_17 : Code := cR K32_14
noncomputable def K32_18 : Code := cL K32_17
noncomputable def K32_19 : Code := cL K32_18
noncomputable def O32_19 : List Oper := cOps K32_19
noncomputable def K32_21 : Code := cR K32_18
noncomputable def K32_22 : Code := cL K32_21
noncomputable def K32_23 : Code := cL K32_22
noncomputable def O32_23 : List Oper := cOps K32_23
noncomputable def K32_25 : Code := cR K32_22
noncomputable def K32_26 : Code := cL K32_25
noncomputable def O32_26 : List Oper := cOps K32_26
noncomputable def K32_28 : Code := cR K32_25
noncomputable def K32_29 : Code := cR K32_21
noncomputable def K32_30 : Code := cL K32_29
noncomputable def K32_31 : Code := cL K32_30
noncomputable def O32_31 : List Oper := cOps K32_31
noncomputable def K32_33 : Code := cR K32_30
noncomputable def K32_34 : Code := cL K32_33
noncomputable def K32_35 : Code := cR K32_33
noncomputable def O32_35 : List Oper := cOps K32_35
noncomputable def K32_37 : Code := cR K32_29
noncomputable def K32_38 : Code := cL K32_37
noncomputable def K32_39 : Code := cL K32_38
noncomputable def O32_39 : List Oper := cOps K32_39
noncomputable def K32_41 : Code := cR K32_38
noncomputable def K32_42 : Code := cR K32_37
noncomputable def K32_43 : Code := cL K32_42
noncomputable def O32_43 : List Oper := cOps K32_43
noncomputable def K32_45 : Code := cR K32_42
noncomputable def K32_46 : Code := cL K32_45
noncomputable def K32_47 : Code := cL K32_46
noncomputable def O32_47 : List Oper := cOps K32_47
noncomputable def K32_49 : Code := cR K32_46
noncomputable def K32_50 : Code := cR K32_45
noncomputable def K32_51 : Code := cR K32_13
noncomputable def K32_52 : Code := cL K32_51
noncomputable def O32_52 : List Oper := cOps K32_52
noncomputable def K32_54 : Code := cR K32_51
def quorum_group_valid.k1  (x2 : Bool) : Option (Bool) := (some x2)
def quorum_group_valid.k2  (x4 : Bool) : Option (Bool) := (some x4)
def quorum_group_valid.k3 (a1 : S32) (x3 : Bool) : Option (Bool) := (if x3 = true then ((quorum_bare.f a1).bind fun t4 => (some t4)) else (if a1.f0 = 4 then (((quorum_bare.f a1).bind fun t5 => (if t5 = true then (if a1.f3 = 0 then (some (a1.f4 == 0)) else (some false)) else (some false))).bind (quorum_group_valid.k2)) else (some false)))
def quorum_group_valid.k4 (k : Nat) (a0 : Int) (a1 : S32) (x1 : Bool) : Option (Bool) := (if x1 = true then (some false) else (if a1.f0 = 1 then ((codec_EncodeEntry.f k a1.f5).bind fun t1 => ((if t1.2 = 0 then ((quorum_Leader.f a0 a1.f2).bind fun t2 => (if a1.f1 = t2 then ((codec_Checksum.f t1.1).bind fun t3 => (some (t3 == a1.f4))) else (some false))) else (some false)).bind (quorum_group_valid.k1))) else ((if a1.f0 = 2 then (some (a1.f0 == 2)) else (some (a1.f0 == 3))).bind (quorum_group_valid.k3 a1))))
def quorum_group_valid.f (k : Nat) (a0 : Int) (a1 : S32) : Option (Bool) := (((quorum_group_possible.f a0).bind fun t6 => (if t6 = true then (if a1.f1 < 0 then (some true) else (if a1.f1 ≥ a0 then (some true) else (if a1.f2 < 0 then (some true) else (if a1.f2 > 1048576 then (some true) else (if a1.f3 < 0 then (some true) else (some (decide (a1.f3 ≥ 1000)))))))) else (some true))).bind (quorum_group_valid.k4 k a0 a1))
def quorum_group_valid.Post (I : Imm) (w : World) (r : Bool) (v : Value) (w' : World) : Prop :=
  ∃ (J : Imm), v = .bool r ∧ Got w w' I J []
theorem quorum_group_valid.a32_26 : ancs O32_26 [] = [0, 1, 3, 7, 15, 7, 7, 71, 231, 511, 1023, 2047, 4095, 8191, 4095, 20479, 65535, 131071, 262143] := by kernel_rfl
theorem quorum_group_valid.a32_26o : drawOk O32_26 [0, 1, 3, 7, 15, 7, 7, 71, 231, 511, 1023, 2047, 4095, 8191, 4095, 20479, 65535, 131071, 262143] 16 = true := by kernel_rfl
noncomputable def quorum_group_valid.d1l (t2 : Int) (t3 : Int) : List Ld :=
  [⟨8, fun x => .int .i64 t2, fun x => [], fun x J => True, fun x J J' h f => trivial⟩,
    ⟨13, fun x => .int .u32 t3, fun x => [], fun x J => True, fun x J J' h f => trivial⟩]
noncomputable def quorum_group_valid.d1g  : List (Nat × ((Nat → Wt) → Value)) := [(2, fun u => .bool true), (11, fun u => .bool true)]
noncomputable def quorum_group_valid.d1q (a0 : Int) (a1 : S32) (Ap1_5_2 : Option Addr) (cp1_5_2 : Nat) (nx0 : Nat) (t1 : List Int × Int) (A1 : Option Addr) (c1 : Nat) (t2 : Int) (t3 : Int) (u : Nat → Wt) : Option (List Value × List (Nat × Value) × List (Nat × Nat)) := qSim Try.prog [] [⟨nx0, [.int .i64 a1.f0, .int .i64 a1.f1, .int .i64 a1.f2, .int .i64 a1.f3, .int .u32 a1.f4, .int .i64 a1.f5.f0, .string a1.f5.f1, .slice Ap1_5_2 a1.f5.f2.length cp1_5_2], 32⟩] O32_26 ⟨88, []⟩ (Ld.vl (quorum_group_valid.d1l t2 t3)) quorum_group_valid.d1g u [.no, .no, .no, .no, .l 0, .no, .no, .l 0, .no, .no, .no, .no, .no, .no, .no, .l 0] 0 (O32_26.take 16) [(6, .int .i64 t1.2), (5, .slice A1 t1.1.length c1), (0, .int .i64 a0), (3, .pointer (some ⟨nx0, 0, none⟩))]
noncomputable def quorum_group_valid.d1s (a0 : Int) (a1 : S32) (nx0 : Nat) (t1 : List Int × Int) (A1 : Option Addr) (c1 : Nat) (t2 : Int) (t3 : Int) (u : Nat → Wt) : List Value := [.int .i64 t1.2, .bool (t1.2 == 0), .bool true, .pointer (some ⟨nx0, 1, none⟩), .int .i64 a1.f1, .int .i64 a0, .pointer (some ⟨nx0, 2, none⟩), .int .i64 a1.f2, .int .i64 t2, .bool (a1.f1 == t2), .bool (a1.f1 == t2), .bool true, .slice A1 t1.1.length c1, .int .u32 t3, .pointer (some ⟨nx0, 4, none⟩), .int .u32 a1.f4]
noncomputable def quorum_group_valid.d1k (a0 : Int) (a1 : S32) (nx0 : Nat) (t1 : List Int × Int) (A1 : Option Addr) (c1 : Nat) (t2 : Int) (t3 : Int) (u : Nat → Wt) : List (Nat × Value) := [(66, .int .u32 a1.f4), (65, .pointer (some ⟨nx0, 4, none⟩)), (64, .int .u32 t3), (63, .slice A1 t1.1.length c1), (62, .bool true), (61, .bool (a1.f1 == t2)), (60, .bool (a1.f1 == t2)), (59, .int .i64 t2), (58, .int .i64 a1.f2), (57, .pointer (some ⟨nx0, 2, none⟩)), (56, .int .i64 a0), (55, .int .i64 a1.f1), (54, .pointer (some ⟨nx0, 1, none⟩)), (53, .bool true), (52, .bool (t1.2 == 0)), (51, .int .i64 t1.2), (6, .int .i64 t1.2), (5, .slice A1 t1.1.length c1), (0, .int .i64 a0), (3, .pointer (some ⟨nx0, 0, none⟩))]
theorem quorum_group_valid.d1v (a0 : Int) (a1 : S32) (Ap1_5_2 : Option Addr) (cp1_5_2 : Nat) (nx0 : Nat) (t1 : List Int × Int) (A1 : Option Addr) (c1 : Nat) (t2 : Int) (t3 : Int) (u : Nat → Wt) : (quorum_group_valid.d1q a0 a1 Ap1_5_2 cp1_5_2 nx0 t1 A1 c1 t2 t3 u).map (fun x => (x.1, x.2.1)) = some ((quorum_group_valid.d1s a0 a1 nx0 t1 A1 c1 t2 t3) u, (quorum_group_valid.d1k a0 a1 nx0 t1 A1 c1 t2 t3) u) := by kernel_rfl
theorem quorum_group_valid.d1e (a0 : Int) (a1 : S32) (Ap1_5_2 : Option Addr) (cp1_5_2 : Nat) (nx0 : Nat) (t1 : List Int × Int) (A1 : Option Addr) (c1 : Nat) (t2 : Int) (t3 : Int) (u : Nat → Wt) : (quorum_group_valid.d1q a0 a1 Ap1_5_2 cp1_5_2 nx0 t1 A1 c1 t2 t3 u).map (fun x => x.2.2.map (·.1)) = (quorum_group_valid.d1q a0 a1 Ap1_5_2 cp1_5_2 nx0 t1 A1 c1 t2 t3 u).map (fun x => x.2.2.map (·.2)) := by kernel_rfl
noncomputable def quorum_group_valid.d2l (t2 : Int) : List Ld :=
  [⟨8, fun x => .int .i64 t2, fun x => [], fun x J => True, fun x J J' h f => trivial⟩]
noncomputable def quorum_group_valid.d2g  : List (Nat × ((Nat → Wt) → Value)) := [(2, fun u => .bool true), (11, fun u => .bool false)]
noncomputable def quorum_group_valid.d2q (a0 : Int) (a1 : S32) (Ap1_5_2 : Option Addr) (cp1_5_2 : Nat) (nx0 : Nat) (t1 : List Int × Int) (A1 : Option Addr) (c1 : Nat) (t2 : Int) (u : Nat → Wt) : Option (List Value × List (Nat × Value) × List (Nat × Nat)) := qSim Try.prog [] [⟨nx0, [.int .i64 a1.f0, .int .i64 a1.f1, .int .i64 a1.f2, .int .i64 a1.f3, .int .u32 a1.f4, .int .i64 a1.f5.f0, .string a1.f5.f1, .slice Ap1_5_2 a1.f5.f2.length cp1_5_2], 32⟩] O32_26 ⟨88, []⟩ (Ld.vl (quorum_group_valid.d2l t2)) quorum_group_valid.d2g u [.no, .no, .no, .no, .l 0, .no, .no, .l 0, .no, .no, .no, .no, .no, .no, .no, .no] 0 (O32_26.take 16) [(6, .int .i64 t1.2), (5, .slice A1 t1.1.length c1), (0, .int .i64 a0), (3, .pointer (some ⟨nx0, 0, none⟩))]
noncomputable def quorum_group_valid.d2s (a0 : Int) (a1 : S32) (nx0 : Nat) (t1 : List Int × Int) (t2 : Int) (u : Nat → Wt) : List Value := [.int .i64 t1.2, .bool (t1.2 == 0), .bool true, .pointer (some ⟨nx0, 1, none⟩), .int .i64 a1.f1, .int .i64 a0, .pointer (some ⟨nx0, 2, none⟩), .int .i64 a1.f2, .int .i64 t2, .bool (a1.f1 == t2), .bool (a1.f1 == t2), .bool false, undef, undef, undef, undef]
noncomputable def quorum_group_valid.d2k (a0 : Int) (a1 : S32) (nx0 : Nat) (t1 : List Int × Int) (A1 : Option Addr) (c1 : Nat) (t2 : Int) (u : Nat → Wt) : List (Nat × Value) := [(66, undef), (65, undef), (64, undef), (63, undef), (62, .bool false), (61, .bool (a1.f1 == t2)), (60, .bool (a1.f1 == t2)), (59, .int .i64 t2), (58, .int .i64 a1.f2), (57, .pointer (some ⟨nx0, 2, none⟩)), (56, .int .i64 a0), (55, .int .i64 a1.f1), (54, .pointer (some ⟨nx0, 1, none⟩)), (53, .bool true), (52, .bool (t1.2 == 0)), (51, .int .i64 t1.2), (6, .int .i64 t1.2), (5, .slice A1 t1.1.length c1), (0, .int .i64 a0), (3, .pointer (some ⟨nx0, 0, none⟩))]
theorem quorum_group_valid.d2v (a0 : Int) (a1 : S32) (Ap1_5_2 : Option Addr) (cp1_5_2 : Nat) (nx0 : Nat) (t1 : List Int × Int) (A1 : Option Addr) (c1 : Nat) (t2 : Int) (u : Nat → Wt) : (quorum_group_valid.d2q a0 a1 Ap1_5_2 cp1_5_2 nx0 t1 A1 c1 t2 u).map (fun x => (x.1, x.2.1)) = some ((quorum_group_valid.d2s a0 a1 nx0 t1 t2) u, (quorum_group_valid.d2k a0 a1 nx0 t1 A1 c1 t2) u) := by kernel_rfl
theorem quorum_group_valid.d2e (a0 : Int) (a1 : S32) (Ap1_5_2 : Option Addr) (cp1_5_2 : Nat) (nx0 : Nat) (t1 : List Int × Int) (A1 : Option Addr) (c1 : Nat) (t2 : Int) (u : Nat → Wt) : (quorum_group_valid.d2q a0 a1 Ap1_5_2 cp1_5_2 nx0 t1 A1 c1 t2 u).map (fun x => x.2.2.map (·.1)) = (quorum_group_valid.d2q a0 a1 Ap1_5_2 cp1_5_2 nx0 t1 A1 c1 t2 u).map (fun x => x.2.2.map (·.2)) := by kernel_rfl
noncomputable def quorum_group_valid.d3l  : List Ld :=
  []
noncomputable def quorum_group_valid.d3g  : List (Nat × ((Nat → Wt) → Value)) := [(2, fun u => .bool false)]
noncomputable def quorum_group_valid.d3q (a0 : Int) (a1 : S32) (Ap1_5_2 : Option Addr) (cp1_5_2 : Nat) (nx0 : Nat) (t1 : List Int × Int) (A1 : Option Addr) (c1 : Nat) (u : Nat → Wt) : Option (List Value × List (Nat × Value) × List (Nat × Nat)) := qSim Try.prog [] [⟨nx0, [.int .i64 a1.f0, .int .i64 a1.f1, .int .i64 a1.f2, .int .i64 a1.f3, .int .u32 a1.f4, .int .i64 a1.f5.f0, .string a1.f5.f1, .slice Ap1_5_2 a1.f5.f2.length cp1_5_2], 32⟩] O32_26 ⟨88, []⟩ (Ld.vl quorum_group_valid.d3l) quorum_group_valid.d3g u [.no, .no, .no, .no, .no, .no, .no, .no, .no, .no, .no, .no, .no, .no, .no, .no] 0 (O32_26.take 16) [(6, .int .i64 t1.2), (5, .slice A1 t1.1.length c1), (0, .int .i64 a0), (3, .pointer (some ⟨nx0, 0, none⟩))]
noncomputable def quorum_group_valid.d3s (t1 : List Int × Int) (u : Nat → Wt) : List Value := [.int .i64 t1.2, .bool (t1.2 == 0), .bool false, undef, undef, undef, undef, undef, undef, undef, .bool false, .bool false, undef, undef, undef, undef]
noncomputable def quorum_group_valid.d3k (a0 : Int) (nx0 : Nat) (t1 : List Int × Int) (A1 : Option Addr) (c1 : Nat) (u : Nat → Wt) : List (Nat × Value) := [(66, undef), (65, undef), (64, undef), (63, undef), (62, .bool false), (61, .bool false), (60, undef), (59, undef), (58, undef), (57, undef), (56, undef), (55, undef), (54, undef), (53, .bool false), (52, .bool (t1.2 == 0)), (51, .int .i64 t1.2), (6, .int .i64 t1.2), (5, .slice A1 t1.1.length c1), (0, .int .i64 a0), (3, .pointer (some ⟨nx0, 0, none⟩))]
theorem quorum_group_valid.d3v (a0 : Int) (a1 : S32) (Ap1_5_2 : Option Addr) (cp1_5_2 : Nat) (nx0 : Nat) (t1 : List Int × Int) (A1 : Option Addr) (c1 : Nat) (u : Nat → Wt) : (quorum_group_valid.d3q a0 a1 Ap1_5_2 cp1_5_2 nx0 t1 A1 c1 u).map (fun x => (x.1, x.2.1)) = some ((quorum_group_valid.d3s t1) u, (quorum_group_valid.d3k a0 nx0 t1 A1 c1) u) := by kernel_rfl
theorem quorum_group_valid.d3e (a0 : Int) (a1 : S32) (Ap1_5_2 : Option Addr) (cp1_5_2 : Nat) (nx0 : Nat) (t1 : List Int × Int) (A1 : Option Addr) (c1 : Nat) (u : Nat → Wt) : (quorum_group_valid.d3q a0 a1 Ap1_5_2 cp1_5_2 nx0 t1 A1 c1 u).map (fun x => x.2.2.map (·.1)) = (quorum_group_valid.d3q a0 a1 Ap1_5_2 cp1_5_2 nx0 t1 A1 c1 u).map (fun x => x.2.2.map (·.2)) := by kernel_rfl
theorem quorum_group_valid.calls (k : Nat) (I0 : Imm) (a0 : Int) (a1 : S32) (Ap1_5_2 : Option Addr) (cp1_5_2 : Nat) (w : World) (hI : I0.at_ w) (hlp1_5_2 : a1.f5.f2.length ≤ cp1_5_2) (hrp1_5_2 : Rd (Ty.int .u8) I0 Ap1_5_2 a1.f5.f2) (r : Bool) (h : quorum_group_valid.f k a0 a1 = some r) :
    Calls Try.prog 32 [.int .i64 a0, .agg #[.int .i64 a1.f0, .int .i64 a1.f1, .int .i64 a1.f2, .int .i64 a1.f3, .int .u32 a1.f4, .int .i64 a1.f5.f0, .string a1.f5.f1, .slice Ap1_5_2 a1.f5.f2.length cp1_5_2]].toArray w fun e w' => ∃ v, e = .returned v ∧ quorum_group_valid.Post I0 w r v w' := by
  have H : (((quorum_group_possible.f a0).bind fun t6 => (if t6 = true then (if a1.f1 < 0 then (some true) else (if a1.f1 ≥ a0 then (some true) else (if a1.f2 < 0 then (some true) else (if a1.f2 > 1048576 then (some true) else (if a1.f3 < 0 then (some true) else (some (decide (a1.f3 ≥ 1000)))))))) else (some true))).bind (quorum_group_valid.k4 k a0 a1)) = some r := h
  clear h
  refine calls_body Try.func32 (by kernel_rfl) 88 (by kernel_rfl) (by kernel_rfl) ⟨w, fun _ => False, I0⟩ I0 [] [(0, .int .i64 a0), (1, .agg #[.int .i64 a1.f0, .int .i64 a1.f1, .int .i64 a1.f2, .int .i64 a1.f3, .int .u32 a1.f4, .int .i64 a1.f5.f0, .string a1.f5.f1, .slice Ap1_5_2 a1.f5.f2.length cp1_5_2])] (by kernel_rfl) (Sat.start w _ I0 hI) ?_
  generalize w.heap.size = nx0
  show OK _ K32_0 _ _ _ _ _ _ _ _
  refine OK.seq K32_1 K32_3 (by kernel_rfl) ?_
  refine OK.region 0 O32_1 (by kernel_rfl) ?_
  refine RL.simP (K' := [(3, .pointer (some ⟨nx0, 0, none⟩)), (0, .int .i64 a0)]) (nx' := nx0 + 1) (L' := [⟨nx0, [.int .i64 a1.f0, .int .i64 a1.f1, .int .i64 a1.f2, .int .i64 a1.f3, .int .u32 a1.f4, .int .i64 a1.f5.f0, .string a1.f5.f1, .slice Ap1_5_2 a1.f5.f2.length cp1_5_2], 32⟩]) [] (RFacts.nil _ _ _) 2 [.no, .no] (by kernel_rfl) (by kernel_rfl) ?_
  refine RL.nil (by kernel_rfl) ?_
  refine QN.then_ ?_
  refine OK.seq K32_4 K32_13 (by kernel_rfl) ?_
  refine OK.seq K32_5 K32_7 (by kernel_rfl) ?_
  refine OK.join (fun K' I' _ L' X' => ∃ (x1 : Bool), K' = [(0, .int .i64 a0), (3, .pointer (some ⟨nx0, 0, none⟩)), (40, .bool x1)] ∧ L' = [⟨nx0, [.int .i64 a1.f0, .int .i64 a1.f1, .int .i64 a1.f2, .int .i64 a1.f3, .int .u32 a1.f4, .int .i64 a1.f5.f0, .string a1.f5.f1, .slice Ap1_5_2 a1.f5.f2.length cp1_5_2], 32⟩] ∧ X' = [] ∧ Imm.le I0 I' ∧ quorum_group_valid.k4 k a0 a1 x1 = some r) ?_ ?_
  · rintro _ I1 nx1 _ _ ⟨x1, rfl, rfl, rfl, hi1, H⟩
    replace H : (if x1 = true then (some false) else (if a1.f0 = 1 then ((codec_EncodeEntry.f k a1.f5).bind fun t1 => ((if t1.2 = 0 then ((quorum_Leader.f a0 a1.f2).bind fun t2 => (if a1.f1 = t2 then ((codec_Checksum.f t1.1).bind fun t3 => (some (t3 == a1.f4))) else (some false))) else (some false)).bind (quorum_group_valid.k1))) else ((if a1.f0 = 2 then (some (a1.f0 == 2)) else (some (a1.f0 == 3))).bind (quorum_group_valid.k3 a1)))) = some r := H
    refine QN.then_ ?_
    refine OK.cond (.tmp 40) K32_8 K32_12 x1 (by kernel_rfl) (by kernel_rfl) (by kernel_rfl) (fun hb => ?_) (fun hb => ?_)
    · skip
      have hc := hb
      rw [if_pos hc] at H
      clear hb
      refine OK.seq K32_9 K32_11 (by kernel_rfl) ?_
      refine OK.region 2 O32_9 (by kernel_rfl) ?_
      refine RL.simP (K' := [(4, .bool false)]) (nx' := nx1) (L' := [⟨nx0, [.int .i64 a1.f0, .int .i64 a1.f1, .int .i64 a1.f2, .int .i64 a1.f3, .int .u32 a1.f4, .int .i64 a1.f5.f0, .string a1.f5.f1, .slice Ap1_5_2 a1.f5.f2.length cp1_5_2], 32⟩]) [] (RFacts.nil _ _ _) 1 [.no] (by kernel_rfl) (by kernel_rfl) ?_
      refine RL.nil (by kernel_rfl) ?_
      refine QN.then_ ?_
      refine OK.ret (by kernel_rfl) ?_
      refine QN.thenR ?_
      obtain rfl := Option.some.inj H
      refine QN.body rfl [] (RFacts.nil _ _ _) (.no) (.bool false) (by kernel_rfl) (by kernel_rfl) (by kernel_rfl) ?_ _ (.inr rfl)
      exact fun w' hs' => ⟨_, rfl, I1, rfl, hs'.got _ .slnil⟩
    · skip
      have hc := (Bool.eq_false_iff.1 hb)
      rw [if_neg hc] at H
      clear hb
      refine OK.skip (by kernel_rfl) ?_
      refine QN.then_ ?_
      refine OK.seq K32_14 K32_51 (by kernel_rfl) ?_
      refine OK.seq K32_15 K32_17 (by kernel_rfl) ?_
      refine OK.region 3 O32_15 (by kernel_rfl) ?_
      refine RL.simP (K' := [(42, .int .i64 a1.f0), (0, .int .i64 a0), (3, .pointer (some ⟨nx0, 0, none⟩))]) (nx' := nx1) (L' := [⟨nx0, [.int .i64 a1.f0, .int .i64 a1.f1, .int .i64 a1.f2, .int .i64 a1.f3, .int .u32 a1.f4, .int .i64 a1.f5.f0, .string a1.f5.f1, .slice Ap1_5_2 a1.f5.f2.length cp1_5_2], 32⟩]) [] (RFacts.nil _ _ _) 2 [.no, .l 0] (by kernel_rfl) (by kernel_rfl) ?_
      refine RL.nil (by kernel_rfl) ?_
      refine QN.then_ ?_
      refine OK.block 0 K32_18 (by kernel_rfl) ?_
      refine OK.seq K32_19 K32_21 (by kernel_rfl) ?_
      refine OK.region 4 O32_19 (by kernel_rfl) ?_
      refine RL.simP (K' := [(43, .bool (a1.f0 == 1)), (42, .int .i64 a1.f0), (0, .int .i64 a0), (3, .pointer (some ⟨nx0, 0, none⟩))]) (nx' := nx1) (L' := [⟨nx0, [.int .i64 a1.f0, .int .i64 a1.f1, .int .i64 a1.f2, .int .i64 a1.f3, .int .u32 a1.f4, .int .i64 a1.f5.f0, .string a1.f5.f1, .slice Ap1_5_2 a1.f5.f2.length cp1_5_2], 32⟩]) [] (RFacts.nil _ _ _) 2 [.no, .no] (by kernel_rfl) (by kernel_rfl) ?_
      refine RL.nil (by kernel_rfl) ?_
      refine QN.then_ ?_
      refine OK.cond (.tmp 43) K32_22 K32_29 (a1.f0 == 1) (by kernel_rfl) (by kernel_rfl) (by kernel_rfl) (fun hb => ?_) (fun hb => ?_)
      · skip
        have hc := (beq_iff_eq.1 hb)
        rw [if_pos hc] at H
        clear hb
        refine OK.seq K32_23 K32_25 (by kernel_rfl) ?_
        refine OK.region 5 O32_23 (by kernel_rfl) ?_
        refine RL.simP (K' := [(47, .agg #[.int .i64 a1.f5.f0, .string a1.f5.f1, .slice Ap1_5_2 a1.f5.f2.length cp1_5_2]), (0, .int .i64 a0), (3, .pointer (some ⟨nx0, 0, none⟩))]) (nx' := nx1) (L' := [⟨nx0, [.int .i64 a1.f0, .int .i64 a1.f1, .int .i64 a1.f2, .int .i64 a1.f3, .int .u32 a1.f4, .int .i64 a1.f5.f0, .string a1.f5.f1, .slice Ap1_5_2 a1.f5.f2.length cp1_5_2], 32⟩]) [] (RFacts.nil _ _ _) 2 [.no, .l 0] (by kernel_rfl) (by kernel_rfl) ?_
        obtain ⟨t1, hA1, H⟩ := Option.bind_eq_some_iff.mp H
        refine RL.callP 42 [.agg #[.int .i64 a1.f5.f0, .string a1.f5.f1, .slice Ap1_5_2 a1.f5.f2.length cp1_5_2]] (some 48) (fun w => codec_EncodeEntry.Post I1 w t1) (by kernel_rfl) (by kernel_rfl) (fun w hs => codec_EncodeEntry.calls k I1 a1.f5 Ap1_5_2 cp1_5_2 w hs.im hlp1_5_2 (Rd.ext hi1 hrp1_5_2) t1 hA1) ?_
        rintro w v w' hs ⟨I2, A1, c1, cs1, rfl, hg, hp1⟩
        have hi2 := hg.le
        refine RL.resume (K' := [(48, .tuple #[.slice A1 t1.1.length c1, .int .i64 t1.2]), (47, .agg #[.int .i64 a1.f5.f0, .string a1.f5.f1, .slice Ap1_5_2 a1.f5.f2.length cp1_5_2]), (0, .int .i64 a0), (3, .pointer (some ⟨nx0, 0, none⟩))]) (X' := [orow 5 1 A1 t1.1.length c1 cs1]) (by kernel_rfl) (hs.call hg) ?_
        clear hs hg
        generalize w'.heap.size = nx2
        clear w w'
        refine RL.simP (K' := [(6, .int .i64 t1.2), (5, .slice A1 t1.1.length c1), (0, .int .i64 a0), (3, .pointer (some ⟨nx0, 0, none⟩))]) (nx' := nx2) (L' := [⟨nx0, [.int .i64 a1.f0, .int .i64 a1.f1, .int .i64 a1.f2, .int .i64 a1.f3, .int .u32 a1.f4, .int .i64 a1.f5.f0, .string a1.f5.f1, .slice Ap1_5_2 a1.f5.f2.length cp1_5_2], 32⟩]) [] (RFacts.nil _ _ _) 5 [.no, .no, .no, .no, .no] (by kernel_rfl) (by kernel_rfl) ?_
        refine RL.nil (by kernel_rfl) ?_
        refine QN.then_ ?_
        refine OK.seq K32_26 K32_28 (by kernel_rfl) ?_
        refine OK.join (fun K' I' _ L' X' => ∃ (x2 : Bool), K' = [(4, .bool x2)] ∧ L' = [⟨nx0, [.int .i64 a1.f0, .int .i64 a1.f1, .int .i64 a1.f2, .int .i64 a1.f3, .int .u32 a1.f4, .int .i64 a1.f5.f0, .string a1.f5.f1, .slice Ap1_5_2 a1.f5.f2.length cp1_5_2], 32⟩] ∧ X' = [] ∧ Imm.le I2 I' ∧ quorum_group_valid.k1 x2 = some r) ?_ ?_
        · rintro _ I3 nx3 _ _ ⟨x2, rfl, rfl, rfl, hi3, H⟩
          replace H : (some x2) = some r := H
          refine QN.then_ ?_
          refine OK.ret (by kernel_rfl) ?_
          refine QN.blkR ?_
          refine QN.thenR ?_
          obtain rfl := Option.some.inj H
          refine QN.body rfl [] (RFacts.nil _ _ _) (.no) (.bool x2) (by kernel_rfl) (by kernel_rfl) (by kernel_rfl) ?_ _ (.inr rfl)
          exact fun w' hs' => ⟨_, rfl, I3, rfl, hs'.got _ .slnil⟩
        · intro Q_1 hJ2 hQ2
          obtain ⟨y2, H, HK2⟩ := Option.bind_eq_some_iff.mp H
          refine OK.cases (t1.2 == 0) (fun hb1 => ?_) (fun hb1 => ?_)
          · have hc1 := (beq_iff_eq.1 hb1)
            rw [if_pos hc1] at H
            obtain ⟨t2, hA2, H⟩ := Option.bind_eq_some_iff.mp H
            refine OK.cases (a1.f1 == t2) (fun hb2 => ?_) (fun hb2 => ?_)
            · have hc2 := (beq_iff_eq.1 hb2)
              rw [if_pos hc2] at H
              refine OK.freeze (e := 5) (sz := 1) (S := A1) (n := t1.1.length) (cap := c1) 0 (by kernel_rfl) hp1 rfl (fun _ h => h.elim) (fun I4 hi4 hl1 hr1 => ?_)
              skip
              obtain ⟨t3, hA3, H⟩ := Option.bind_eq_some_iff.mp H
              refine OK.drawnC 6 16 O32_26 [0, 1, 3, 7, 15, 7, 7, 71, 231, 511, 1023, 2047, 4095, 8191, 4095, 20479, 65535, 131071, 262143] (by kernel_rfl) (by kernel_rfl) (quorum_group_valid.d1l t2 t3) quorum_group_valid.d1g [] (RI.nil _) [.no, .no, .no, .no, .l 0, .no, .no, .l 0, .no, .no, .no, .no, .no, .no, .no, .l 0] quorum_group_valid.a32_26 quorum_group_valid.a32_26o (by kernel_rfl) (by kernel_rfl) (quorum_group_valid.d1s a0 a1 nx0 t1 A1 c1 t2 t3) (quorum_group_valid.d1k a0 a1 nx0 t1 A1 c1 t2 t3) (quorum_group_valid.d1v a0 a1 Ap1_5_2 cp1_5_2 nx0 t1 A1 c1 t2 t3) (quorum_group_valid.d1e a0 a1 Ap1_5_2 cp1_5_2 nx0 t1 A1 c1 t2 t3) [fun u => [(58, .int .i64 a1.f2), (57, .pointer (some ⟨nx0, 2, none⟩)), (56, .int .i64 a0), (55, .int .i64 a1.f1), (54, .pointer (some ⟨nx0, 1, none⟩)), (53, .bool true), (52, .bool (t1.2 == 0)), (51, .int .i64 t1.2), (6, .int .i64 t1.2), (5, .slice A1 t1.1.length c1), (0, .int .i64 a0), (3, .pointer (some ⟨nx0, 0, none⟩))], fun u => [(63, .slice A1 t1.1.length c1), (62, .bool true), (61, .bool (a1.f1 == t2)), (60, .bool (a1.f1 == t2)), (59, .int .i64 t2), (58, .int .i64 a1.f2), (57, .pointer (some ⟨nx0, 2, none⟩)), (56, .int .i64 a0), (55, .int .i64 a1.f1), (54, .pointer (some ⟨nx0, 1, none⟩)), (53, .bool true), (52, .bool (t1.2 == 0)), (51, .int .i64 t1.2), (6, .int .i64 t1.2), (5, .slice A1 t1.1.length c1), (0, .int .i64 a0), (3, .pointer (some ⟨nx0, 0, none⟩))]] (framesOk.cons (fun u => by kernel_rfl) (framesOk.cons (fun u => by kernel_rfl) framesOk.nil)) ?_ [fun u => [(52, .bool (t1.2 == 0)), (51, .int .i64 t1.2), (6, .int .i64 t1.2), (5, .slice A1 t1.1.length c1), (0, .int .i64 a0), (3, .pointer (some ⟨nx0, 0, none⟩))], fun u => [(61, .bool (a1.f1 == t2)), (60, .bool (a1.f1 == t2)), (59, .int .i64 t2), (58, .int .i64 a1.f2), (57, .pointer (some ⟨nx0, 2, none⟩)), (56, .int .i64 a0), (55, .int .i64 a1.f1), (54, .pointer (some ⟨nx0, 1, none⟩)), (53, .bool true), (52, .bool (t1.2 == 0)), (51, .int .i64 t1.2), (6, .int .i64 t1.2), (5, .slice A1 t1.1.length c1), (0, .int .i64 a0), (3, .pointer (some ⟨nx0, 0, none⟩))]] (framesOk.cons (fun u => by kernel_rfl) (framesOk.cons (fun u => by kernel_rfl) framesOk.nil)) ?_ ?_
              · refine LoudsG.cons ?_ (LoudsG.cons ?_ (LoudsG.nil))
                · intro D u J w hp hJ hs hF
                  refine Does.call 24 [.int .i64 a0, .int .i64 a1.f2] (by kernel_rfl) ((quorum_Leader.calls J a0 a1.f2 w hs.im  t2 hA2).mono ?_)
                  rintro e w' ⟨v, rfl, J2, rfl, hg⟩
                  exact ⟨_, rfl, fun _ => (none, 0, []), J2, rfl, hg, trivial⟩
                · intro D u J w hp hJ hs hF
                  refine Does.call 43 [.slice A1 t1.1.length c1] (by kernel_rfl) ((codec_Checksum.calls J t1.1 A1 c1 w hs.im hl1 (Rd.ext hJ hr1) t3 hA3).mono ?_)
                  rintro e w' ⟨v, rfl, J2, rfl, hg⟩
                  exact ⟨_, rfl, fun _ => (none, 0, []), J2, rfl, hg, trivial⟩
              · refine Givens.cons (fun u w =>  ?_) (fun _ _ _ => rfl) (Givens.cons (fun u w =>  ?_) (fun _ _ _ => rfl) (Givens.nil))
                · exact giv_run (v := .bool (t1.2 == 0)) (by kernel_rfl) (by rw [hb1]; try rfl) w
                · exact giv_run (v := .bool (a1.f1 == t2)) (by kernel_rfl) (by rw [hb2]; try rfl) w
              intro u I5 nx4 hi5 hF
              clear hF
              show RL _ _ _ 16 _ [(66, .int .u32 a1.f4), (65, .pointer (some ⟨nx0, 4, none⟩)), (64, .int .u32 t3), (63, .slice A1 t1.1.length c1), (62, .bool true), (61, .bool (a1.f1 == t2)), (60, .bool (a1.f1 == t2)), (59, .int .i64 t2), (58, .int .i64 a1.f2), (57, .pointer (some ⟨nx0, 2, none⟩)), (56, .int .i64 a0), (55, .int .i64 a1.f1), (54, .pointer (some ⟨nx0, 1, none⟩)), (53, .bool true), (52, .bool (t1.2 == 0)), (51, .int .i64 t1.2), (6, .int .i64 t1.2), (5, .slice A1 t1.1.length c1), (0, .int .i64 a0), (3, .pointer (some ⟨nx0, 0, none⟩))] _ _ _ [⟨nx0, [.int .i64 a1.f0, .int .i64 a1.f1, .int .i64 a1.f2, .int .i64 a1.f3, .int .u32 a1.f4, .int .i64 a1.f5.f0, .string a1.f5.f1, .slice Ap1_5_2 a1.f5.f2.length cp1_5_2], 32⟩] []
              clear u
              refine RL.simP (K' := [(4, .bool (t3 == a1.f4))]) (nx' := nx4) (L' := [⟨nx0, [.int .i64 a1.f0, .int .i64 a1.f1, .int .i64 a1.f2, .int .i64 a1.f3, .int .u32 a1.f4, .int .i64 a1.f5.f0, .string a1.f5.f1, .slice Ap1_5_2 a1.f5.f2.length cp1_5_2], 32⟩]) [] (RFacts.nil _ _ _) 3 [.no, .no, .no] (by kernel_rfl) (by kernel_rfl) ?_
              refine RL.nil (by kernel_rfl) ?_
              obtain rfl := Option.some.inj H
              refine QN.sub (K' := [(4, .bool (t3 == a1.f4))]) (L' := [⟨nx0, [.int .i64 a1.f0, .int .i64 a1.f1, .int .i64 a1.f2, .int .i64 a1.f3, .int .u32 a1.f4, .int .i64 a1.f5.f0, .string a1.f5.f1, .slice Ap1_5_2 a1.f5.f2.length cp1_5_2], 32⟩]) (by kernel_rfl) (.cons_cons _ .slnil) (.refl _) ?_
              exact hJ2 _ _ _ _ _ ⟨(t3 == a1.f4), rfl, rfl, rfl, (Imm.le_trans hi4 hi5), HK2⟩
            · have hc2 := (beq_eq_false_iff_ne.1 hb2)
              rw [if_neg hc2] at H
              refine OK.drawnC 6 16 O32_26 [0, 1, 3, 7, 15, 7, 7, 71, 231, 511, 1023, 2047, 4095, 8191, 4095, 20479, 65535, 131071, 262143] (by kernel_rfl) (by kernel_rfl) (quorum_group_valid.d2l t2) quorum_group_valid.d2g [] (RI.nil _) [.no, .no, .no, .no, .l 0, .no, .no, .l 0, .no, .no, .no, .no, .no, .no, .no, .no] quorum_group_valid.a32_26 quorum_group_valid.a32_26o (by kernel_rfl) (by kernel_rfl) (quorum_group_valid.d2s a0 a1 nx0 t1 t2) (quorum_group_valid.d2k a0 a1 nx0 t1 A1 c1 t2) (quorum_group_valid.d2v a0 a1 Ap1_5_2 cp1_5_2 nx0 t1 A1 c1 t2) (quorum_group_valid.d2e a0 a1 Ap1_5_2 cp1_5_2 nx0 t1 A1 c1 t2) [fun u => [(58, .int .i64 a1.f2), (57, .pointer (some ⟨nx0, 2, none⟩)), (56, .int .i64 a0), (55, .int .i64 a1.f1), (54, .pointer (some ⟨nx0, 1, none⟩)), (53, .bool true), (52, .bool (t1.2 == 0)), (51, .int .i64 t1.2), (6, .int .i64 t1.2), (5, .slice A1 t1.1.length c1), (0, .int .i64 a0), (3, .pointer (some ⟨nx0, 0, none⟩))]] (framesOk.cons (fun u => by kernel_rfl) framesOk.nil) ?_ [fun u => [(52, .bool (t1.2 == 0)), (51, .int .i64 t1.2), (6, .int .i64 t1.2), (5, .slice A1 t1.1.length c1), (0, .int .i64 a0), (3, .pointer (some ⟨nx0, 0, none⟩))], fun u => [(61, .bool (a1.f1 == t2)), (60, .bool (a1.f1 == t2)), (59, .int .i64 t2), (58, .int .i64 a1.f2), (57, .pointer (some ⟨nx0, 2, none⟩)), (56, .int .i64 a0), (55, .int .i64 a1.f1), (54, .pointer (some ⟨nx0, 1, none⟩)), (53, .bool true), (52, .bool (t1.2 == 0)), (51, .int .i64 t1.2), (6, .int .i64 t1.2), (5, .slice A1 t1.1.length c1), (0, .int .i64 a0), (3, .pointer (some ⟨nx0, 0, none⟩))]] (framesOk.cons (fun u => by kernel_rfl) (framesOk.cons (fun u => by kernel_rfl) framesOk.nil)) ?_ ?_
              · refine LoudsG.cons ?_ (LoudsG.nil)
                · intro D u J w hp hJ hs hF
                  refine Does.call 24 [.int .i64 a0, .int .i64 a1.f2] (by kernel_rfl) ((quorum_Leader.calls J a0 a1.f2 w hs.im  t2 hA2).mono ?_)
                  rintro e w' ⟨v, rfl, J2, rfl, hg⟩
                  exact ⟨_, rfl, fun _ => (none, 0, []), J2, rfl, hg, trivial⟩
              · refine Givens.cons (fun u w =>  ?_) (fun _ _ _ => rfl) (Givens.cons (fun u w =>  ?_) (fun _ _ _ => rfl) (Givens.nil))
                · exact giv_run (v := .bool (t1.2 == 0)) (by kernel_rfl) (by rw [hb1]; try rfl) w
                · exact giv_run (v := .bool (a1.f1 == t2)) (by kernel_rfl) (by rw [hb2]; try rfl) w
              intro u I6 nx5 hi6 hF
              clear hF
              show RL _ _ _ 16 _ [(66, undef), (65, undef), (64, undef), (63, undef), (62, .bool false), (61, .bool (a1.f1 == t2)), (60, .bool (a1.f1 == t2)), (59, .int .i64 t2), (58, .int .i64 a1.f2), (57, .pointer (some ⟨nx0, 2, none⟩)), (56, .int .i64 a0), (55, .int .i64 a1.f1), (54, .pointer (some ⟨nx0, 1, none⟩)), (53, .bool true), (52, .bool (t1.2 == 0)), (51, .int .i64 t1.2), (6, .int .i64 t1.2), (5, .slice A1 t1.1.length c1), (0, .int .i64 a0), (3, .pointer (some ⟨nx0, 0, none⟩))] _ _ _ [⟨nx0, [.int .i64 a1.f0, .int .i64 a1.f1, .int .i64 a1.f2, .int .i64 a1.f3, .int .u32 a1.f4, .int .i64 a1.f5.f0, .string a1.f5.f1, .slice Ap1_5_2 a1.f5.f2.length cp1_5_2], 32⟩] [orow 5 1 A1 t1.1.length c1 cs1]
              clear u
              refine RL.simP (K' := [(4, .bool false)]) (nx' := nx5) (L' := [⟨nx0, [.int .i64 a1.f0, .int .i64 a1.f1, .int .i64 a1.f2, .int .i64 a1.f3, .int .u32 a1.f4, .int .i64 a1.f5.f0, .string a1.f5.f1, .slice Ap1_5_2 a1.f5.f2.length cp1_5_2], 32⟩]) [] (RFacts.nil _ _ _) 3 [.no, .no, .no] (by kernel_rfl) (by kernel_rfl) ?_
              refine RL.nil (by kernel_rfl) ?_
              obtain rfl := Option.some.inj H
              refine QN.sel (K' := [(4, .bool false)]) (L' := [⟨nx0, [.int .i64 a1.f0, .int .i64 a1.f1, .int .i64 a1.f2, .int .i64 a1.f3, .int .u32 a1.f4, .int .i64 a1.f5.f0, .string a1.f5.f1, .slice Ap1_5_2 a1.f5.f2.length cp1_5_2], 32⟩]) [] (by kernel_rfl) (by kernel_rfl) (.cons_cons _ .slnil) ?_
              refine QN.norm (X' := []) rfl rfl rfl (by kernel_rfl) ?_
              exact hJ2 _ _ _ _ _ ⟨false, rfl, rfl, rfl, hi6, HK2⟩
          · have hc1 := (beq_eq_false_iff_ne.1 hb1)
            rw [if_neg hc1] at H
            refine OK.drawnC 6 16 O32_26 [0, 1, 3, 7, 15, 7, 7, 71, 231, 511, 1023, 2047, 4095, 8191, 4095, 20479, 65535, 131071, 262143] (by kernel_rfl) (by kernel_rfl) quorum_group_valid.d3l quorum_group_valid.d3g [] (RI.nil _) [.no, .no, .no, .no, .no, .no, .no, .no, .no, .no, .no, .no, .no, .no, .no, .no] quorum_group_valid.a32_26 quorum_group_valid.a32_26o (by kernel_rfl) (by kernel_rfl) (quorum_group_valid.d3s t1) (quorum_group_valid.d3k a0 nx0 t1 A1 c1) (quorum_group_valid.d3v a0 a1 Ap1_5_2 cp1_5_2 nx0 t1 A1 c1) (quorum_group_valid.d3e a0 a1 Ap1_5_2 cp1_5_2 nx0 t1 A1 c1) [] framesOk.nil ?_ [fun u => [(52, .bool (t1.2 == 0)), (51, .int .i64 t1.2), (6, .int .i64 t1.2), (5, .slice A1 t1.1.length c1), (0, .int .i64 a0), (3, .pointer (some ⟨nx0, 0, none⟩))]] (framesOk.cons (fun u => by kernel_rfl) framesOk.nil) ?_ ?_
            · refine LoudsG.nil
            · refine Givens.cons (fun u w =>  ?_) (fun _ _ _ => rfl) (Givens.nil)
              · exact giv_run (v := .bool (t1.2 == 0)) (by kernel_rfl) (by rw [hb1]; try rfl) w
            intro u I7 nx6 hi7 hF
            clear hF
            show RL _ _ _ 16 _ [(66, undef), (65, undef), (64, undef), (63, undef), (62, .bool false), (61, .bool false), (60, undef), (59, undef), (58, undef), (57, undef), (56, undef), (55, undef), (54, undef), (53, .bool false), (52, .bool (t1.2 == 0)), (51, .int .i64 t1.2), (6, .int .i64 t1.2), (5, .slice A1 t1.1.length c1), (0, .int .i64 a0), (3, .pointer (some ⟨nx0, 0, none⟩))] _ _ _ [⟨nx0, [.int .i64 a1.f0, .int .i64 a1.f1, .int .i64 a1.f2, .int .i64 a1.f3, .int .u32 a1.f4, .int .i64 a1.f5.f0, .string a1.f5.f1, .slice Ap1_5_2 a1.f5.f2.length cp1_5_2], 32⟩] [orow 5 1 A1 t1.1.length c1 cs1]
            clear u
            refine RL.simP (K' := [(4, .bool false)]) (nx' := nx6) (L' := [⟨nx0, [.int .i64 a1.f0, .int .i64 a1.f1, .int .i64 a1.f2, .int .i64 a1.f3, .int .u32 a1.f4, .int .i64 a1.f5.f0, .string a1.f5.f1, .slice Ap1_5_2 a1.f5.f2.length cp1_5_2], 32⟩]) [] (RFacts.nil _ _ _) 3 [.no, .no, .no] (by kernel_rfl) (by kernel_rfl) ?_
            refine RL.nil (by kernel_rfl) ?_
            obtain rfl := Option.some.inj H
            refine QN.sel (K' := [(4, .bool false)]) (L' := [⟨nx0, [.int .i64 a1.f0, .int .i64 a1.f1, .int .i64 a1.f2, .int .i64 a1.f3, .int .u32 a1.f4, .int .i64 a1.f5.f0, .string a1.f5.f1, .slice Ap1_5_2 a1.f5.f2.length cp1_5_2], 32⟩]) [] (by kernel_rfl) (by kernel_rfl) (.cons_cons _ .slnil) ?_
            refine QN.norm (X' := []) rfl rfl rfl (by kernel_rfl) ?_
            exact hJ2 _ _ _ _ _ ⟨false, rfl, rfl, rfl, hi7, HK2⟩
      · skip
        have hc := (beq_eq_false_iff_ne.1 hb)
        rw [if_neg hc] at H
        clear hb
        refine OK.seq K32_30 K32_37 (by kernel_rfl) ?_
        refine OK.seq K32_31 K32_33 (by kernel_rfl) ?_
        refine OK.region 7 O32_31 (by kernel_rfl) ?_
        refine RL.simP (K' := [(69, .bool (a1.f0 == 2)), (42, .int .i64 a1.f0), (3, .pointer (some ⟨nx0, 0, none⟩))]) (nx' := nx1) (L' := [⟨nx0, [.int .i64 a1.f0, .int .i64 a1.f1, .int .i64 a1.f2, .int .i64 a1.f3, .int .u32 a1.f4, .int .i64 a1.f5.f0, .string a1.f5.f1, .slice Ap1_5_2 a1.f5.f2.length cp1_5_2], 32⟩]) [] (RFacts.nil _ _ _) 2 [.no, .no] (by kernel_rfl) (by kernel_rfl) ?_
        refine RL.nil (by kernel_rfl) ?_
        refine QN.then_ ?_
        refine OK.join (fun K' I' _ L' X' => ∃ (x3 : Bool), K' = [(3, .pointer (some ⟨nx0, 0, none⟩)), (42, .int .i64 a1.f0), (69, .bool x3)] ∧ L' = [⟨nx0, [.int .i64 a1.f0, .int .i64 a1.f1, .int .i64 a1.f2, .int .i64 a1.f3, .int .u32 a1.f4, .int .i64 a1.f5.f0, .string a1.f5.f1, .slice Ap1_5_2 a1.f5.f2.length cp1_5_2], 32⟩] ∧ X' = [] ∧ Imm.le I1 I' ∧ quorum_group_valid.k3 a1 x3 = some r) ?_ ?_
        · rintro _ I8 nx7 _ _ ⟨x3, rfl, rfl, rfl, hi8, H⟩
          replace H : (if x3 = true then ((quorum_bare.f a1).bind fun t4 => (some t4)) else (if a1.f0 = 4 then (((quorum_bare.f a1).bind fun t5 => (if t5 = true then (if a1.f3 = 0 then (some (a1.f4 == 0)) else (some false)) else (some false))).bind (quorum_group_valid.k2)) else (some false))) = some r := H
          refine QN.then_ ?_
          refine OK.cond (.tmp 69) K32_38 K32_42 x3 (by kernel_rfl) (by kernel_rfl) (by kernel_rfl) (fun hb => ?_) (fun hb => ?_)
          · skip
            have hc := hb
            rw [if_pos hc] at H
            clear hb
            refine OK.seq K32_39 K32_41 (by kernel_rfl) ?_
            refine OK.region 9 O32_39 (by kernel_rfl) ?_
            refine RL.simP (K' := [(72, .agg #[.int .i64 a1.f0, .int .i64 a1.f1, .int .i64 a1.f2, .int .i64 a1.f3, .int .u32 a1.f4, .int .i64 a1.f5.f0, .string a1.f5.f1, .slice Ap1_5_2 a1.f5.f2.length cp1_5_2])]) (nx' := nx7) (L' := [⟨nx0, [.int .i64 a1.f0, .int .i64 a1.f1, .int .i64 a1.f2, .int .i64 a1.f3, .int .u32 a1.f4, .int .i64 a1.f5.f0, .string a1.f5.f1, .slice Ap1_5_2 a1.f5.f2.length cp1_5_2], 32⟩]) [] (RFacts.nil _ _ _) 1 [.l 0] (by kernel_rfl) (by kernel_rfl) ?_
            obtain ⟨t4, hA4, H⟩ := Option.bind_eq_some_iff.mp H
            refine RL.callP 44 [.agg #[.int .i64 a1.f0, .int .i64 a1.f1, .int .i64 a1.f2, .int .i64 a1.f3, .int .u32 a1.f4, .int .i64 a1.f5.f0, .string a1.f5.f1, .slice Ap1_5_2 a1.f5.f2.length cp1_5_2]] (some 73) (fun w => quorum_bare.Post I8 w t4) (by kernel_rfl) (by kernel_rfl) (fun w hs => quorum_bare.calls I8 a1 Ap1_5_2 cp1_5_2 w hs.im hlp1_5_2 (Rd.ext (Imm.le_trans hi1 hi8) hrp1_5_2) t4 hA4) ?_
            rintro w v w' hs ⟨I9, rfl, hg⟩
            have hi9 := hg.le
            refine RL.resume (K' := [(73, .bool t4), (72, .agg #[.int .i64 a1.f0, .int .i64 a1.f1, .int .i64 a1.f2, .int .i64 a1.f3, .int .u32 a1.f4, .int .i64 a1.f5.f0, .string a1.f5.f1, .slice Ap1_5_2 a1.f5.f2.length cp1_5_2])]) (X' := []) (by kernel_rfl) (hs.call hg) ?_
            clear hs hg
            generalize w'.heap.size = nx8
            clear w w'
            refine RL.simP (K' := [(4, .bool t4)]) (nx' := nx8) (L' := [⟨nx0, [.int .i64 a1.f0, .int .i64 a1.f1, .int .i64 a1.f2, .int .i64 a1.f3, .int .u32 a1.f4, .int .i64 a1.f5.f0, .string a1.f5.f1, .slice Ap1_5_2 a1.f5.f2.length cp1_5_2], 32⟩]) [] (RFacts.nil _ _ _) 1 [.no] (by kernel_rfl) (by kernel_rfl) ?_
            refine RL.nil (by kernel_rfl) ?_
            refine QN.then_ ?_
            refine OK.ret (by kernel_rfl) ?_
            refine QN.blkR ?_
            refine QN.thenR ?_
            obtain rfl := Option.some.inj H
            refine QN.body rfl [] (RFacts.nil _ _ _) (.no) (.bool t4) (by kernel_rfl) (by kernel_rfl) (by kernel_rfl) ?_ _ (.inr rfl)
            exact fun w' hs' => ⟨_, rfl, I9, rfl, hs'.got _ .slnil⟩
          · skip
            have hc := (Bool.eq_false_iff.1 hb)
            rw [if_neg hc] at H
            clear hb
            refine OK.seq K32_43 K32_45 (by kernel_rfl) ?_
            refine OK.region 10 O32_43 (by kernel_rfl) ?_
            refine RL.simP (K' := [(74, .bool (a1.f0 == 4)), (3, .pointer (some ⟨nx0, 0, none⟩))]) (nx' := nx7) (L' := [⟨nx0, [.int .i64 a1.f0, .int .i64 a1.f1, .int .i64 a1.f2, .int .i64 a1.f3, .int .u32 a1.f4, .int .i64 a1.f5.f0, .string a1.f5.f1, .slice Ap1_5_2 a1.f5.f2.length cp1_5_2], 32⟩]) [] (RFacts.nil _ _ _) 2 [.no, .no] (by kernel_rfl) (by kernel_rfl) ?_
            refine RL.nil (by kernel_rfl) ?_
            refine QN.then_ ?_
            refine OK.cond (.tmp 74) K32_46 K32_50 (a1.f0 == 4) (by kernel_rfl) (by kernel_rfl) (by kernel_rfl) (fun hb => ?_) (fun hb => ?_)
            · skip
              have hc := (beq_iff_eq.1 hb)
              rw [if_pos hc] at H
              clear hb
              refine OK.seq K32_47 K32_49 (by kernel_rfl) ?_
              refine OK.join (fun K' I' _ L' X' => ∃ (x4 : Bool), K' = [(4, .bool x4)] ∧ L' = [⟨nx0, [.int .i64 a1.f0, .int .i64 a1.f1, .int .i64 a1.f2, .int .i64 a1.f3, .int .u32 a1.f4, .int .i64 a1.f5.f0, .string a1.f5.f1, .slice Ap1_5_2 a1.f5.f2.length cp1_5_2], 32⟩] ∧ X' = [] ∧ Imm.le I8 I' ∧ quorum_group_valid.k2 x4 = some r) ?_ ?_
              · rintro _ I10 nx9 _ _ ⟨x4, rfl, rfl, rfl, hi10, H⟩
                replace H : (some x4) = some r := H
                refine QN.then_ ?_
                refine OK.ret (by kernel_rfl) ?_
                refine QN.blkR ?_
                refine QN.thenR ?_
                obtain rfl := Option.some.inj H
                refine QN.body rfl [] (RFacts.nil _ _ _) (.no) (.bool x4) (by kernel_rfl) (by kernel_rfl) (by kernel_rfl) ?_ _ (.inr rfl)
                exact fun w' hs' => ⟨_, rfl, I10, rfl, hs'.got _ .slnil⟩
              · intro Q_2 hJ4 hQ4
                obtain ⟨y4, H, HK4⟩ := Option.bind_eq_some_iff.mp H
                refine OK.region 11 O32_47 (by kernel_rfl) ?_
                refine RL.simP (K' := [(76, .agg #[.int .i64 a1.f0, .int .i64 a1.f1, .int .i64 a1.f2, .int .i64 a1.f3, .int .u32 a1.f4, .int .i64 a1.f5.f0, .string a1.f5.f1, .slice Ap1_5_2 a1.f5.f2.length cp1_5_2]), (3, .pointer (some ⟨nx0, 0, none⟩))]) (nx' := nx7) (L' := [⟨nx0, [.int .i64 a1.f0, .int .i64 a1.f1, .int .i64 a1.f2, .int .i64 a1.f3, .int .u32 a1.f4, .int .i64 a1.f5.f0, .string a1.f5.f1, .slice Ap1_5_2 a1.f5.f2.length cp1_5_2], 32⟩]) [] (RFacts.nil _ _ _) 1 [.l 0] (by kernel_rfl) (by kernel_rfl) ?_
                obtain ⟨t5, hA5, H⟩ := Option.bind_eq_some_iff.mp H
                refine RL.callP 44 [.agg #[.int .i64 a1.f0, .int .i64 a1.f1, .int .i64 a1.f2, .int .i64 a1.f3, .int .u32 a1.f4, .int .i64 a1.f5.f0, .string a1.f5.f1, .slice Ap1_5_2 a1.f5.f2.length cp1_5_2]] (some 77) (fun w => quorum_bare.Post I8 w t5) (by kernel_rfl) (by kernel_rfl) (fun w hs => quorum_bare.calls I8 a1 Ap1_5_2 cp1_5_2 w hs.im hlp1_5_2 (Rd.ext (Imm.le_trans hi1 hi8) hrp1_5_2) t5 hA5) ?_
                rintro w v w' hs ⟨I11, rfl, hg⟩
                have hi11 := hg.le
                refine RL.resume (K' := [(77, .bool t5), (76, .agg #[.int .i64 a1.f0, .int .i64 a1.f1, .int .i64 a1.f2, .int .i64 a1.f3, .int .u32 a1.f4, .int .i64 a1.f5.f0, .string a1.f5.f1, .slice Ap1_5_2 a1.f5.f2.length cp1_5_2]), (3, .pointer (some ⟨nx0, 0, none⟩))]) (X' := []) (by kernel_rfl) (hs.call hg) ?_
                clear hs hg
                generalize w'.heap.size = nx10
                clear w w'
                refine RL.simP (K' := [(78, .bool t5), (3, .pointer (some ⟨nx0, 0, none⟩))]) (nx' := nx10) (L' := [⟨nx0, [.int .i64 a1.f0, .int .i64 a1.f1, .int .i64 a1.f2, .int .i64 a1.f3, .int .u32 a1.f4, .int .i64 a1.f5.f0, .string a1.f5.f1, .slice Ap1_5_2 a1.f5.f2.length cp1_5_2], 32⟩]) [] (RFacts.nil _ _ _) 1 [.no] (by kernel_rfl) (by kernel_rfl) ?_
                refine RL.cases t5 (fun hb => ?_) (fun hb => ?_)
                · have hc := hb
                  refine RL.norm (K' := [(78, .bool true), (3, .pointer (some ⟨nx0, 0, none⟩))]) (L' := [⟨nx0, [.int .i64 a1.f0, .int .i64 a1.f1, .int .i64 a1.f2, .int .i64 a1.f3, .int .u32 a1.f4, .int .i64 a1.f5.f0, .string a1.f5.f1, .slice Ap1_5_2 a1.f5.f2.length cp1_5_2], 32⟩]) (by rw [hb]; try rfl) rfl (by first | rfl | (rw [hb]; try rfl)) rfl ?_
                  rw [if_pos hc] at H; clear hb
                  refine RL.simP (K' := [(83, .bool (a1.f3 == 0)), (3, .pointer (some ⟨nx0, 0, none⟩))]) (nx' := nx10) (L' := [⟨nx0, [.int .i64 a1.f0, .int .i64 a1.f1, .int .i64 a1.f2, .int .i64 a1.f3, .int .u32 a1.f4, .int .i64 a1.f5.f0, .string a1.f5.f1, .slice Ap1_5_2 a1.f5.f2.length cp1_5_2], 32⟩]) [] (RFacts.nil _ _ _) 5 [.no, .l 0, .no, .no, .no] (by kernel_rfl) (by kernel_rfl) ?_
                  refine RL.cases (a1.f3 == 0) (fun hb => ?_) (fun hb => ?_)
                  · have hc := (beq_iff_eq.1 hb)
                    refine RL.norm (K' := [(83, .bool true), (3, .pointer (some ⟨nx0, 0, none⟩))]) (L' := [⟨nx0, [.int .i64 a1.f0, .int .i64 a1.f1, .int .i64 a1.f2, .int .i64 a1.f3, .int .u32 a1.f4, .int .i64 a1.f5.f0, .string a1.f5.f1, .slice Ap1_5_2 a1.f5.f2.length cp1_5_2], 32⟩]) (by rw [hb]; try rfl) rfl (by first | rfl | (rw [hb]; try rfl)) rfl ?_
                    rw [if_pos hc] at H; clear hb
                    refine RL.simP (K' := [(4, .bool (a1.f4 == 0))]) (nx' := nx10) (L' := [⟨nx0, [.int .i64 a1.f0, .int .i64 a1.f1, .int .i64 a1.f2, .int .i64 a1.f3, .int .u32 a1.f4, .int .i64 a1.f5.f0, .string a1.f5.f1, .slice Ap1_5_2 a1.f5.f2.length cp1_5_2], 32⟩]) [] (RFacts.nil _ _ _) 5 [.no, .l 0, .no, .no, .no] (by kernel_rfl) (by kernel_rfl) ?_
                    refine RL.nil (by kernel_rfl) ?_
                    obtain rfl := Option.some.inj H
                    refine QN.sub (K' := [(4, .bool (a1.f4 == 0))]) (L' := [⟨nx0, [.int .i64 a1.f0, .int .i64 a1.f1, .int .i64 a1.f2, .int .i64 a1.f3, .int .u32 a1.f4, .int .i64 a1.f5.f0, .string a1.f5.f1, .slice Ap1_5_2 a1.f5.f2.length cp1_5_2], 32⟩]) (by kernel_rfl) (.cons_cons _ .slnil) (.refl _) ?_
                    exact hJ4 _ _ _ _ _ ⟨(a1.f4 == 0), rfl, rfl, rfl, hi11, HK4⟩
                  · have hc := (beq_eq_false_iff_ne.1 hb)
                    refine RL.norm (K' := [(83, .bool false), (3, .pointer (some ⟨nx0, 0, none⟩))]) (L' := [⟨nx0, [.int .i64 a1.f0, .int .i64 a1.f1, .int .i64 a1.f2, .int .i64 a1.f3, .int .u32 a1.f4, .int .i64 a1.f5.f0, .string a1.f5.f1, .slice Ap1_5_2 a1.f5.f2.length cp1_5_2], 32⟩]) (by rw [hb]; try rfl) rfl (by first | rfl | (rw [hb]; try rfl)) rfl ?_
                    rw [if_neg hc] at H; clear hb
                    refine RL.simP (K' := [(4, .bool false)]) (nx' := nx10) (L' := [⟨nx0, [.int .i64 a1.f0, .int .i64 a1.f1, .int .i64 a1.f2, .int .i64 a1.f3, .int .u32 a1.f4, .int .i64 a1.f5.f0, .string a1.f5.f1, .slice Ap1_5_2 a1.f5.f2.length cp1_5_2], 32⟩]) [] (RFacts.nil _ _ _) 5 [.no, .no, .no, .no, .no] (by kernel_rfl) (by kernel_rfl) ?_
                    refine RL.nil (by kernel_rfl) ?_
                    obtain rfl := Option.some.inj H
                    refine QN.sub (K' := [(4, .bool false)]) (L' := [⟨nx0, [.int .i64 a1.f0, .int .i64 a1.f1, .int .i64 a1.f2, .int .i64 a1.f3, .int .u32 a1.f4, .int .i64 a1.f5.f0, .string a1.f5.f1, .slice Ap1_5_2 a1.f5.f2.length cp1_5_2], 32⟩]) (by kernel_rfl) (.cons_cons _ .slnil) (.refl _) ?_
                    exact hJ4 _ _ _ _ _ ⟨false, rfl, rfl, rfl, hi11, HK4⟩
                · have hc := (Bool.eq_false_iff.1 hb)
                  refine RL.norm (K' := [(78, .bool false), (3, .pointer (some ⟨nx0, 0, none⟩))]) (L' := [⟨nx0, [.int .i64 a1.f0, .int .i64 a1.f1, .int .i64 a1.f2, .int .i64 a1.f3, .int .u32 a1.f4, .int .i64 a1.f5.f0, .string a1.f5.f1, .slice Ap1_5_2 a1.f5.f2.length cp1_5_2], 32⟩]) (by rw [hb]; try rfl) rfl (by first | rfl | (rw [hb]; try rfl)) rfl ?_
                  rw [if_neg hc] at H; clear hb
                  refine RL.simP (K' := [(4, .bool false)]) (nx' := nx10) (L' := [⟨nx0, [.int .i64 a1.f0, .int .i64 a1.f1, .int .i64 a1.f2, .int .i64 a1.f3, .int .u32 a1.f4, .int .i64 a1.f5.f0, .string a1.f5.f1, .slice Ap1_5_2 a1.f5.f2.length cp1_5_2], 32⟩]) [] (RFacts.nil _ _ _) 10 [.no, .no, .no, .no, .no, .no, .no, .no, .no, .no] (by kernel_rfl) (by kernel_rfl) ?_
                  refine RL.nil (by kernel_rfl) ?_
                  obtain rfl := Option.some.inj H
                  refine QN.sub (K' := [(4, .bool false)]) (L' := [⟨nx0, [.int .i64 a1.f0, .int .i64 a1.f1, .int .i64 a1.f2, .int .i64 a1.f3, .int .u32 a1.f4, .int .i64 a1.f5.f0, .string a1.f5.f1, .slice Ap1_5_2 a1.f5.f2.length cp1_5_2], 32⟩]) (by kernel_rfl) (.cons_cons _ .slnil) (.refl _) ?_
                  exact hJ4 _ _ _ _ _ ⟨false, rfl, rfl, rfl, hi11, HK4⟩
            · skip
              have hc := (beq_eq_false_iff_ne.1 hb)
              rw [if_neg hc] at H
              clear hb
              refine OK.skip (by kernel_rfl) ?_
              refine QN.blkN ?_
              refine QN.then_ ?_
              refine OK.seq K32_52 K32_54 (by kernel_rfl) ?_
              refine OK.region 12 O32_52 (by kernel_rfl) ?_
              refine RL.simP (K' := [(4, .bool false)]) (nx' := nx7) (L' := [⟨nx0, [.int .i64 a1.f0, .int .i64 a1.f1, .int .i64 a1.f2, .int .i64 a1.f3, .int .u32 a1.f4, .int .i64 a1.f5.f0, .string a1.f5.f1, .slice Ap1_5_2 a1.f5.f2.length cp1_5_2], 32⟩]) [] (RFacts.nil _ _ _) 1 [.no] (by kernel_rfl) (by kernel_rfl) ?_
              refine RL.nil (by kernel_rfl) ?_
              refine QN.then_ ?_
              refine OK.ret (by kernel_rfl) ?_
              obtain rfl := Option.some.inj H
              refine QN.body rfl [] (RFacts.nil _ _ _) (.no) (.bool false) (by kernel_rfl) (by kernel_rfl) (by kernel_rfl) ?_ _ (.inr rfl)
              exact fun w' hs' => ⟨_, rfl, I8, rfl, hs'.got _ .slnil⟩
        · intro Q_3 hJ3 hQ3
          obtain ⟨y3, H, HK3⟩ := Option.bind_eq_some_iff.mp H
          refine OK.cond (.tmp 69) K32_34 K32_35 (a1.f0 == 2) (by kernel_rfl) (by kernel_rfl) (by kernel_rfl) (fun hb => ?_) (fun hb => ?_)
          · skip
            have hc := (beq_iff_eq.1 hb)
            rw [if_pos hc] at H
            clear hb
            refine OK.skip (by kernel_rfl) ?_
            obtain rfl := Option.some.inj H
            refine QN.sub (K' := [(3, .pointer (some ⟨nx0, 0, none⟩)), (42, .int .i64 a1.f0), (69, .bool (a1.f0 == 2))]) (L' := [⟨nx0, [.int .i64 a1.f0, .int .i64 a1.f1, .int .i64 a1.f2, .int .i64 a1.f3, .int .u32 a1.f4, .int .i64 a1.f5.f0, .string a1.f5.f1, .slice Ap1_5_2 a1.f5.f2.length cp1_5_2], 32⟩]) (by kernel_rfl) (.cons_cons _ .slnil) (.refl _) ?_
            exact hJ3 _ _ _ _ _ ⟨(a1.f0 == 2), rfl, rfl, rfl, (Imm.le_refl _), HK3⟩
          · skip
            have hc := (beq_eq_false_iff_ne.1 hb)
            rw [if_neg hc] at H
            clear hb
            refine OK.region 8 O32_35 (by kernel_rfl) ?_
            refine RL.simP (K' := [(69, .bool (a1.f0 == 3)), (42, .int .i64 a1.f0), (3, .pointer (some ⟨nx0, 0, none⟩))]) (nx' := nx1) (L' := [⟨nx0, [.int .i64 a1.f0, .int .i64 a1.f1, .int .i64 a1.f2, .int .i64 a1.f3, .int .u32 a1.f4, .int .i64 a1.f5.f0, .string a1.f5.f1, .slice Ap1_5_2 a1.f5.f2.length cp1_5_2], 32⟩]) [] (RFacts.nil _ _ _) 2 [.no, .no] (by kernel_rfl) (by kernel_rfl) ?_
            refine RL.nil (by kernel_rfl) ?_
            obtain rfl := Option.some.inj H
            refine QN.sub (K' := [(3, .pointer (some ⟨nx0, 0, none⟩)), (42, .int .i64 a1.f0), (69, .bool (a1.f0 == 3))]) (L' := [⟨nx0, [.int .i64 a1.f0, .int .i64 a1.f1, .int .i64 a1.f2, .int .i64 a1.f3, .int .u32 a1.f4, .int .i64 a1.f5.f0, .string a1.f5.f1, .slice Ap1_5_2 a1.f5.f2.length cp1_5_2], 32⟩]) (by kernel_rfl) (.cons_cons _ .slnil) (.refl _) ?_
            exact hJ3 _ _ _ _ _ ⟨(a1.f0 == 3), rfl, rfl, rfl, (Imm.le_refl _), HK3⟩
  · intro Q_4 hJ1 hQ1
    obtain ⟨y1, H, HK1⟩ := Option.bind_eq_some_iff.mp H
    refine OK.region 1 O32_5 (by kernel_rfl) ?_
    refine RL.simP (K' := [(7, .int .i64 a0), (3, .pointer (some ⟨nx0, 0, none⟩)), (0, .int .i64 a0)]) (nx' := nx0 + 1) (L' := [⟨nx0, [.int .i64 a1.f0, .int .i64 a1.f1, .int .i64 a1.f2, .int .i64 a1.f3, .int .u32 a1.f4, .int .i64 a1.f5.f0, .string a1.f5.f1, .slice Ap1_5_2 a1.f5.f2.length cp1_5_2], 32⟩]) [] (RFacts.nil _ _ _) 1 [.no] (by kernel_rfl) (by kernel_rfl) ?_
    obtain ⟨t6, hA6, H⟩ := Option.bind_eq_some_iff.mp H
    refine RL.callP 37 [.int .i64 a0] (some 8) (fun w => quorum_group_possible.Post I0 w t6) (by kernel_rfl) (by kernel_rfl) (fun w hs => quorum_group_possible.calls I0 a0 w hs.im  t6 hA6) ?_
    rintro w v w' hs ⟨I12, rfl, hg⟩
    have hi12 := hg.le
    refine RL.resume (K' := [(8, .bool t6), (7, .int .i64 a0), (3, .pointer (some ⟨nx0, 0, none⟩)), (0, .int .i64 a0)]) (X' := []) (by kernel_rfl) (hs.call hg) ?_
    clear hs hg
    generalize w'.heap.size = nx11
    clear w w'
    refine RL.simP (K' := [(10, .bool (!t6)), (3, .pointer (some ⟨nx0, 0, none⟩)), (0, .int .i64 a0)]) (nx' := nx11) (L' := [⟨nx0, [.int .i64 a1.f0, .int .i64 a1.f1, .int .i64 a1.f2, .int .i64 a1.f3, .int .u32 a1.f4, .int .i64 a1.f5.f0, .string a1.f5.f1, .slice Ap1_5_2 a1.f5.f2.length cp1_5_2], 32⟩]) [] (RFacts.nil _ _ _) 2 [.no, .no] (by kernel_rfl) (by kernel_rfl) ?_
    refine RL.cases t6 (fun hb => ?_) (fun hb => ?_)
    · have hc := hb
      refine RL.norm (K' := [(10, .bool false), (3, .pointer (some ⟨nx0, 0, none⟩)), (0, .int .i64 a0)]) (L' := [⟨nx0, [.int .i64 a1.f0, .int .i64 a1.f1, .int .i64 a1.f2, .int .i64 a1.f3, .int .u32 a1.f4, .int .i64 a1.f5.f0, .string a1.f5.f1, .slice Ap1_5_2 a1.f5.f2.length cp1_5_2], 32⟩]) (by rw [hb]; try rfl) rfl (by first | rfl | (rw [hb]; try rfl)) rfl ?_
      rw [if_pos hc] at H; clear hb
      refine RL.simP (K' := [(15, .bool (decide (a1.f1 < 0))), (3, .pointer (some ⟨nx0, 0, none⟩)), (0, .int .i64 a0)]) (nx' := nx11) (L' := [⟨nx0, [.int .i64 a1.f0, .int .i64 a1.f1, .int .i64 a1.f2, .int .i64 a1.f3, .int .u32 a1.f4, .int .i64 a1.f5.f0, .string a1.f5.f1, .slice Ap1_5_2 a1.f5.f2.length cp1_5_2], 32⟩]) [] (RFacts.nil _ _ _) 5 [.no, .l 0, .no, .no, .no] (by kernel_rfl) (by kernel_rfl) ?_
      refine RL.cases (decide (a1.f1 < 0)) (fun hb => ?_) (fun hb => ?_)
      · have hc := (of_decide_eq_true hb)
        refine RL.norm (K' := [(15, .bool true), (3, .pointer (some ⟨nx0, 0, none⟩)), (0, .int .i64 a0)]) (L' := [⟨nx0, [.int .i64 a1.f0, .int .i64 a1.f1, .int .i64 a1.f2, .int .i64 a1.f3, .int .u32 a1.f4, .int .i64 a1.f5.f0, .string a1.f5.f1, .slice Ap1_5_2 a1.f5.f2.length cp1_5_2], 32⟩]) (by rw [hb]; try rfl) rfl (by first | rfl | (rw [hb]; try rfl)) rfl ?_
        rw [if_pos hc] at H; clear hb
        refine RL.simP (K' := [(40, .bool true), (3, .pointer (some ⟨nx0, 0, none⟩)), (0, .int .i64 a0)]) (nx' := nx11) (L' := [⟨nx0, [.int .i64 a1.f0, .int .i64 a1.f1, .int .i64 a1.f2, .int .i64 a1.f3, .int .u32 a1.f4, .int .i64 a1.f5.f0, .string a1.f5.f1, .slice Ap1_5_2 a1.f5.f2.length cp1_5_2], 32⟩]) [] (RFacts.nil _ _ _) 25 [.no, .no, .no, .no, .no, .no, .no, .no, .no, .no, .no, .no, .no, .no, .no, .no, .no, .no, .no, .no, .no, .no, .no, .no, .no] (by kernel_rfl) (by kernel_rfl) ?_
        refine RL.nil (by kernel_rfl) ?_
        obtain rfl := Option.some.inj H
        refine QN.sub (K' := [(0, .int .i64 a0), (3, .pointer (some ⟨nx0, 0, none⟩)), (40, .bool true)]) (L' := [⟨nx0, [.int .i64 a1.f0, .int .i64 a1.f1, .int .i64 a1.f2, .int .i64 a1.f3, .int .u32 a1.f4, .int .i64 a1.f5.f0, .string a1.f5.f1, .slice Ap1_5_2 a1.f5.f2.length cp1_5_2], 32⟩]) (by kernel_rfl) (.cons_cons _ .slnil) (.refl _) ?_
        exact hJ1 _ _ _ _ _ ⟨true, rfl, rfl, rfl, hi12, HK1⟩
      · have hc := (of_decide_eq_false hb)
        refine RL.norm (K' := [(15, .bool false), (3, .pointer (some ⟨nx0, 0, none⟩)), (0, .int .i64 a0)]) (L' := [⟨nx0, [.int .i64 a1.f0, .int .i64 a1.f1, .int .i64 a1.f2, .int .i64 a1.f3, .int .u32 a1.f4, .int .i64 a1.f5.f0, .string a1.f5.f1, .slice Ap1_5_2 a1.f5.f2.length cp1_5_2], 32⟩]) (by rw [hb]; try rfl) rfl (by first | rfl | (rw [hb]; try rfl)) rfl ?_
        rw [if_neg hc] at H; clear hb
        refine RL.simP (K' := [(21, .bool (decide (a1.f1 ≥ a0))), (3, .pointer (some ⟨nx0, 0, none⟩)), (0, .int .i64 a0)]) (nx' := nx11) (L' := [⟨nx0, [.int .i64 a1.f0, .int .i64 a1.f1, .int .i64 a1.f2, .int .i64 a1.f3, .int .u32 a1.f4, .int .i64 a1.f5.f0, .string a1.f5.f1, .slice Ap1_5_2 a1.f5.f2.length cp1_5_2], 32⟩]) [] (RFacts.nil _ _ _) 6 [.no, .l 0, .no, .no, .no, .no] (by kernel_rfl) (by kernel_rfl) ?_
        refine RL.cases (decide (a1.f1 ≥ a0)) (fun hb => ?_) (fun hb => ?_)
        · have hc := (of_decide_eq_true hb)
          refine RL.norm (K' := [(21, .bool true), (3, .pointer (some ⟨nx0, 0, none⟩)), (0, .int .i64 a0)]) (L' := [⟨nx0, [.int .i64 a1.f0, .int .i64 a1.f1, .int .i64 a1.f2, .int .i64 a1.f3, .int .u32 a1.f4, .int .i64 a1.f5.f0, .string a1.f5.f1, .slice Ap1_5_2 a1.f5.f2.length cp1_5_2], 32⟩]) (by rw [hb]; try rfl) rfl (by first | rfl | (rw [hb]; try rfl)) rfl ?_
          rw [if_pos hc] at H; clear hb
          refine RL.simP (K' := [(40, .bool true), (3, .pointer (some ⟨nx0, 0, none⟩)), (0, .int .i64 a0)]) (nx' := nx11) (L' := [⟨nx0, [.int .i64 a1.f0, .int .i64 a1.f1, .int .i64 a1.f2, .int .i64 a1.f3, .int .u32 a1.f4, .int .i64 a1.f5.f0, .string a1.f5.f1, .slice Ap1_5_2 a1.f5.f2.length cp1_5_2], 32⟩]) [] (RFacts.nil _ _ _) 19 [.no, .no, .no, .no, .no, .no, .no, .no, .no, .no, .no, .no, .no, .no, .no, .no, .no, .no, .no] (by kernel_rfl) (by kernel_rfl) ?_
          refine RL.nil (by kernel_rfl) ?_
          obtain rfl := Option.some.inj H
          refine QN.sub (K' := [(0, .int .i64 a0), (3, .pointer (some ⟨nx0, 0, none⟩)), (40, .bool true)]) (L' := [⟨nx0, [.int .i64 a1.f0, .int .i64 a1.f1, .int .i64 a1.f2, .int .i64 a1.f3, .int .u32 a1.f4, .int .i64 a1.f5.f0, .string a1.f5.f1, .slice Ap1_5_2 a1.f5.f2.length cp1_5_2], 32⟩]) (by kernel_rfl) (.cons_cons _ .slnil) (.refl _) ?_
          exact hJ1 _ _ _ _ _ ⟨true, rfl, rfl, rfl, hi12, HK1⟩
        · have hc := (of_decide_eq_false hb)
          refine RL.norm (K' := [(21, .bool false), (3, .pointer (some ⟨nx0, 0, none⟩)), (0, .int .i64 a0)]) (L' := [⟨nx0, [.int .i64 a1.f0, .int .i64 a1.f1, .int .i64 a1.f2, .int .i64 a1.f3, .int .u32 a1.f4, .int .i64 a1.f5.f0, .string a1.f5.f1, .slice Ap1_5_2 a1.f5.f2.length cp1_5_2], 32⟩]) (by rw [hb]; try rfl) rfl (by first | rfl | (rw [hb]; try rfl)) rfl ?_
          rw [if_neg hc] at H; clear hb
          refine RL.simP (K' := [(26, .bool (decide (a1.f2 < 0))), (3, .pointer (some ⟨nx0, 0, none⟩)), (0, .int .i64 a0)]) (nx' := nx11) (L' := [⟨nx0, [.int .i64 a1.f0, .int .i64 a1.f1, .int .i64 a1.f2, .int .i64 a1.f3, .int .u32 a1.f4, .int .i64 a1.f5.f0, .string a1.f5.f1, .slice Ap1_5_2 a1.f5.f2.length cp1_5_2], 32⟩]) [] (RFacts.nil _ _ _) 5 [.no, .l 0, .no, .no, .no] (by kernel_rfl) (by kernel_rfl) ?_
          refine RL.cases (decide (a1.f2 < 0)) (fun hb => ?_) (fun hb => ?_)
          · have hc := (of_decide_eq_true hb)
            refine RL.norm (K' := [(26, .bool true), (3, .pointer (some ⟨nx0, 0, none⟩)), (0, .int .i64 a0)]) (L' := [⟨nx0, [.int .i64 a1.f0, .int .i64 a1.f1, .int .i64 a1.f2, .int .i64 a1.f3, .int .u32 a1.f4, .int .i64 a1.f5.f0, .string a1.f5.f1, .slice Ap1_5_2 a1.f5.f2.length cp1_5_2], 32⟩]) (by rw [hb]; try rfl) rfl (by first | rfl | (rw [hb]; try rfl)) rfl ?_
            rw [if_pos hc] at H; clear hb
            refine RL.simP (K' := [(40, .bool true), (3, .pointer (some ⟨nx0, 0, none⟩)), (0, .int .i64 a0)]) (nx' := nx11) (L' := [⟨nx0, [.int .i64 a1.f0, .int .i64 a1.f1, .int .i64 a1.f2, .int .i64 a1.f3, .int .u32 a1.f4, .int .i64 a1.f5.f0, .string a1.f5.f1, .slice Ap1_5_2 a1.f5.f2.length cp1_5_2], 32⟩]) [] (RFacts.nil _ _ _) 14 [.no, .no, .no, .no, .no, .no, .no, .no, .no, .no, .no, .no, .no, .no] (by kernel_rfl) (by kernel_rfl) ?_
            refine RL.nil (by kernel_rfl) ?_
            obtain rfl := Option.some.inj H
            refine QN.sub (K' := [(0, .int .i64 a0), (3, .pointer (some ⟨nx0, 0, none⟩)), (40, .bool true)]) (L' := [⟨nx0, [.int .i64 a1.f0, .int .i64 a1.f1, .int .i64 a1.f2, .int .i64 a1.f3, .int .u32 a1.f4, .int .i64 a1.f5.f0, .string a1.f5.f1, .slice Ap1_5_2 a1.f5.f2.length cp1_5_2], 32⟩]) (by kernel_rfl) (.cons_cons _ .slnil) (.refl _) ?_
            exact hJ1 _ _ _ _ _ ⟨true, rfl, rfl, rfl, hi12, HK1⟩
          · have hc := (of_decide_eq_false hb)
            refine RL.norm (K' := [(26, .bool false), (3, .pointer (some ⟨nx0, 0, none⟩)), (0, .int .i64 a0)]) (L' := [⟨nx0, [.int .i64 a1.f0, .int .i64 a1.f1, .int .i64 a1.f2, .int .i64 a1.f3, .int .u32 a1.f4, .int .i64 a1.f5.f0, .string a1.f5.f1, .slice Ap1_5_2 a1.f5.f2.length cp1_5_2], 32⟩]) (by rw [hb]; try rfl) rfl (by first | rfl | (rw [hb]; try rfl)) rfl ?_
            rw [if_neg hc] at H; clear hb
            refine RL.simP (K' := [(31, .bool (decide (a1.f2 > 1048576))), (3, .pointer (some ⟨nx0, 0, none⟩)), (0, .int .i64 a0)]) (nx' := nx11) (L' := [⟨nx0, [.int .i64 a1.f0, .int .i64 a1.f1, .int .i64 a1.f2, .int .i64 a1.f3, .int .u32 a1.f4, .int .i64 a1.f5.f0, .string a1.f5.f1, .slice Ap1_5_2 a1.f5.f2.length cp1_5_2], 32⟩]) [] (RFacts.nil _ _ _) 5 [.no, .l 0, .no, .no, .no] (by kernel_rfl) (by kernel_rfl) ?_
            refine RL.cases (decide (a1.f2 > 1048576)) (fun hb => ?_) (fun hb => ?_)
            · have hc := (of_decide_eq_true hb)
              refine RL.norm (K' := [(31, .bool true), (3, .pointer (some ⟨nx0, 0, none⟩)), (0, .int .i64 a0)]) (L' := [⟨nx0, [.int .i64 a1.f0, .int .i64 a1.f1, .int .i64 a1.f2, .int .i64 a1.f3, .int .u32 a1.f4, .int .i64 a1.f5.f0, .string a1.f5.f1, .slice Ap1_5_2 a1.f5.f2.length cp1_5_2], 32⟩]) (by rw [hb]; try rfl) rfl (by first | rfl | (rw [hb]; try rfl)) rfl ?_
              rw [if_pos hc] at H; clear hb
              refine RL.simP (K' := [(40, .bool true), (3, .pointer (some ⟨nx0, 0, none⟩)), (0, .int .i64 a0)]) (nx' := nx11) (L' := [⟨nx0, [.int .i64 a1.f0, .int .i64 a1.f1, .int .i64 a1.f2, .int .i64 a1.f3, .int .u32 a1.f4, .int .i64 a1.f5.f0, .string a1.f5.f1, .slice Ap1_5_2 a1.f5.f2.length cp1_5_2], 32⟩]) [] (RFacts.nil _ _ _) 9 [.no, .no, .no, .no, .no, .no, .no, .no, .no] (by kernel_rfl) (by kernel_rfl) ?_
              refine RL.nil (by kernel_rfl) ?_
              obtain rfl := Option.some.inj H
              refine QN.sub (K' := [(0, .int .i64 a0), (3, .pointer (some ⟨nx0, 0, none⟩)), (40, .bool true)]) (L' := [⟨nx0, [.int .i64 a1.f0, .int .i64 a1.f1, .int .i64 a1.f2, .int .i64 a1.f3, .int .u32 a1.f4, .int .i64 a1.f5.f0, .string a1.f5.f1, .slice Ap1_5_2 a1.f5.f2.length cp1_5_2], 32⟩]) (by kernel_rfl) (.cons_cons _ .slnil) (.refl _) ?_
              exact hJ1 _ _ _ _ _ ⟨true, rfl, rfl, rfl, hi12, HK1⟩
            · have hc := (of_decide_eq_false hb)
              refine RL.norm (K' := [(31, .bool false), (3, .pointer (some ⟨nx0, 0, none⟩)), (0, .int .i64 a0)]) (L' := [⟨nx0, [.int .i64 a1.f0, .int .i64 a1.f1, .int .i64 a1.f2, .int .i64 a1.f3, .int .u32 a1.f4, .int .i64 a1.f5.f0, .string a1.f5.f1, .slice Ap1_5_2 a1.f5.f2.length cp1_5_2], 32⟩]) (by rw [hb]; try rfl) rfl (by first | rfl | (rw [hb]; try rfl)) rfl ?_
              rw [if_neg hc] at H; clear hb
              refine RL.simP (K' := [(36, .bool (decide (a1.f3 < 0))), (3, .pointer (some ⟨nx0, 0, none⟩)), (0, .int .i64 a0)]) (nx' := nx11) (L' := [⟨nx0, [.int .i64 a1.f0, .int .i64 a1.f1, .int .i64 a1.f2, .int .i64 a1.f3, .int .u32 a1.f4, .int .i64 a1.f5.f0, .string a1.f5.f1, .slice Ap1_5_2 a1.f5.f2.length cp1_5_2], 32⟩]) [] (RFacts.nil _ _ _) 5 [.no, .l 0, .no, .no, .no] (by kernel_rfl) (by kernel_rfl) ?_
              refine RL.cases (decide (a1.f3 < 0)) (fun hb => ?_) (fun hb => ?_)
              · have hc := (of_decide_eq_true hb)
                refine RL.norm (K' := [(36, .bool true), (3, .pointer (some ⟨nx0, 0, none⟩)), (0, .int .i64 a0)]) (L' := [⟨nx0, [.int .i64 a1.f0, .int .i64 a1.f1, .int .i64 a1.f2, .int .i64 a1.f3, .int .u32 a1.f4, .int .i64 a1.f5.f0, .string a1.f5.f1, .slice Ap1_5_2 a1.f5.f2.length cp1_5_2], 32⟩]) (by rw [hb]; try rfl) rfl (by first | rfl | (rw [hb]; try rfl)) rfl ?_
                rw [if_pos hc] at H; clear hb
                refine RL.simP (K' := [(40, .bool true), (3, .pointer (some ⟨nx0, 0, none⟩)), (0, .int .i64 a0)]) (nx' := nx11) (L' := [⟨nx0, [.int .i64 a1.f0, .int .i64 a1.f1, .int .i64 a1.f2, .int .i64 a1.f3, .int .u32 a1.f4, .int .i64 a1.f5.f0, .string a1.f5.f1, .slice Ap1_5_2 a1.f5.f2.length cp1_5_2], 32⟩]) [] (RFacts.nil _ _ _) 4 [.no, .no, .no, .no] (by kernel_rfl) (by kernel_rfl) ?_
                refine RL.nil (by kernel_rfl) ?_
                obtain rfl := Option.some.inj H
                refine QN.sub (K' := [(0, .int .i64 a0), (3, .pointer (some ⟨nx0, 0, none⟩)), (40, .bool true)]) (L' := [⟨nx0, [.int .i64 a1.f0, .int .i64 a1.f1, .int .i64 a1.f2, .int .i64 a1.f3, .int .u32 a1.f4, .int .i64 a1.f5.f0, .string a1.f5.f1, .slice Ap1_5_2 a1.f5.f2.length cp1_5_2], 32⟩]) (by kernel_rfl) (.cons_cons _ .slnil) (.refl _) ?_
                exact hJ1 _ _ _ _ _ ⟨true, rfl, rfl, rfl, hi12, HK1⟩
              · have hc := (of_decide_eq_false hb)
                refine RL.norm (K' := [(36, .bool false), (3, .pointer (some ⟨nx0, 0, none⟩)), (0, .int .i64 a0)]) (L' := [⟨nx0, [.int .i64 a1.f0, .int .i64 a1.f1, .int .i64 a1.f2, .int .i64 a1.f3, .int .u32 a1.f4, .int .i64 a1.f5.f0, .string a1.f5.f1, .slice Ap1_5_2 a1.f5.f2.length cp1_5_2], 32⟩]) (by rw [hb]; try rfl) rfl (by first | rfl | (rw [hb]; try rfl)) rfl ?_
                rw [if_neg hc] at H; clear hb
                refine RL.simP (K' := [(40, .bool (decide (a1.f3 ≥ 1000))), (3, .pointer (some ⟨nx0, 0, none⟩)), (0, .int .i64 a0)]) (nx' := nx11) (L' := [⟨nx0, [.int .i64 a1.f0, .int .i64 a1.f1, .int .i64 a1.f2, .int .i64 a1.f3, .int .u32 a1.f4, .int .i64 a1.f5.f0, .string a1.f5.f1, .slice Ap1_5_2 a1.f5.f2.length cp1_5_2], 32⟩]) [] (RFacts.nil _ _ _) 4 [.no, .l 0, .no, .no] (by kernel_rfl) (by kernel_rfl) ?_
                refine RL.nil (by kernel_rfl) ?_
                obtain rfl := Option.some.inj H
                refine QN.sub (K' := [(0, .int .i64 a0), (3, .pointer (some ⟨nx0, 0, none⟩)), (40, .bool (decide (a1.f3 ≥ 1000)))]) (L' := [⟨nx0, [.int .i64 a1.f0, .int .i64 a1.f1, .int .i64 a1.f2, .int .i64 a1.f3, .int .u32 a1.f4, .int .i64 a1.f5.f0, .string a1.f5.f1, .slice Ap1_5_2 a1.f5.f2.length cp1_5_2], 32⟩]) (by kernel_rfl) (.cons_cons _ .slnil) (.refl _) ?_
                exact hJ1 _ _ _ _ _ ⟨(decide (a1.f3 ≥ 1000)), rfl, rfl, rfl, hi12, HK1⟩
    · have hc := (Bool.eq_false_iff.1 hb)
      refine RL.norm (K' := [(10, .bool true), (3, .pointer (some ⟨nx0, 0, none⟩)), (0, .int .i64 a0)]) (L' := [⟨nx0, [.int .i64 a1.f0, .int .i64 a1.f1, .int .i64 a1.f2, .int .i64 a1.f3, .int .u32 a1.f4, .int .i64 a1.f5.f0, .string a1.f5.f1, .slice Ap1_5_2 a1.f5.f2.length cp1_5_2], 32⟩]) (by rw [hb]; try rfl) rfl (by first | rfl | (rw [hb]; try rfl)) rfl ?_
      rw [if_neg hc] at H; clear hb
      refine RL.simP (K' := [(40, .bool true), (3, .pointer (some ⟨nx0, 0, none⟩)), (0, .int .i64 a0)]) (nx' := nx11) (L' := [⟨nx0, [.int .i64 a1.f0, .int .i64 a1.f1, .int .i64 a1.f2, .int .i64 a1.f3, .int .u32 a1.f4, .int .i64 a1.f5.f0, .string a1.f5.f1, .slice Ap1_5_2 a1.f5.f2.length cp1_5_2], 32⟩]) [] (RFacts.nil _ _ _) 30 (.no :: .no :: .no :: .no :: .no :: .no :: .no :: .no :: .no :: .no :: .no :: .no :: .no :: .no :: .no :: .no :: .no :: .no :: .no :: .no :: .no :: .no :: .no :: .no :: .no :: .no :: .no :: .no :: .no :: .no :: []) (by kernel_rfl) (by kernel_rfl) ?_
      refine RL.nil (by kernel_rfl) ?_
      obtain rfl := Option.some.inj H
      refine QN.sub (K' := [(0, .int .i64 a0), (3, .pointer (some ⟨nx0, 0, none⟩)), (40, .bool true)]) (L' := [⟨nx0, [.int .i64 a1.f0, .int .i64 a1.f1, .int .i64 a1.f2, .int .i64 a1.f3, .int .u32 a1.f4, .int .i64 a1.f5.f0, .string a1.f5.f1, .slice Ap1_5_2 a1.f5.f2.length cp1_5_2], 32⟩]) (by kernel_rfl) (.cons_cons _ .slnil) (.refl _) ?_
      exact hJ1 _ _ _ _ _ ⟨true, rfl, rfl, rfl, hi12, HK1⟩

end Go.Proofs.Ytieakigoinebdaa
