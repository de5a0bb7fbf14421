/- Words of the walk, the functions' walks and plain laws, joined; no conditions beyond those that the theorems name. -/
import Derived.Test.YtieakigoinebdaaX32
import Derived.Test.YtieakigoinebdaaX33
import Derived.Test.YtieakigoinebdaaX34
import Derived.Test.YtieakigoinebdaaX35
namespace Go.Proofs.Ytieakigoinebdaa
open Go Go.Proofs.Ytieakigoinebdaa.RW
set_option linter.unusedVariables false
set_option maxRecDepth 100000
set_option maxHeartbeats 8000000

/-! ### armillaryref29_Valid: function 13, armillary/armillaryref29.Valid -/
noncomputable def K13_0 : Code := cBody Try.f13
noncomputable def K13_1 : Code := cL K13_0
noncomputable def O13_1 : List Oper := cOps K13_1
noncomputable def K13_3 : Code := cR K13_0
noncomputable def K13_4 : Code := cL K13_3
noncomputable def K13_5 : Code := cL K13_4
noncomputable def O13_5 : List Oper := cOps K13_5
noncomputable def K13_7 : Code := cR K13_4
noncomputable def K13_8 : Code := cL K13_7
noncomputable def K13_9 : Code := cL K13_8
noncomputable def O13_9 : List Oper := cOps K13_9
noncomputable def K13_11 : Code := cR K13_8
noncomputable def K13_12 : Code := cR K13_7
noncomputable def K13_13 : Code := cR K13_3
noncomputable def K13_14 : Code := cL K13_13
noncomputable def K13_15 : Code := cL K13_14
noncomputable def O13_15 : List Oper := cOps K13_15
noncomputable def K13_17 : Code := cR K13_14
noncomputable def K13_18 : Code := cL K13_17
noncomputable def K13_19 : Code := cL K13_18
noncomputable def O13_19 : List Oper := cOps K13_19
noncomputable def K13_21 : Code := cR K13_18
noncomputable def K13_22 : Code := cL K13_21
noncomputable def K13_23 : Code := cL K13_22
noncomputable def O13_23 : List Oper := cOps K13_23
noncomputable def K13_25 : Code := cR K13_22
noncomputable def K13_26 : Code := cL K13_25
noncomputable def O13_26 : List Oper := cOps K13_26
noncomputable def K13_28 : Code := cR K13_25
noncomputable def K13_29 : Code := cR K13_21
noncomputable def K13_30 : Code := cL K13_29
noncomputable def O13_30 : List Oper := cOps K13_30
noncomputable def K13_32 : Code := cR K13_29
noncomputable def K13_33 : Code := cL K13_32
noncomputable def K13_34 : Code := cL K13_33
noncomputable def O13_34 : List Oper := cOps K13_34
noncomputable def K13_36 : Code := cR K13_33
noncomputable def K13_37 : Code := cR K13_32
noncomputable def K13_38 : Code := cL K13_37
noncomputable def O13_38 : List Oper := cOps K13_38
noncomputable def K13_40 : Code := cR K13_37
noncomputable def K13_41 : Code := cL K13_40
noncomputable def K13_42 : Code := cL K13_41
noncomputable def O13_42 : List Oper := cOps K13_42
noncomputable def K13_44 : Code := cR K13_41
noncomputable def K13_45 : Code := cR K13_40
noncomputable def K13_46 : Code := cL K13_45
noncomputable def O13_46 : List Oper := cOps K13_46
noncomputable def K13_48 : Code := cR K13_45
noncomputable def K13_49 : Code := cL K13_48
noncomputable def K13_50 : Code := cL K13_49
noncomputable def O13_50 : List Oper := cOps K13_50
noncomputable def K13_52 : Code := cR K13_49
noncomputable def K13_53 : Code := cR K13_48
noncomputable def K13_54 : Code := cR K13_13
noncomputable def K13_55 : Code := cL K13_54
noncomputable def O13_55 : List Oper := cOps K13_55
noncomputable def K13_57 : Code := cR K13_54
def armillaryref29_Valid.k1  (x2 : Bool) : Option (Bool) := (some x2)
def armillaryref29_Valid.k2  (x3 : Bool) : Option (Bool) := (some x3)
def armillaryref29_Valid.k3 (k : Nat) (a0 : S32) (a1 : Int) (x1 : Bool) : Option (Bool) := (if x1 = true then (some false) else (if a0.f0 = 1 then ((armillaryref29_Sum.f k a0.f5).bind fun t1 => ((if t1.2 = true then ((armillaryref29_Leader.f a1 a0.f2).bind fun t2 => (if a0.f1 = t2 then (some (t1.1 == a0.f4)) else (some false))) else (some false)).bind (armillaryref29_Valid.k1))) else (if a0.f0 = 2 then ((armillaryref29_zero.f a0.f5).bind fun t3 => (some t3)) else (if a0.f0 = 3 then ((armillaryref29_zero.f a0.f5).bind fun t4 => (some t4)) else (if a0.f0 = 4 then (((armillaryref29_zero.f a0.f5).bind fun t5 => (if t5 = true then (if a0.f3 = 0 then (some (a0.f4 == 0)) else (some false)) else (some false))).bind (armillaryref29_Valid.k2)) else (some false))))))
def armillaryref29_Valid.f (k : Nat) (a0 : S32) (a1 : Int) : Option (Bool) := (((armillaryref29_replicas.f a1).bind fun t6 => (if t6 = true then (if a0.f1 < 0 then (some true) else (if a0.f1 ≥ a1 then (some true) else (if a0.f2 < 0 then (some true) else (if a0.f2 > 1048576 then (some true) else (if a0.f3 < 0 then (some true) else (some (decide (a0.f3 ≥ 1000)))))))) else (some true))).bind (armillaryref29_Valid.k3 k a0 a1))
def armillaryref29_Valid.Post (I : Imm) (w : World) (r : Bool) (v : Value) (w' : World) : Prop :=
 ∃ (J : Imm), v = .bool r ∧ Got w w' I J []
noncomputable def a13_26n : List Nat := [0, 1, 3, 7, 3, 3, 35, 115, 255, 511, 1023, 2047, 2047, 6143, 16383, 32767, 65535]
theorem a13_26 : ancs O13_26 [] = a13_26n := by kernel_rfl
theorem a13_26o : drawOk O13_26 a13_26n 14 = true := by kernel_rfl
noncomputable def u13d1l (t2 : Int) : List Ld :=
 [⟨7, fun x => .int .i64 t2, fun x => [], fun x J => True, fun x J J' h f => trivial⟩]
noncomputable def u13d1g  : List (Nat × ((Nat → Wt) → Value)) := [(1, fun u => .bool true), (10, fun u => .bool true)]
noncomputable def u13d1q (a0 : S32) (Ap0_5_2 : Option Addr) (cp0_5_2 : Nat) (a1 : Int) (nx0 : Nat) (t1 : Int × Bool) (t2 : Int) (u : Nat → Wt) : Option (List Value × List (Nat × Value) × List (Nat × Nat)) := qSim Try.prog [] [⟨nx0, [.int .i64 a0.f0, .int .i64 a0.f1, .int .i64 a0.f2, .int .i64 a0.f3, .int .u32 a0.f4, .int .i64 a0.f5.f0, .string a0.f5.f1, .slice Ap0_5_2 a0.f5.f2.length cp0_5_2], 32⟩] O13_26 ⟨92, []⟩ (Ld.vl (u13d1l t2)) u13d1g u [.no, .no, .no, .l 0, .no, .no, .l 0, .no, .no, .no, .no, .no, .no, .l 0] 0 (O13_26.take 14) [(6, .bool t1.2), (5, .int .u32 t1.1), (1, .int .i64 a1), (2, .pointer (some ⟨nx0, 0, none⟩))]
noncomputable def u13d1s (a0 : S32) (a1 : Int) (nx0 : Nat) (t1 : Int × Bool) (t2 : Int) (u : Nat → Wt) : List Value := [.bool t1.2, .bool true, .pointer (some ⟨nx0, 1, none⟩), .int .i64 a0.f1, .int .i64 a1, .pointer (some ⟨nx0, 2, none⟩), .int .i64 a0.f2, .int .i64 t2, .bool (a0.f1 == t2), .bool (a0.f1 == t2), .bool true, .int .u32 t1.1, .pointer (some ⟨nx0, 4, none⟩), .int .u32 a0.f4]
noncomputable def u13d1f (a0 : S32) (a1 : Int) (nx0 : Nat) (t1 : Int × Bool) (t2 : Int) (i : Nat) (u : Nat → Wt) : List (Nat × Value) := foldPut ⟨92, []⟩ [(6, .bool t1.2), (5, .int .u32 t1.1), (1, .int .i64 a1), (2, .pointer (some ⟨nx0, 0, none⟩))] (O13_26.take i) (((u13d1s a0 a1 nx0 t1 t2) u).take i)
theorem u13d1v (a0 : S32) (Ap0_5_2 : Option Addr) (cp0_5_2 : Nat) (a1 : Int) (nx0 : Nat) (t1 : Int × Bool) (t2 : Int) (u : Nat → Wt) : (u13d1q a0 Ap0_5_2 cp0_5_2 a1 nx0 t1 t2 u).map (fun x => (x.1, x.2.1)) = some ((u13d1s a0 a1 nx0 t1 t2) u, (u13d1f a0 a1 nx0 t1 t2 14) u) := by kernel_rfl
theorem u13d1e (a0 : S32) (Ap0_5_2 : Option Addr) (cp0_5_2 : Nat) (a1 : Int) (nx0 : Nat) (t1 : Int × Bool) (t2 : Int) (u : Nat → Wt) : (u13d1q a0 Ap0_5_2 cp0_5_2 a1 nx0 t1 t2 u).map (fun x => x.2.2.map (·.1)) = (u13d1q a0 Ap0_5_2 cp0_5_2 a1 nx0 t1 t2 u).map (fun x => x.2.2.map (·.2)) := by kernel_rfl
noncomputable def u13d2l (t2 : Int) : List Ld :=
 [⟨7, fun x => .int .i64 t2, fun x => [], fun x J => True, fun x J J' h f => trivial⟩]
noncomputable def u13d2g  : List (Nat × ((Nat → Wt) → Value)) := [(1, fun u => .bool true), (10, fun u => .bool false)]
noncomputable def u13d2q (a0 : S32) (Ap0_5_2 : Option Addr) (cp0_5_2 : Nat) (a1 : Int) (nx0 : Nat) (t1 : Int × Bool) (t2 : Int) (u : Nat → Wt) : Option (List Value × List (Nat × Value) × List (Nat × Nat)) := qSim Try.prog [] [⟨nx0, [.int .i64 a0.f0, .int .i64 a0.f1, .int .i64 a0.f2, .int .i64 a0.f3, .int .u32 a0.f4, .int .i64 a0.f5.f0, .string a0.f5.f1, .slice Ap0_5_2 a0.f5.f2.length cp0_5_2], 32⟩] O13_26 ⟨92, []⟩ (Ld.vl (u13d2l t2)) u13d2g u [.no, .no, .no, .l 0, .no, .no, .l 0, .no, .no, .no, .no, .no, .no, .no] 0 (O13_26.take 14) [(6, .bool t1.2), (5, .int .u32 t1.1), (1, .int .i64 a1), (2, .pointer (some ⟨nx0, 0, none⟩))]
noncomputable def u13d2s (a0 : S32) (a1 : Int) (nx0 : Nat) (t1 : Int × Bool) (t2 : Int) (u : Nat → Wt) : List Value := [.bool t1.2, .bool true, .pointer (some ⟨nx0, 1, none⟩), .int .i64 a0.f1, .int .i64 a1, .pointer (some ⟨nx0, 2, none⟩), .int .i64 a0.f2, .int .i64 t2, .bool (a0.f1 == t2), .bool (a0.f1 == t2), .bool false, undef, undef, undef]
noncomputable def u13d2f (a0 : S32) (a1 : Int) (nx0 : Nat) (t1 : Int × Bool) (t2 : Int) (i : Nat) (u : Nat → Wt) : List (Nat × Value) := foldPut ⟨92, []⟩ [(6, .bool t1.2), (5, .int .u32 t1.1), (1, .int .i64 a1), (2, .pointer (some ⟨nx0, 0, none⟩))] (O13_26.take i) (((u13d2s a0 a1 nx0 t1 t2) u).take i)
theorem u13d2v (a0 : S32) (Ap0_5_2 : Option Addr) (cp0_5_2 : Nat) (a1 : Int) (nx0 : Nat) (t1 : Int × Bool) (t2 : Int) (u : Nat → Wt) : (u13d2q a0 Ap0_5_2 cp0_5_2 a1 nx0 t1 t2 u).map (fun x => (x.1, x.2.1)) = some ((u13d2s a0 a1 nx0 t1 t2) u, (u13d2f a0 a1 nx0 t1 t2 14) u) := by kernel_rfl
theorem u13d2e (a0 : S32) (Ap0_5_2 : Option Addr) (cp0_5_2 : Nat) (a1 : Int) (nx0 : Nat) (t1 : Int × Bool) (t2 : Int) (u : Nat → Wt) : (u13d2q a0 Ap0_5_2 cp0_5_2 a1 nx0 t1 t2 u).map (fun x => x.2.2.map (·.1)) = (u13d2q a0 Ap0_5_2 cp0_5_2 a1 nx0 t1 t2 u).map (fun x => x.2.2.map (·.2)) := by kernel_rfl
noncomputable def u13d3l  : List Ld :=
 []
noncomputable def u13d3g  : List (Nat × ((Nat → Wt) → Value)) := [(1, fun u => .bool false)]
noncomputable def u13d3q (a0 : S32) (Ap0_5_2 : Option Addr) (cp0_5_2 : Nat) (a1 : Int) (nx0 : Nat) (t1 : Int × Bool) (u : Nat → Wt) : Option (List Value × List (Nat × Value) × List (Nat × Nat)) := qSim Try.prog [] [⟨nx0, [.int .i64 a0.f0, .int .i64 a0.f1, .int .i64 a0.f2, .int .i64 a0.f3, .int .u32 a0.f4, .int .i64 a0.f5.f0, .string a0.f5.f1, .slice Ap0_5_2 a0.f5.f2.length cp0_5_2], 32⟩] O13_26 ⟨92, []⟩ (Ld.vl u13d3l) u13d3g u [.no, .no, .no, .no, .no, .no, .no, .no, .no, .no, .no, .no, .no, .no] 0 (O13_26.take 14) [(6, .bool t1.2), (5, .int .u32 t1.1), (1, .int .i64 a1), (2, .pointer (some ⟨nx0, 0, none⟩))]
noncomputable def u13d3s (t1 : Int × Bool) (u : Nat → Wt) : List Value := [.bool t1.2, .bool false, undef, undef, undef, undef, undef, undef, undef, .bool false, .bool false, undef, undef, undef]
noncomputable def u13d3f (a1 : Int) (nx0 : Nat) (t1 : Int × Bool) (i : Nat) (u : Nat → Wt) : List (Nat × Value) := foldPut ⟨92, []⟩ [(6, .bool t1.2), (5, .int .u32 t1.1), (1, .int .i64 a1), (2, .pointer (some ⟨nx0, 0, none⟩))] (O13_26.take i) (((u13d3s t1) u).take i)
theorem u13d3v (a0 : S32) (Ap0_5_2 : Option Addr) (cp0_5_2 : Nat) (a1 : Int) (nx0 : Nat) (t1 : Int × Bool) (u : Nat → Wt) : (u13d3q a0 Ap0_5_2 cp0_5_2 a1 nx0 t1 u).map (fun x => (x.1, x.2.1)) = some ((u13d3s t1) u, (u13d3f a1 nx0 t1 14) u) := by kernel_rfl
theorem u13d3e (a0 : S32) (Ap0_5_2 : Option Addr) (cp0_5_2 : Nat) (a1 : Int) (nx0 : Nat) (t1 : Int × Bool) (u : Nat → Wt) : (u13d3q a0 Ap0_5_2 cp0_5_2 a1 nx0 t1 u).map (fun x => x.2.2.map (·.1)) = (u13d3q a0 Ap0_5_2 cp0_5_2 a1 nx0 t1 u).map (fun x => x.2.2.map (·.2)) := by kernel_rfl
theorem armillaryref29_Valid.calls (k : Nat) (I0 : Imm) (a0 : S32) (Ap0_5_2 : Option Addr) (cp0_5_2 : Nat) (a1 : Int) (w : World) (hI : I0.at_ w) (hlp0_5_2 : a0.f5.f2.length ≤ cp0_5_2) (hrp0_5_2 : Rd (Ty.int .u8) I0 Ap0_5_2 a0.f5.f2) (r : Bool) (h : armillaryref29_Valid.f k a0 a1 = some r) :
  Calls Try.prog 13 [.agg #[.int .i64 a0.f0, .int .i64 a0.f1, .int .i64 a0.f2, .int .i64 a0.f3, .int .u32 a0.f4, .int .i64 a0.f5.f0, .string a0.f5.f1, .slice Ap0_5_2 a0.f5.f2.length cp0_5_2], .int .i64 a1].toArray w fun e w' => ∃ v, e = .returned v ∧ armillaryref29_Valid.Post I0 w r v w' := by
 have H : (((armillaryref29_replicas.f a1).bind fun t6 => (if t6 = true then (if a0.f1 < 0 then (some true) else (if a0.f1 ≥ a1 then (some true) else (if a0.f2 < 0 then (some true) else (if a0.f2 > 1048576 then (some true) else (if a0.f3 < 0 then (some true) else (some (decide (a0.f3 ≥ 1000)))))))) else (some true))).bind (armillaryref29_Valid.k3 k a0 a1)) = some r := h
 clear h
 refine calls_body Try.func13 (by kernel_rfl) 92 (by kernel_rfl) (by kernel_rfl) ⟨w, fun _ => False, I0⟩ I0 [] [(0, .agg #[.int .i64 a0.f0, .int .i64 a0.f1, .int .i64 a0.f2, .int .i64 a0.f3, .int .u32 a0.f4, .int .i64 a0.f5.f0, .string a0.f5.f1, .slice Ap0_5_2 a0.f5.f2.length cp0_5_2]), (1, .int .i64 a1)] (by kernel_rfl) (Sat.start w _ I0 hI) ?_
 generalize w.heap.size = nx0
 show OK _ K13_0 _ _ _ _ _ _ _ _
 refine OK.seq K13_1 K13_3 (by kernel_rfl) ?_
 refine OK.region 0 O13_1 (by kernel_rfl) ?_
 refine RL.simP (K' := [(2, .pointer (some ⟨nx0, 0, none⟩)), (1, .int .i64 a1)]) (nx' := nx0 + 1) (L' := [⟨nx0, [.int .i64 a0.f0, .int .i64 a0.f1, .int .i64 a0.f2, .int .i64 a0.f3, .int .u32 a0.f4, .int .i64 a0.f5.f0, .string a0.f5.f1, .slice Ap0_5_2 a0.f5.f2.length cp0_5_2], 32⟩]) [] (RFacts.nil _ _ _) 2 [.no, .no] (by kernel_rfl) (by kernel_rfl) ?_
 refine RL.nil (by kernel_rfl) ?_
 refine QN.then_ ?_
 refine OK.seq K13_4 K13_13 (by kernel_rfl) ?_
 refine OK.seq K13_5 K13_7 (by kernel_rfl) ?_
 refine OK.join (fun K' I' _ L' X' => ∃ (x1 : Bool), K' = [(1, .int .i64 a1), (2, .pointer (some ⟨nx0, 0, none⟩)), (40, .bool x1)] ∧ L' = [⟨nx0, [.int .i64 a0.f0, .int .i64 a0.f1, .int .i64 a0.f2, .int .i64 a0.f3, .int .u32 a0.f4, .int .i64 a0.f5.f0, .string a0.f5.f1, .slice Ap0_5_2 a0.f5.f2.length cp0_5_2], 32⟩] ∧ X' = [] ∧ Imm.le I0 I' ∧ armillaryref29_Valid.k3 k a0 a1 x1 = some r) ?_ ?_
 ·rintro _ I1 nx1 _ _ ⟨x1, rfl, rfl, rfl, hi1, H⟩
  replace H : (if x1 = true then (some false) else (if a0.f0 = 1 then ((armillaryref29_Sum.f k a0.f5).bind fun t1 => ((if t1.2 = true then ((armillaryref29_Leader.f a1 a0.f2).bind fun t2 => (if a0.f1 = t2 then (some (t1.1 == a0.f4)) else (some false))) else (some false)).bind (armillaryref29_Valid.k1))) else (if a0.f0 = 2 then ((armillaryref29_zero.f a0.f5).bind fun t3 => (some t3)) else (if a0.f0 = 3 then ((armillaryref29_zero.f a0.f5).bind fun t4 => (some t4)) else (if a0.f0 = 4 then (((armillaryref29_zero.f a0.f5).bind fun t5 => (if t5 = true then (if a0.f3 = 0 then (some (a0.f4 == 0)) else (some false)) else (some false))).bind (armillaryref29_Valid.k2)) else (some false)))))) = some r := H
  refine QN.then_ ?_
  refine OK.cond (.tmp 40) K13_8 K13_12 x1 (by kernel_rfl) (by kernel_rfl) (by kernel_rfl) (fun hb => ?_) (fun hb => ?_)
  ·skip
   have hc := hb
   rw [if_pos hc] at H
   clear hb
   refine OK.seq K13_9 K13_11 (by kernel_rfl) ?_
   refine OK.region 2 O13_9 (by kernel_rfl) ?_
   refine RL.simK (K' := [(4, .bool false)]) [] (RFacts.nil _ _ _) 1 [.no] (by kernel_rfl) (by kernel_rfl) ?_
   refine RL.nil (by kernel_rfl) ?_
   refine QN.then_ ?_
   refine OK.ret (by kernel_rfl) ?_
   refine QN.thenR ?_
   obtain rfl := Option.some.inj H
   refine QN.body rfl [] (RFacts.nil _ _ _) (.no) (.bool false) (by kernel_rfl) (by kernel_rfl) (by kernel_rfl) ?_ _ (.inr rfl)
   exact fun w' hs' => ⟨_, rfl, I1, rfl, hs'.got _ .slnil⟩
  ·skip
   have hc := (Bool.eq_false_iff.1 hb)
   rw [if_neg hc] at H
   clear hb
   refine OK.skip (by kernel_rfl) ?_
   refine QN.then_ ?_
   refine OK.seq K13_14 K13_54 (by kernel_rfl) ?_
   refine OK.seq K13_15 K13_17 (by kernel_rfl) ?_
   refine OK.region 3 O13_15 (by kernel_rfl) ?_
   refine RL.simK (K' := [(42, .int .i64 a0.f0), (1, .int .i64 a1), (2, .pointer (some ⟨nx0, 0, none⟩))]) [] (RFacts.nil _ _ _) 2 [.no, .l 0] (by kernel_rfl) (by kernel_rfl) ?_
   refine RL.nil (by kernel_rfl) ?_
   refine QN.then_ ?_
   refine OK.block 0 K13_18 (by kernel_rfl) ?_
   refine OK.seq K13_19 K13_21 (by kernel_rfl) ?_
   refine OK.region 4 O13_19 (by kernel_rfl) ?_
   refine RL.simK (K' := [(43, .bool (a0.f0 == 1)), (42, .int .i64 a0.f0), (1, .int .i64 a1), (2, .pointer (some ⟨nx0, 0, none⟩))]) [] (RFacts.nil _ _ _) 2 [.no, .no] (by kernel_rfl) (by kernel_rfl) ?_
   refine RL.nil (by kernel_rfl) ?_
   refine QN.then_ ?_
   refine OK.cond (.tmp 43) K13_22 K13_29 (a0.f0 == 1) (by kernel_rfl) (by kernel_rfl) (by kernel_rfl) (fun hb => ?_) (fun hb => ?_)
   ·skip
    have hc := (beq_iff_eq.1 hb)
    rw [if_pos hc] at H
    clear hb
    refine OK.seq K13_23 K13_25 (by kernel_rfl) ?_
    refine OK.region 5 O13_23 (by kernel_rfl) ?_
    refine RL.simK (K' := [(47, .agg #[.int .i64 a0.f5.f0, .string a0.f5.f1, .slice Ap0_5_2 a0.f5.f2.length cp0_5_2]), (1, .int .i64 a1), (2, .pointer (some ⟨nx0, 0, none⟩))]) [] (RFacts.nil _ _ _) 2 [.no, .l 0] (by kernel_rfl) (by kernel_rfl) ?_
    obtain ⟨t1, hA1, H⟩ := Option.bind_eq_some_iff.mp H
    refine RL.callP 31 [.agg #[.int .i64 a0.f5.f0, .string a0.f5.f1, .slice Ap0_5_2 a0.f5.f2.length cp0_5_2]] (some 48) (fun w => armillaryref29_Sum.Post I1 w t1) (by kernel_rfl) (by kernel_rfl) (fun w hs => armillaryref29_Sum.calls k I1 a0.f5 Ap0_5_2 cp0_5_2 w hs.im hlp0_5_2 (Rd.ext hi1 hrp0_5_2) t1 hA1) ?_
    rintro w v w' hs ⟨I2, rfl, hg⟩
    have hi2 := hg.le
    refine RL.resume (X' := []) rfl (hs.call hg) ?_
    clear hs hg
    generalize w'.heap.size = nx2
    clear w w'
    refine RL.simK (K' := [(6, .bool t1.2), (5, .int .u32 t1.1), (1, .int .i64 a1), (2, .pointer (some ⟨nx0, 0, none⟩))]) [] (RFacts.nil _ _ _) 5 [.no, .no, .no, .no, .no] (by kernel_rfl) (by kernel_rfl) ?_
    refine RL.nil (by kernel_rfl) ?_
    refine QN.then_ ?_
    refine OK.seq K13_26 K13_28 (by kernel_rfl) ?_
    refine OK.join (fun K' I' _ L' X' => ∃ (x2 : Bool), K' = [(4, .bool x2)] ∧ L' = [⟨nx0, [.int .i64 a0.f0, .int .i64 a0.f1, .int .i64 a0.f2, .int .i64 a0.f3, .int .u32 a0.f4, .int .i64 a0.f5.f0, .string a0.f5.f1, .slice Ap0_5_2 a0.f5.f2.length cp0_5_2], 32⟩] ∧ X' = [] ∧ Imm.le I2 I' ∧ armillaryref29_Valid.k1 x2 = some r) ?_ ?_
    ·rintro _ I3 nx3 _ _ ⟨x2, rfl, rfl, rfl, hi3, H⟩
     replace H : (some x2) = some r := H
     refine QN.then_ ?_
     refine OK.ret (by kernel_rfl) ?_
     refine QN.blkR ?_
     refine QN.thenR ?_
     obtain rfl := Option.some.inj H
     refine QN.body rfl [] (RFacts.nil _ _ _) (.no) (.bool x2) (by kernel_rfl) (by kernel_rfl) (by kernel_rfl) ?_ _ (.inr rfl)
     exact fun w' hs' => ⟨_, rfl, I3, rfl, hs'.got _ .slnil⟩
    ·intro Q_1 hJ2 hQ2
     obtain ⟨y2, H, HK2⟩ := Option.bind_eq_some_iff.mp H
     refine OK.cases t1.2 (fun hb1 => ?_) (fun hb1 => ?_)
     ·have hc1 := hb1
      rw [if_pos hc1] at H
      obtain ⟨t2, hA2, H⟩ := Option.bind_eq_some_iff.mp H
      refine OK.cases (a0.f1 == t2) (fun hb2 => ?_) (fun hb2 => ?_)
      ·have hc2 := (beq_iff_eq.1 hb2)
       rw [if_pos hc2] at H
       refine OK.drawnC 6 14 O13_26 a13_26n (by kernel_rfl) (by kernel_rfl) (u13d1l t2) u13d1g [] (RI.nil _) [.no, .no, .no, .l 0, .no, .no, .l 0, .no, .no, .no, .no, .no, .no, .l 0] a13_26 a13_26o (by kernel_rfl) (by kernel_rfl) (u13d1s a0 a1 nx0 t1 t2) (u13d1f a0 a1 nx0 t1 t2 14) (u13d1v a0 Ap0_5_2 cp0_5_2 a1 nx0 t1 t2) (u13d1e a0 Ap0_5_2 cp0_5_2 a1 nx0 t1 t2) [u13d1f a0 a1 nx0 t1 t2 7] (framesOk.cons (fun u => rfl) framesOk.nil) ?_ [u13d1f a0 a1 nx0 t1 t2 1, u13d1f a0 a1 nx0 t1 t2 10] (framesOk.cons (fun u => rfl) (framesOk.cons (fun u => rfl) framesOk.nil)) ?_ ?_
       ·refine LoudsG.cons ?_ (LoudsG.nil)
        ·intro D u J w hp hJ hs hF
         refine Does.call 25 [.int .i64 a1, .int .i64 a0.f2] (by kernel_rfl) ((armillaryref29_Leader.calls J a1 a0.f2 w hs.im  t2 hA2).mono ?_)
         rintro e w' ⟨v, rfl, J2, rfl, hg⟩
         exact ⟨_, rfl, fun _ => (none, 0, []), J2, rfl, hg, trivial⟩
       ·refine Givens.cons (fun u w =>  ?_) (fun _ _ _ => rfl) (Givens.cons (fun u w =>  ?_) (fun _ _ _ => rfl) (Givens.nil))
        ·exact giv_run (v := .bool t1.2) (by kernel_rfl) (by rw [hb1]; try rfl) w
        ·exact giv_run (v := .bool (a0.f1 == t2)) (by kernel_rfl) (by rw [hb2]; try rfl) w
       intro u I4 nx4 hi4 hF
       clear hF
       refine RL.norm (K' := [(64, .int .u32 a0.f4), (63, .pointer (some ⟨nx0, 4, none⟩)), (62, .int .u32 t1.1), (61, .bool true), (60, .bool (a0.f1 == t2)), (59, .bool (a0.f1 == t2)), (58, .int .i64 t2), (57, .int .i64 a0.f2), (56, .pointer (some ⟨nx0, 2, none⟩)), (55, .int .i64 a1), (54, .int .i64 a0.f1), (53, .pointer (some ⟨nx0, 1, none⟩)), (52, .bool true), (51, .bool t1.2), (6, .bool t1.2), (5, .int .u32 t1.1), (1, .int .i64 a1), (2, .pointer (some ⟨nx0, 0, none⟩))]) (X' := []) (by kernel_rfl) rfl rfl rfl ?_
       refine RL.simK (K' := [(4, .bool (t1.1 == a0.f4))]) [] (RFacts.nil _ _ _) 3 [.no, .no, .no] (by kernel_rfl) (by kernel_rfl) ?_
       refine RL.nil (by kernel_rfl) ?_
       obtain rfl := Option.some.inj H
       refine QN.sub (K' := [(4, .bool (t1.1 == a0.f4))]) (L' := [⟨nx0, [.int .i64 a0.f0, .int .i64 a0.f1, .int .i64 a0.f2, .int .i64 a0.f3, .int .u32 a0.f4, .int .i64 a0.f5.f0, .string a0.f5.f1, .slice Ap0_5_2 a0.f5.f2.length cp0_5_2], 32⟩]) (by kernel_rfl) (.cons_cons _ .slnil) (.refl _) ?_
       exact hJ2 _ _ _ _ _ ⟨(t1.1 == a0.f4), rfl, rfl, rfl, hi4, HK2⟩
      ·have hc2 := (beq_eq_false_iff_ne.1 hb2)
       rw [if_neg hc2] at H
       refine OK.drawnC 6 14 O13_26 a13_26n (by kernel_rfl) (by kernel_rfl) (u13d2l t2) u13d2g [] (RI.nil _) [.no, .no, .no, .l 0, .no, .no, .l 0, .no, .no, .no, .no, .no, .no, .no] a13_26 a13_26o (by kernel_rfl) (by kernel_rfl) (u13d2s a0 a1 nx0 t1 t2) (u13d2f a0 a1 nx0 t1 t2 14) (u13d2v a0 Ap0_5_2 cp0_5_2 a1 nx0 t1 t2) (u13d2e a0 Ap0_5_2 cp0_5_2 a1 nx0 t1 t2) [u13d2f a0 a1 nx0 t1 t2 7] (framesOk.cons (fun u => rfl) framesOk.nil) ?_ [u13d2f a0 a1 nx0 t1 t2 1, u13d2f a0 a1 nx0 t1 t2 10] (framesOk.cons (fun u => rfl) (framesOk.cons (fun u => rfl) framesOk.nil)) ?_ ?_
       ·refine LoudsG.cons ?_ (LoudsG.nil)
        ·intro D u J w hp hJ hs hF
         refine Does.call 25 [.int .i64 a1, .int .i64 a0.f2] (by kernel_rfl) ((armillaryref29_Leader.calls J a1 a0.f2 w hs.im  t2 hA2).mono ?_)
         rintro e w' ⟨v, rfl, J2, rfl, hg⟩
         exact ⟨_, rfl, fun _ => (none, 0, []), J2, rfl, hg, trivial⟩
       ·refine Givens.cons (fun u w =>  ?_) (fun _ _ _ => rfl) (Givens.cons (fun u w =>  ?_) (fun _ _ _ => rfl) (Givens.nil))
        ·exact giv_run (v := .bool t1.2) (by kernel_rfl) (by rw [hb1]; try rfl) w
        ·exact giv_run (v := .bool (a0.f1 == t2)) (by kernel_rfl) (by rw [hb2]; try rfl) w
       intro u I5 nx5 hi5 hF
       clear hF
       refine RL.norm (K' := [(64, undef), (63, undef), (62, undef), (61, .bool false), (60, .bool (a0.f1 == t2)), (59, .bool (a0.f1 == t2)), (58, .int .i64 t2), (57, .int .i64 a0.f2), (56, .pointer (some ⟨nx0, 2, none⟩)), (55, .int .i64 a1), (54, .int .i64 a0.f1), (53, .pointer (some ⟨nx0, 1, none⟩)), (52, .bool true), (51, .bool t1.2), (6, .bool t1.2), (5, .int .u32 t1.1), (1, .int .i64 a1), (2, .pointer (some ⟨nx0, 0, none⟩))]) (X' := []) (by kernel_rfl) rfl rfl rfl ?_
       refine RL.simK (K' := [(4, .bool false)]) [] (RFacts.nil _ _ _) 3 [.no, .no, .no] (by kernel_rfl) (by kernel_rfl) ?_
       refine RL.nil (by kernel_rfl) ?_
       obtain rfl := Option.some.inj H
       refine QN.sub (K' := [(4, .bool false)]) (L' := [⟨nx0, [.int .i64 a0.f0, .int .i64 a0.f1, .int .i64 a0.f2, .int .i64 a0.f3, .int .u32 a0.f4, .int .i64 a0.f5.f0, .string a0.f5.f1, .slice Ap0_5_2 a0.f5.f2.length cp0_5_2], 32⟩]) (by kernel_rfl) (.cons_cons _ .slnil) (.refl _) ?_
       exact hJ2 _ _ _ _ _ ⟨false, rfl, rfl, rfl, hi5, HK2⟩
     ·have hc1 := (Bool.eq_false_iff.1 hb1)
      rw [if_neg hc1] at H
      refine OK.drawnC 6 14 O13_26 a13_26n (by kernel_rfl) (by kernel_rfl) u13d3l u13d3g [] (RI.nil _) [.no, .no, .no, .no, .no, .no, .no, .no, .no, .no, .no, .no, .no, .no] a13_26 a13_26o (by kernel_rfl) (by kernel_rfl) (u13d3s t1) (u13d3f a1 nx0 t1 14) (u13d3v a0 Ap0_5_2 cp0_5_2 a1 nx0 t1) (u13d3e a0 Ap0_5_2 cp0_5_2 a1 nx0 t1) [] framesOk.nil ?_ [u13d3f a1 nx0 t1 1] (framesOk.cons (fun u => rfl) framesOk.nil) ?_ ?_
      ·refine LoudsG.nil
      ·refine Givens.cons (fun u w =>  ?_) (fun _ _ _ => rfl) (Givens.nil)
       ·exact giv_run (v := .bool t1.2) (by kernel_rfl) (by rw [hb1]; try rfl) w
      intro u I6 nx6 hi6 hF
      clear hF
      refine RL.norm (K' := [(64, undef), (63, undef), (62, undef), (61, .bool false), (60, .bool false), (59, undef), (58, undef), (57, undef), (56, undef), (55, undef), (54, undef), (53, undef), (52, .bool false), (51, .bool t1.2), (6, .bool t1.2), (5, .int .u32 t1.1), (1, .int .i64 a1), (2, .pointer (some ⟨nx0, 0, none⟩))]) (X' := []) (by kernel_rfl) rfl rfl rfl ?_
      refine RL.simK (K' := [(4, .bool false)]) [] (RFacts.nil _ _ _) 3 [.no, .no, .no] (by kernel_rfl) (by kernel_rfl) ?_
      refine RL.nil (by kernel_rfl) ?_
      obtain rfl := Option.some.inj H
      refine QN.sub (K' := [(4, .bool false)]) (L' := [⟨nx0, [.int .i64 a0.f0, .int .i64 a0.f1, .int .i64 a0.f2, .int .i64 a0.f3, .int .u32 a0.f4, .int .i64 a0.f5.f0, .string a0.f5.f1, .slice Ap0_5_2 a0.f5.f2.length cp0_5_2], 32⟩]) (by kernel_rfl) (.cons_cons _ .slnil) (.refl _) ?_
      exact hJ2 _ _ _ _ _ ⟨false, rfl, rfl, rfl, hi6, HK2⟩
   ·skip
    have hc := (beq_eq_false_iff_ne.1 hb)
    rw [if_neg hc] at H
    clear hb
    refine OK.seq K13_30 K13_32 (by kernel_rfl) ?_
    refine OK.region 7 O13_30 (by kernel_rfl) ?_
    refine RL.simK (K' := [(67, .bool (a0.f0 == 2)), (42, .int .i64 a0.f0), (2, .pointer (some ⟨nx0, 0, none⟩))]) [] (RFacts.nil _ _ _) 2 [.no, .no] (by kernel_rfl) (by kernel_rfl) ?_
    refine RL.nil (by kernel_rfl) ?_
    refine QN.then_ ?_
    refine OK.cond (.tmp 67) K13_33 K13_37 (a0.f0 == 2) (by kernel_rfl) (by kernel_rfl) (by kernel_rfl) (fun hb => ?_) (fun hb => ?_)
    ·skip
     have hc := (beq_iff_eq.1 hb)
     rw [if_pos hc] at H
     clear hb
     refine OK.seq K13_34 K13_36 (by kernel_rfl) ?_
     refine OK.region 8 O13_34 (by kernel_rfl) ?_
     refine RL.simK (K' := [(70, .agg #[.int .i64 a0.f5.f0, .string a0.f5.f1, .slice Ap0_5_2 a0.f5.f2.length cp0_5_2])]) [] (RFacts.nil _ _ _) 2 [.no, .l 0] (by kernel_rfl) (by kernel_rfl) ?_
     obtain ⟨t3, hA3, H⟩ := Option.bind_eq_some_iff.mp H
     refine RL.callP 34 [.agg #[.int .i64 a0.f5.f0, .string a0.f5.f1, .slice Ap0_5_2 a0.f5.f2.length cp0_5_2]] (some 71) (fun w => armillaryref29_zero.Post I1 w t3) (by kernel_rfl) (by kernel_rfl) (fun w hs => armillaryref29_zero.calls I1 a0.f5 Ap0_5_2 cp0_5_2 w hs.im hlp0_5_2 (Rd.ext hi1 hrp0_5_2) t3 hA3) ?_
     rintro w v w' hs ⟨I7, rfl, hg⟩
     have hi7 := hg.le
     refine RL.resume (X' := []) rfl (hs.call hg) ?_
     clear hs hg
     generalize w'.heap.size = nx7
     clear w w'
     refine RL.simK (K' := [(4, .bool t3)]) [] (RFacts.nil _ _ _) 1 [.no] (by kernel_rfl) (by kernel_rfl) ?_
     refine RL.nil (by kernel_rfl) ?_
     refine QN.then_ ?_
     refine OK.ret (by kernel_rfl) ?_
     refine QN.blkR ?_
     refine QN.thenR ?_
     obtain rfl := Option.some.inj H
     refine QN.body rfl [] (RFacts.nil _ _ _) (.no) (.bool t3) (by kernel_rfl) (by kernel_rfl) (by kernel_rfl) ?_ _ (.inr rfl)
     exact fun w' hs' => ⟨_, rfl, I7, rfl, hs'.got _ .slnil⟩
    ·skip
     have hc := (beq_eq_false_iff_ne.1 hb)
     rw [if_neg hc] at H
     clear hb
     refine OK.seq K13_38 K13_40 (by kernel_rfl) ?_
     refine OK.region 9 O13_38 (by kernel_rfl) ?_
     refine RL.simK (K' := [(72, .bool (a0.f0 == 3)), (42, .int .i64 a0.f0), (2, .pointer (some ⟨nx0, 0, none⟩))]) [] (RFacts.nil _ _ _) 2 [.no, .no] (by kernel_rfl) (by kernel_rfl) ?_
     refine RL.nil (by kernel_rfl) ?_
     refine QN.then_ ?_
     refine OK.cond (.tmp 72) K13_41 K13_45 (a0.f0 == 3) (by kernel_rfl) (by kernel_rfl) (by kernel_rfl) (fun hb => ?_) (fun hb => ?_)
     ·skip
      have hc := (beq_iff_eq.1 hb)
      rw [if_pos hc] at H
      clear hb
      refine OK.seq K13_42 K13_44 (by kernel_rfl) ?_
      refine OK.region 10 O13_42 (by kernel_rfl) ?_
      refine RL.simK (K' := [(75, .agg #[.int .i64 a0.f5.f0, .string a0.f5.f1, .slice Ap0_5_2 a0.f5.f2.length cp0_5_2])]) [] (RFacts.nil _ _ _) 2 [.no, .l 0] (by kernel_rfl) (by kernel_rfl) ?_
      obtain ⟨t4, hA4, H⟩ := Option.bind_eq_some_iff.mp H
      refine RL.callP 34 [.agg #[.int .i64 a0.f5.f0, .string a0.f5.f1, .slice Ap0_5_2 a0.f5.f2.length cp0_5_2]] (some 76) (fun w => armillaryref29_zero.Post I1 w t4) (by kernel_rfl) (by kernel_rfl) (fun w hs => armillaryref29_zero.calls I1 a0.f5 Ap0_5_2 cp0_5_2 w hs.im hlp0_5_2 (Rd.ext hi1 hrp0_5_2) t4 hA4) ?_
      rintro w v w' hs ⟨I8, rfl, hg⟩
      have hi8 := hg.le
      refine RL.resume (X' := []) rfl (hs.call hg) ?_
      clear hs hg
      generalize w'.heap.size = nx8
      clear w w'
      refine RL.simK (K' := [(4, .bool t4)]) [] (RFacts.nil _ _ _) 1 [.no] (by kernel_rfl) (by kernel_rfl) ?_
      refine RL.nil (by kernel_rfl) ?_
      refine QN.then_ ?_
      refine OK.ret (by kernel_rfl) ?_
      refine QN.blkR ?_
      refine QN.thenR ?_
      obtain rfl := Option.some.inj H
      refine QN.body rfl [] (RFacts.nil _ _ _) (.no) (.bool t4) (by kernel_rfl) (by kernel_rfl) (by kernel_rfl) ?_ _ (.inr rfl)
      exact fun w' hs' => ⟨_, rfl, I8, rfl, hs'.got _ .slnil⟩
     ·skip
      have hc := (beq_eq_false_iff_ne.1 hb)
      rw [if_neg hc] at H
      clear hb
      refine OK.seq K13_46 K13_48 (by kernel_rfl) ?_
      refine OK.region 11 O13_46 (by kernel_rfl) ?_
      refine RL.simK (K' := [(77, .bool (a0.f0 == 4)), (2, .pointer (some ⟨nx0, 0, none⟩))]) [] (RFacts.nil _ _ _) 2 [.no, .no] (by kernel_rfl) (by kernel_rfl) ?_
      refine RL.nil (by kernel_rfl) ?_
      refine QN.then_ ?_
      refine OK.cond (.tmp 77) K13_49 K13_53 (a0.f0 == 4) (by kernel_rfl) (by kernel_rfl) (by kernel_rfl) (fun hb => ?_) (fun hb => ?_)
      ·skip
       have hc := (beq_iff_eq.1 hb)
       rw [if_pos hc] at H
       clear hb
       refine OK.seq K13_50 K13_52 (by kernel_rfl) ?_
       refine OK.join (fun K' I' _ L' X' => ∃ (x3 : Bool), K' = [(4, .bool x3)] ∧ L' = [⟨nx0, [.int .i64 a0.f0, .int .i64 a0.f1, .int .i64 a0.f2, .int .i64 a0.f3, .int .u32 a0.f4, .int .i64 a0.f5.f0, .string a0.f5.f1, .slice Ap0_5_2 a0.f5.f2.length cp0_5_2], 32⟩] ∧ X' = [] ∧ Imm.le I1 I' ∧ armillaryref29_Valid.k2 x3 = some r) ?_ ?_
       ·rintro _ I9 nx9 _ _ ⟨x3, rfl, rfl, rfl, hi9, H⟩
        replace H : (some x3) = some r := H
        refine QN.then_ ?_
        refine OK.ret (by kernel_rfl) ?_
        refine QN.blkR ?_
        refine QN.thenR ?_
        obtain rfl := Option.some.inj H
        refine QN.body rfl [] (RFacts.nil _ _ _) (.no) (.bool x3) (by kernel_rfl) (by kernel_rfl) (by kernel_rfl) ?_ _ (.inr rfl)
        exact fun w' hs' => ⟨_, rfl, I9, rfl, hs'.got _ .slnil⟩
       ·intro Q_2 hJ3 hQ3
        obtain ⟨y3, H, HK3⟩ := Option.bind_eq_some_iff.mp H
        refine OK.region 12 O13_50 (by kernel_rfl) ?_
        refine RL.simK (K' := [(80, .agg #[.int .i64 a0.f5.f0, .string a0.f5.f1, .slice Ap0_5_2 a0.f5.f2.length cp0_5_2]), (2, .pointer (some ⟨nx0, 0, none⟩))]) [] (RFacts.nil _ _ _) 2 [.no, .l 0] (by kernel_rfl) (by kernel_rfl) ?_
        obtain ⟨t5, hA5, H⟩ := Option.bind_eq_some_iff.mp H
        refine RL.callP 34 [.agg #[.int .i64 a0.f5.f0, .string a0.f5.f1, .slice Ap0_5_2 a0.f5.f2.length cp0_5_2]] (some 81) (fun w => armillaryref29_zero.Post I1 w t5) (by kernel_rfl) (by kernel_rfl) (fun w hs => armillaryref29_zero.calls I1 a0.f5 Ap0_5_2 cp0_5_2 w hs.im hlp0_5_2 (Rd.ext hi1 hrp0_5_2) t5 hA5) ?_
        rintro w v w' hs ⟨I10, rfl, hg⟩
        have hi10 := hg.le
        refine RL.resume (X' := []) rfl (hs.call hg) ?_
        clear hs hg
        generalize w'.heap.size = nx10
        clear w w'
        refine RL.simK (K' := [(82, .bool t5), (2, .pointer (some ⟨nx0, 0, none⟩))]) [] (RFacts.nil _ _ _) 1 [.no] (by kernel_rfl) (by kernel_rfl) ?_
        refine RL.cases t5 (fun hb => ?_) (fun hb => ?_)
        ·have hc := hb
         rw [hb]
         rw [if_pos hc] at H; clear hb
         refine RL.simK (K' := [(87, .bool (a0.f3 == 0)), (2, .pointer (some ⟨nx0, 0, none⟩))]) [] (RFacts.nil _ _ _) 5 [.no, .l 0, .no, .no, .no] (by kernel_rfl) (by kernel_rfl) ?_
         refine RL.cases (a0.f3 == 0) (fun hb => ?_) (fun hb => ?_)
         ·have hc := (beq_iff_eq.1 hb)
          rw [hb]
          rw [if_pos hc] at H; clear hb
          refine RL.simK (K' := [(4, .bool (a0.f4 == 0))]) [] (RFacts.nil _ _ _) 5 [.no, .l 0, .no, .no, .no] (by kernel_rfl) (by kernel_rfl) ?_
          refine RL.nil (by kernel_rfl) ?_
          obtain rfl := Option.some.inj H
          refine QN.sub (K' := [(4, .bool (a0.f4 == 0))]) (L' := [⟨nx0, [.int .i64 a0.f0, .int .i64 a0.f1, .int .i64 a0.f2, .int .i64 a0.f3, .int .u32 a0.f4, .int .i64 a0.f5.f0, .string a0.f5.f1, .slice Ap0_5_2 a0.f5.f2.length cp0_5_2], 32⟩]) (by kernel_rfl) (.cons_cons _ .slnil) (.refl _) ?_
          exact hJ3 _ _ _ _ _ ⟨(a0.f4 == 0), rfl, rfl, rfl, hi10, HK3⟩
         ·have hc := (beq_eq_false_iff_ne.1 hb)
          rw [hb]
          rw [if_neg hc] at H; clear hb
          refine RL.simK (K' := [(4, .bool false)]) [] (RFacts.nil _ _ _) 5 [.no, .no, .no, .no, .no] (by kernel_rfl) (by kernel_rfl) ?_
          refine RL.nil (by kernel_rfl) ?_
          obtain rfl := Option.some.inj H
          refine QN.sub (K' := [(4, .bool false)]) (L' := [⟨nx0, [.int .i64 a0.f0, .int .i64 a0.f1, .int .i64 a0.f2, .int .i64 a0.f3, .int .u32 a0.f4, .int .i64 a0.f5.f0, .string a0.f5.f1, .slice Ap0_5_2 a0.f5.f2.length cp0_5_2], 32⟩]) (by kernel_rfl) (.cons_cons _ .slnil) (.refl _) ?_
          exact hJ3 _ _ _ _ _ ⟨false, rfl, rfl, rfl, hi10, HK3⟩
        ·have hc := (Bool.eq_false_iff.1 hb)
         rw [hb]
         rw [if_neg hc] at H; clear hb
         refine RL.simK (K' := [(4, .bool false)]) [] (RFacts.nil _ _ _) 10 [.no, .no, .no, .no, .no, .no, .no, .no, .no, .no] (by kernel_rfl) (by kernel_rfl) ?_
         refine RL.nil (by kernel_rfl) ?_
         obtain rfl := Option.some.inj H
         refine QN.sub (K' := [(4, .bool false)]) (L' := [⟨nx0, [.int .i64 a0.f0, .int .i64 a0.f1, .int .i64 a0.f2, .int .i64 a0.f3, .int .u32 a0.f4, .int .i64 a0.f5.f0, .string a0.f5.f1, .slice Ap0_5_2 a0.f5.f2.length cp0_5_2], 32⟩]) (by kernel_rfl) (.cons_cons _ .slnil) (.refl _) ?_
         exact hJ3 _ _ _ _ _ ⟨false, rfl, rfl, rfl, hi10, HK3⟩
      ·skip
       have hc := (beq_eq_false_iff_ne.1 hb)
       rw [if_neg hc] at H
       clear hb
       refine OK.skip (by kernel_rfl) ?_
       refine QN.blkN ?_
       refine QN.then_ ?_
       refine OK.seq K13_55 K13_57 (by kernel_rfl) ?_
       refine OK.region 13 O13_55 (by kernel_rfl) ?_
       refine RL.simK (K' := [(4, .bool false)]) [] (RFacts.nil _ _ _) 1 [.no] (by kernel_rfl) (by kernel_rfl) ?_
       refine RL.nil (by kernel_rfl) ?_
       refine QN.then_ ?_
       refine OK.ret (by kernel_rfl) ?_
       obtain rfl := Option.some.inj H
       refine QN.body rfl [] (RFacts.nil _ _ _) (.no) (.bool false) (by kernel_rfl) (by kernel_rfl) (by kernel_rfl) ?_ _ (.inr rfl)
       exact fun w' hs' => ⟨_, rfl, I1, rfl, hs'.got _ .slnil⟩
 ·intro Q_3 hJ1 hQ1
  obtain ⟨y1, H, HK1⟩ := Option.bind_eq_some_iff.mp H
  refine OK.region 1 O13_5 (by kernel_rfl) ?_
  refine RL.simK (K' := [(7, .int .i64 a1), (2, .pointer (some ⟨nx0, 0, none⟩)), (1, .int .i64 a1)]) [] (RFacts.nil _ _ _) 1 [.no] (by kernel_rfl) (by kernel_rfl) ?_
  obtain ⟨t6, hA6, H⟩ := Option.bind_eq_some_iff.mp H
  refine RL.callP 33 [.int .i64 a1] (some 8) (fun w => armillaryref29_replicas.Post I0 w t6) (by kernel_rfl) (by kernel_rfl) (fun w hs => armillaryref29_replicas.calls I0 a1 w hs.im  t6 hA6) ?_
  rintro w v w' hs ⟨I11, rfl, hg⟩
  have hi11 := hg.le
  refine RL.resume (X' := []) rfl (hs.call hg) ?_
  clear hs hg
  generalize w'.heap.size = nx11
  clear w w'
  refine RL.simK (K' := [(10, .bool (!t6)), (2, .pointer (some ⟨nx0, 0, none⟩)), (1, .int .i64 a1)]) [] (RFacts.nil _ _ _) 2 [.no, .no] (by kernel_rfl) (by kernel_rfl) ?_
  refine RL.cases t6 (fun hb => ?_) (fun hb => ?_)
  ·have hc := hb
   rw [hb]
   rw [if_pos hc] at H; clear hb
   refine RL.simK (K' := [(15, .bool (decide (a0.f1 < 0))), (2, .pointer (some ⟨nx0, 0, none⟩)), (1, .int .i64 a1)]) [] (RFacts.nil _ _ _) 5 [.no, .l 0, .no, .no, .no] (by kernel_rfl) (by kernel_rfl) ?_
   refine RL.cases (decide (a0.f1 < 0)) (fun hb => ?_) (fun hb => ?_)
   ·have hc := (of_decide_eq_true hb)
    rw [hb]
    rw [if_pos hc] at H; clear hb
    refine RL.simK (K' := [(40, .bool true), (2, .pointer (some ⟨nx0, 0, none⟩)), (1, .int .i64 a1)]) [] (RFacts.nil _ _ _) 25 [.no, .no, .no, .no, .no, .no, .no, .no, .no, .no, .no, .no, .no, .no, .no, .no, .no, .no, .no, .no, .no, .no, .no, .no, .no] (by kernel_rfl) (by kernel_rfl) ?_
    refine RL.nil (by kernel_rfl) ?_
    obtain rfl := Option.some.inj H
    refine QN.sub (K' := [(1, .int .i64 a1), (2, .pointer (some ⟨nx0, 0, none⟩)), (40, .bool true)]) (L' := [⟨nx0, [.int .i64 a0.f0, .int .i64 a0.f1, .int .i64 a0.f2, .int .i64 a0.f3, .int .u32 a0.f4, .int .i64 a0.f5.f0, .string a0.f5.f1, .slice Ap0_5_2 a0.f5.f2.length cp0_5_2], 32⟩]) (by kernel_rfl) (.cons_cons _ .slnil) (.refl _) ?_
    exact hJ1 _ _ _ _ _ ⟨true, rfl, rfl, rfl, hi11, HK1⟩
   ·have hc := (of_decide_eq_false hb)
    rw [hb]
    rw [if_neg hc] at H; clear hb
    refine RL.simK (K' := [(21, .bool (decide (a0.f1 ≥ a1))), (2, .pointer (some ⟨nx0, 0, none⟩)), (1, .int .i64 a1)]) [] (RFacts.nil _ _ _) 6 [.no, .l 0, .no, .no, .no, .no] (by kernel_rfl) (by kernel_rfl) ?_
    refine RL.cases (decide (a0.f1 ≥ a1)) (fun hb => ?_) (fun hb => ?_)
    ·have hc := (of_decide_eq_true hb)
     rw [hb]
     rw [if_pos hc] at H; clear hb
     refine RL.simK (K' := [(40, .bool true), (2, .pointer (some ⟨nx0, 0, none⟩)), (1, .int .i64 a1)]) [] (RFacts.nil _ _ _) 19 [.no, .no, .no, .no, .no, .no, .no, .no, .no, .no, .no, .no, .no, .no, .no, .no, .no, .no, .no] (by kernel_rfl) (by kernel_rfl) ?_
     refine RL.nil (by kernel_rfl) ?_
     obtain rfl := Option.some.inj H
     refine QN.sub (K' := [(1, .int .i64 a1), (2, .pointer (some ⟨nx0, 0, none⟩)), (40, .bool true)]) (L' := [⟨nx0, [.int .i64 a0.f0, .int .i64 a0.f1, .int .i64 a0.f2, .int .i64 a0.f3, .int .u32 a0.f4, .int .i64 a0.f5.f0, .string a0.f5.f1, .slice Ap0_5_2 a0.f5.f2.length cp0_5_2], 32⟩]) (by kernel_rfl) (.cons_cons _ .slnil) (.refl _) ?_
     exact hJ1 _ _ _ _ _ ⟨true, rfl, rfl, rfl, hi11, HK1⟩
    ·have hc := (of_decide_eq_false hb)
     rw [hb]
     rw [if_neg hc] at H; clear hb
     refine RL.simK (K' := [(26, .bool (decide (a0.f2 < 0))), (2, .pointer (some ⟨nx0, 0, none⟩)), (1, .int .i64 a1)]) [] (RFacts.nil _ _ _) 5 [.no, .l 0, .no, .no, .no] (by kernel_rfl) (by kernel_rfl) ?_
     refine RL.cases (decide (a0.f2 < 0)) (fun hb => ?_) (fun hb => ?_)
     ·have hc := (of_decide_eq_true hb)
      rw [hb]
      rw [if_pos hc] at H; clear hb
      refine RL.simK (K' := [(40, .bool true), (2, .pointer (some ⟨nx0, 0, none⟩)), (1, .int .i64 a1)]) [] (RFacts.nil _ _ _) 14 [.no, .no, .no, .no, .no, .no, .no, .no, .no, .no, .no, .no, .no, .no] (by kernel_rfl) (by kernel_rfl) ?_
      refine RL.nil (by kernel_rfl) ?_
      obtain rfl := Option.some.inj H
      refine QN.sub (K' := [(1, .int .i64 a1), (2, .pointer (some ⟨nx0, 0, none⟩)), (40, .bool true)]) (L' := [⟨nx0, [.int .i64 a0.f0, .int .i64 a0.f1, .int .i64 a0.f2, .int .i64 a0.f3, .int .u32 a0.f4, .int .i64 a0.f5.f0, .string a0.f5.f1, .slice Ap0_5_2 a0.f5.f2.length cp0_5_2], 32⟩]) (by kernel_rfl) (.cons_cons _ .slnil) (.refl _) ?_
      exact hJ1 _ _ _ _ _ ⟨true, rfl, rfl, rfl, hi11, HK1⟩
     ·have hc := (of_decide_eq_false hb)
      rw [hb]
      rw [if_neg hc] at H; clear hb
      refine RL.simK (K' := [(31, .bool (decide (a0.f2 > 1048576))), (2, .pointer (some ⟨nx0, 0, none⟩)), (1, .int .i64 a1)]) [] (RFacts.nil _ _ _) 5 [.no, .l 0, .no, .no, .no] (by kernel_rfl) (by kernel_rfl) ?_
      refine RL.cases (decide (a0.f2 > 1048576)) (fun hb => ?_) (fun hb => ?_)
      ·have hc := (of_decide_eq_true hb)
       rw [hb]
       rw [if_pos hc] at H; clear hb
       refine RL.simK (K' := [(40, .bool true), (2, .pointer (some ⟨nx0, 0, none⟩)), (1, .int .i64 a1)]) [] (RFacts.nil _ _ _) 9 [.no, .no, .no, .no, .no, .no, .no, .no, .no] (by kernel_rfl) (by kernel_rfl) ?_
       refine RL.nil (by kernel_rfl) ?_
       obtain rfl := Option.some.inj H
       refine QN.sub (K' := [(1, .int .i64 a1), (2, .pointer (some ⟨nx0, 0, none⟩)), (40, .bool true)]) (L' := [⟨nx0, [.int .i64 a0.f0, .int .i64 a0.f1, .int .i64 a0.f2, .int .i64 a0.f3, .int .u32 a0.f4, .int .i64 a0.f5.f0, .string a0.f5.f1, .slice Ap0_5_2 a0.f5.f2.length cp0_5_2], 32⟩]) (by kernel_rfl) (.cons_cons _ .slnil) (.refl _) ?_
       exact hJ1 _ _ _ _ _ ⟨true, rfl, rfl, rfl, hi11, HK1⟩
      ·have hc := (of_decide_eq_false hb)
       rw [hb]
       rw [if_neg hc] at H; clear hb
       refine RL.simK (K' := [(36, .bool (decide (a0.f3 < 0))), (2, .pointer (some ⟨nx0, 0, none⟩)), (1, .int .i64 a1)]) [] (RFacts.nil _ _ _) 5 [.no, .l 0, .no, .no, .no] (by kernel_rfl) (by kernel_rfl) ?_
       refine RL.cases (decide (a0.f3 < 0)) (fun hb => ?_) (fun hb => ?_)
       ·have hc := (of_decide_eq_true hb)
        rw [hb]
        rw [if_pos hc] at H; clear hb
        refine RL.simK (K' := [(40, .bool true), (2, .pointer (some ⟨nx0, 0, none⟩)), (1, .int .i64 a1)]) [] (RFacts.nil _ _ _) 4 [.no, .no, .no, .no] (by kernel_rfl) (by kernel_rfl) ?_
        refine RL.nil (by kernel_rfl) ?_
        obtain rfl := Option.some.inj H
        refine QN.sub (K' := [(1, .int .i64 a1), (2, .pointer (some ⟨nx0, 0, none⟩)), (40, .bool true)]) (L' := [⟨nx0, [.int .i64 a0.f0, .int .i64 a0.f1, .int .i64 a0.f2, .int .i64 a0.f3, .int .u32 a0.f4, .int .i64 a0.f5.f0, .string a0.f5.f1, .slice Ap0_5_2 a0.f5.f2.length cp0_5_2], 32⟩]) (by kernel_rfl) (.cons_cons _ .slnil) (.refl _) ?_
        exact hJ1 _ _ _ _ _ ⟨true, rfl, rfl, rfl, hi11, HK1⟩
       ·have hc := (of_decide_eq_false hb)
        rw [hb]
        rw [if_neg hc] at H; clear hb
        refine RL.simK (K' := [(40, .bool (decide (a0.f3 ≥ 1000))), (2, .pointer (some ⟨nx0, 0, none⟩)), (1, .int .i64 a1)]) [] (RFacts.nil _ _ _) 4 [.no, .l 0, .no, .no] (by kernel_rfl) (by kernel_rfl) ?_
        refine RL.nil (by kernel_rfl) ?_
        obtain rfl := Option.some.inj H
        refine QN.sub (K' := [(1, .int .i64 a1), (2, .pointer (some ⟨nx0, 0, none⟩)), (40, .bool (decide (a0.f3 ≥ 1000)))]) (L' := [⟨nx0, [.int .i64 a0.f0, .int .i64 a0.f1, .int .i64 a0.f2, .int .i64 a0.f3, .int .u32 a0.f4, .int .i64 a0.f5.f0, .string a0.f5.f1, .slice Ap0_5_2 a0.f5.f2.length cp0_5_2], 32⟩]) (by kernel_rfl) (.cons_cons _ .slnil) (.refl _) ?_
        exact hJ1 _ _ _ _ _ ⟨(decide (a0.f3 ≥ 1000)), rfl, rfl, rfl, hi11, HK1⟩
  ·have hc := (Bool.eq_false_iff.1 hb)
   rw [hb]
   rw [if_neg hc] at H; clear hb
   refine RL.simK (K' := [(40, .bool true), (2, .pointer (some ⟨nx0, 0, none⟩)), (1, .int .i64 a1)]) [] (RFacts.nil _ _ _) 30 (.no :: .no :: .no :: .no :: .no :: .no :: .no :: .no :: .no :: .no :: .no :: .no :: .no :: .no :: .no :: .no :: .no :: .no :: .no :: .no :: .no :: .no :: .no :: .no :: .no :: .no :: .no :: .no :: .no :: .no :: []) (by kernel_rfl) (by kernel_rfl) ?_
   refine RL.nil (by kernel_rfl) ?_
   obtain rfl := Option.some.inj H
   refine QN.sub (K' := [(1, .int .i64 a1), (2, .pointer (some ⟨nx0, 0, none⟩)), (40, .bool true)]) (L' := [⟨nx0, [.int .i64 a0.f0, .int .i64 a0.f1, .int .i64 a0.f2, .int .i64 a0.f3, .int .u32 a0.f4, .int .i64 a0.f5.f0, .string a0.f5.f1, .slice Ap0_5_2 a0.f5.f2.length cp0_5_2], 32⟩]) (by kernel_rfl) (.cons_cons _ .slnil) (.refl _) ?_
   exact hJ1 _ _ _ _ _ ⟨true, rfl, rfl, rfl, hi11, HK1⟩

end Go.Proofs.Ytieakigoinebdaa
namespace Go.Proofs.Ytieakigoinebdaa
open Go Go.Proofs.Ytieakigoinebdaa.RW
set_option linter.unusedVariables false
set_option maxRecDepth 100000
set_option maxHeartbeats 8000000

/-! ### armillaryref29_MaxFaulty: function 21, armillary/armillaryref29.MaxFaulty -/
noncomputable def K21_0 : Code := cBody Try.f21
noncomputable def K21_1 : Code := cL K21_0
noncomputable def O21_1 : List Oper := cOps K21_1
noncomputable def K21_3 : Code := cR K21_0
noncomputable def K21_4 : Code := cL K21_3
noncomputable def K21_5 : Code := cL K21_4
noncomputable def O21_5 : List Oper := cOps K21_5
noncomputable def K21_7 : Code := cR K21_4
noncomputable def K21_8 : Code := cL K21_7
noncomputable def K21_9 : Code := cL K21_8
noncomputable def O21_9 : List Oper := cOps K21_9
noncomputable def K21_11 : Code := cR K21_8
noncomputable def K21_12 : Code := cR K21_7
noncomputable def K21_13 : Code := cR K21_3
noncomputable def K21_14 : Code := cL K21_13
noncomputable def O21_14 : List Oper := cOps K21_14
noncomputable def K21_16 : Code := cR K21_13
def armillaryref29_MaxFaulty.f (a0 : Int) : Option (Int) := ((armillaryref29_replicas.f a0).bind fun t1 => (if t1 = true then (some (W .i64 ((W .i64 (a0 - 1)).tdiv 3))) else (some 0)))
def armillaryref29_MaxFaulty.Post (I : Imm) (w : World) (r : Int) (v : Value) (w' : World) : Prop :=
 ∃ (J : Imm), v = .int .i64 r ∧ Got w w' I J []
theorem armillaryref29_MaxFaulty.calls (I0 : Imm) (a0 : Int) (w : World) (hI : I0.at_ w)  (r : Int) (h : armillaryref29_MaxFaulty.f a0 = some r) :
  Calls Try.prog 21 [.int .i64 a0].toArray w fun e w' => ∃ v, e = .returned v ∧ armillaryref29_MaxFaulty.Post I0 w r v w' := by
 have H : ((armillaryref29_replicas.f a0).bind fun t1 => (if t1 = true then (some (W .i64 ((W .i64 (a0 - 1)).tdiv 3))) else (some 0))) = some r := h
 clear h
 refine calls_body Try.func21 (by kernel_rfl) 9 (by kernel_rfl) (by kernel_rfl) ⟨w, fun _ => False, I0⟩ I0 [] [(0, .int .i64 a0)] (by kernel_rfl) (Sat.start w _ I0 hI) ?_
 generalize w.heap.size = nx0
 show OK _ K21_0 _ _ _ _ _ _ _ _
 refine OK.seq K21_1 K21_3 (by kernel_rfl) ?_
 refine OK.region 0 O21_1 (by kernel_rfl) ?_
 refine RL.simK (K' := [(0, .int .i64 a0)]) [] (RFacts.nil _ _ _) 1 [.no] (by kernel_rfl) (by kernel_rfl) ?_
 refine RL.nil (by kernel_rfl) ?_
 refine QN.then_ ?_
 refine OK.seq K21_4 K21_13 (by kernel_rfl) ?_
 refine OK.seq K21_5 K21_7 (by kernel_rfl) ?_
 refine OK.region 1 O21_5 (by kernel_rfl) ?_
 refine RL.simK (K' := [(3, .int .i64 a0), (0, .int .i64 a0)]) [] (RFacts.nil _ _ _) 1 [.no] (by kernel_rfl) (by kernel_rfl) ?_
 obtain ⟨t1, hA1, H⟩ := Option.bind_eq_some_iff.mp H
 refine RL.callP 33 [.int .i64 a0] (some 4) (fun w => armillaryref29_replicas.Post I0 w t1) (by kernel_rfl) (by kernel_rfl) (fun w hs => armillaryref29_replicas.calls I0 a0 w hs.im  t1 hA1) ?_
 rintro w v w' hs ⟨I1, rfl, hg⟩
 have hi1 := hg.le
 refine RL.resume (X' := []) rfl (hs.call hg) ?_
 clear hs hg
 generalize w'.heap.size = nx1
 clear w w'
 refine RL.simK (K' := [(5, .bool (!t1)), (0, .int .i64 a0)]) [] (RFacts.nil _ _ _) 1 [.no] (by kernel_rfl) (by kernel_rfl) ?_
 refine RL.nil (by kernel_rfl) ?_
 refine QN.then_ ?_
 refine OK.cond (.tmp 5) K21_8 K21_12 (!t1) (by kernel_rfl) (by kernel_rfl) (by kernel_rfl) (fun hb => ?_) (fun hb => ?_)
 ·have hb : t1 = false := by simpa using hb
  have hc := (Bool.eq_false_iff.1 hb)
  rw [if_neg hc] at H
  clear hb
  refine OK.seq K21_9 K21_11 (by kernel_rfl) ?_
  refine OK.region 2 O21_9 (by kernel_rfl) ?_
  refine RL.simK (K' := [(2, .int .i64 0)]) [] (RFacts.nil _ _ _) 1 [.no] (by kernel_rfl) (by kernel_rfl) ?_
  refine RL.nil (by kernel_rfl) ?_
  refine QN.then_ ?_
  refine OK.ret (by kernel_rfl) ?_
  refine QN.thenR ?_
  obtain rfl := Option.some.inj H
  refine QN.body rfl [] (RFacts.nil _ _ _) (.no) (.int .i64 0) (by kernel_rfl) (by kernel_rfl) (by kernel_rfl) ?_ _ (.inr rfl)
  exact fun w' hs' => ⟨_, rfl, I1, rfl, hs'.got _ .slnil⟩
 ·have hb : t1 = true := by simpa using hb
  have hc := hb
  rw [if_pos hc] at H
  clear hb
  refine OK.skip (by kernel_rfl) ?_
  refine QN.then_ ?_
  refine OK.seq K21_14 K21_16 (by kernel_rfl) ?_
  refine OK.region 3 O21_14 (by kernel_rfl) ?_
  refine RL.simK (K' := [(2, .int .i64 (W .i64 ((W .i64 (a0 - 1)).tdiv 3)))]) [] (RFacts.nil _ _ _) 4 [.no, .no, .no, .no] (by kernel_rfl) (by kernel_rfl) ?_
  refine RL.nil (by kernel_rfl) ?_
  refine QN.then_ ?_
  refine OK.ret (by kernel_rfl) ?_
  obtain rfl := Option.some.inj H
  refine QN.body rfl [] (RFacts.nil _ _ _) (.no) (.int .i64 (W .i64 ((W .i64 (a0 - 1)).tdiv 3))) (by kernel_rfl) (by kernel_rfl) (by kernel_rfl) ?_ _ (.inr rfl)
  exact fun w' hs' => ⟨_, rfl, I1, rfl, hs'.got _ .slnil⟩

end Go.Proofs.Ytieakigoinebdaa
namespace Go.Proofs.Ytieakigoinebdaa
open Go Go.Proofs.Ytieakigoinebdaa.RW
set_option linter.unusedVariables false
set_option maxRecDepth 100000
set_option maxHeartbeats 8000000

/-! ### armillaryref29_Size: function 23, armillary/armillaryref29.Size -/
noncomputable def K23_0 : Code := cBody Try.f23
noncomputable def K23_1 : Code := cL K23_0
noncomputable def O23_1 : List Oper := cOps K23_1
noncomputable def K23_3 : Code := cR K23_0
noncomputable def K23_4 : Code := cL K23_3
noncomputable def K23_5 : Code := cL K23_4
noncomputable def O23_5 : List Oper := cOps K23_5
noncomputable def K23_7 : Code := cR K23_4
noncomputable def K23_8 : Code := cL K23_7
noncomputable def K23_9 : Code := cL K23_8
noncomputable def O23_9 : List Oper := cOps K23_9
noncomputable def K23_11 : Code := cR K23_8
noncomputable def K23_12 : Code := cR K23_7
noncomputable def K23_13 : Code := cR K23_3
noncomputable def K23_14 : Code := cL K23_13
noncomputable def O23_14 : List Oper := cOps K23_14
noncomputable def K23_16 : Code := cR K23_13
def armillaryref29_Size.f (a0 : Int) : Option (Int) := ((armillaryref29_replicas.f a0).bind fun t1 => (if t1 = true then ((armillaryref29_MaxFaulty.f a0).bind fun t2 => (some (W .i64 (a0 - t2)))) else (some 0)))
def armillaryref29_Size.Post (I : Imm) (w : World) (r : Int) (v : Value) (w' : World) : Prop :=
 ∃ (J : Imm), v = .int .i64 r ∧ Got w w' I J []
theorem armillaryref29_Size.calls (I0 : Imm) (a0 : Int) (w : World) (hI : I0.at_ w)  (r : Int) (h : armillaryref29_Size.f a0 = some r) :
  Calls Try.prog 23 [.int .i64 a0].toArray w fun e w' => ∃ v, e = .returned v ∧ armillaryref29_Size.Post I0 w r v w' := by
 have H : ((armillaryref29_replicas.f a0).bind fun t1 => (if t1 = true then ((armillaryref29_MaxFaulty.f a0).bind fun t2 => (some (W .i64 (a0 - t2)))) else (some 0))) = some r := h
 clear h
 refine calls_body Try.func23 (by kernel_rfl) 10 (by kernel_rfl) (by kernel_rfl) ⟨w, fun _ => False, I0⟩ I0 [] [(0, .int .i64 a0)] (by kernel_rfl) (Sat.start w _ I0 hI) ?_
 generalize w.heap.size = nx0
 show OK _ K23_0 _ _ _ _ _ _ _ _
 refine OK.seq K23_1 K23_3 (by kernel_rfl) ?_
 refine OK.region 0 O23_1 (by kernel_rfl) ?_
 refine RL.simK (K' := [(0, .int .i64 a0)]) [] (RFacts.nil _ _ _) 1 [.no] (by kernel_rfl) (by kernel_rfl) ?_
 refine RL.nil (by kernel_rfl) ?_
 refine QN.then_ ?_
 refine OK.seq K23_4 K23_13 (by kernel_rfl) ?_
 refine OK.seq K23_5 K23_7 (by kernel_rfl) ?_
 refine OK.region 1 O23_5 (by kernel_rfl) ?_
 refine RL.simK (K' := [(3, .int .i64 a0), (0, .int .i64 a0)]) [] (RFacts.nil _ _ _) 1 [.no] (by kernel_rfl) (by kernel_rfl) ?_
 obtain ⟨t1, hA1, H⟩ := Option.bind_eq_some_iff.mp H
 refine RL.callP 33 [.int .i64 a0] (some 4) (fun w => armillaryref29_replicas.Post I0 w t1) (by kernel_rfl) (by kernel_rfl) (fun w hs => armillaryref29_replicas.calls I0 a0 w hs.im  t1 hA1) ?_
 rintro w v w' hs ⟨I1, rfl, hg⟩
 have hi1 := hg.le
 refine RL.resume (X' := []) rfl (hs.call hg) ?_
 clear hs hg
 generalize w'.heap.size = nx1
 clear w w'
 refine RL.simK (K' := [(5, .bool (!t1)), (0, .int .i64 a0)]) [] (RFacts.nil _ _ _) 1 [.no] (by kernel_rfl) (by kernel_rfl) ?_
 refine RL.nil (by kernel_rfl) ?_
 refine QN.then_ ?_
 refine OK.cond (.tmp 5) K23_8 K23_12 (!t1) (by kernel_rfl) (by kernel_rfl) (by kernel_rfl) (fun hb => ?_) (fun hb => ?_)
 ·have hb : t1 = false := by simpa using hb
  have hc := (Bool.eq_false_iff.1 hb)
  rw [if_neg hc] at H
  clear hb
  refine OK.seq K23_9 K23_11 (by kernel_rfl) ?_
  refine OK.region 2 O23_9 (by kernel_rfl) ?_
  refine RL.simK (K' := [(2, .int .i64 0)]) [] (RFacts.nil _ _ _) 1 [.no] (by kernel_rfl) (by kernel_rfl) ?_
  refine RL.nil (by kernel_rfl) ?_
  refine QN.then_ ?_
  refine OK.ret (by kernel_rfl) ?_
  refine QN.thenR ?_
  obtain rfl := Option.some.inj H
  refine QN.body rfl [] (RFacts.nil _ _ _) (.no) (.int .i64 0) (by kernel_rfl) (by kernel_rfl) (by kernel_rfl) ?_ _ (.inr rfl)
  exact fun w' hs' => ⟨_, rfl, I1, rfl, hs'.got _ .slnil⟩
 ·have hb : t1 = true := by simpa using hb
  have hc := hb
  rw [if_pos hc] at H
  clear hb
  refine OK.skip (by kernel_rfl) ?_
  refine QN.then_ ?_
  refine OK.seq K23_14 K23_16 (by kernel_rfl) ?_
  refine OK.region 3 O23_14 (by kernel_rfl) ?_
  refine RL.simK (K' := [(7, .int .i64 a0), (6, .int .i64 a0)]) [] (RFacts.nil _ _ _) 2 [.no, .no] (by kernel_rfl) (by kernel_rfl) ?_
  obtain ⟨t2, hA2, H⟩ := Option.bind_eq_some_iff.mp H
  refine RL.callP 21 [.int .i64 a0] (some 8) (fun w => armillaryref29_MaxFaulty.Post I1 w t2) (by kernel_rfl) (by kernel_rfl) (fun w hs => armillaryref29_MaxFaulty.calls I1 a0 w hs.im  t2 hA2) ?_
  rintro w v w' hs ⟨I2, rfl, hg⟩
  have hi2 := hg.le
  refine RL.resume (X' := []) rfl (hs.call hg) ?_
  clear hs hg
  generalize w'.heap.size = nx2
  clear w w'
  refine RL.simK (K' := [(2, .int .i64 (W .i64 (a0 - t2)))]) [] (RFacts.nil _ _ _) 2 [.no, .no] (by kernel_rfl) (by kernel_rfl) ?_
  refine RL.nil (by kernel_rfl) ?_
  refine QN.then_ ?_
  refine OK.ret (by kernel_rfl) ?_
  obtain rfl := Option.some.inj H
  refine QN.body rfl [] (RFacts.nil _ _ _) (.no) (.int .i64 (W .i64 (a0 - t2))) (by kernel_rfl) (by kernel_rfl) (by kernel_rfl) ?_ _ (.inr rfl)
  exact fun w' hs' => ⟨_, rfl, I2, rfl, hs'.got _ .slnil⟩

end Go.Proofs.Ytieakigoinebdaa
namespace Go.Proofs.Ytieakigoinebdaa
open Go Go.Proofs.Ytieakigoinebdaa.RW
set_option linter.unusedVariables false
set_option maxRecDepth 100000
set_option maxHeartbeats 8000000

/-! ### armillaryref29_counts: function 46, armillary/armillaryref29.counts -/
noncomputable def K46_0 : Code := cBody Try.f46
noncomputable def K46_1 : Code := cL K46_0
noncomputable def O46_1 : List Oper := cOps K46_1
noncomputable def K46_3 : Code := cR K46_0
noncomputable def K46_4 : Code := cL K46_3
noncomputable def K46_5 : Code := cL K46_4
noncomputable def O46_5 : List Oper := cOps K46_5
noncomputable def K46_7 : Code := cR K46_4
noncomputable def K46_8 : Code := cL K46_7
noncomputable def K46_9 : Code := cL K46_8
noncomputable def O46_9 : List Oper := cOps K46_9
noncomputable def K46_11 : Code := cR K46_8
noncomputable def K46_12 : Code := cR K46_7
noncomputable def K46_13 : Code := cR K46_3
noncomputable def K46_14 : Code := cL K46_13
noncomputable def K46_15 : Code := cL K46_14
noncomputable def O46_15 : List Oper := cOps K46_15
noncomputable def K46_17 : Code := cR K46_14
noncomputable def K46_18 : Code := cL K46_17
noncomputable def K46_19 : Code := cL K46_18
noncomputable def K46_20 : Code := cL K46_19
noncomputable def K46_21 : Code := cL K46_20
noncomputable def O46_21 : List Oper := cOps K46_21
noncomputable def K46_23 : Code := cR K46_20
noncomputable def K46_24 : Code := cL K46_23
noncomputable def K46_25 : Code := cR K46_23
noncomputable def K46_26 : Code := cR K46_19
noncomputable def K46_27 : Code := cL K46_26
noncomputable def K46_28 : Code := cL K46_27
noncomputable def K46_29 : Code := cL K46_28
noncomputable def O46_29 : List Oper := cOps K46_29
noncomputable def K46_31 : Code := cR K46_28
noncomputable def K46_32 : Code := cL K46_31
noncomputable def K46_33 : Code := cL K46_32
noncomputable def O46_33 : List Oper := cOps K46_33
noncomputable def K46_35 : Code := cR K46_32
noncomputable def K46_36 : Code := cR K46_31
noncomputable def K46_37 : Code := cR K46_26
noncomputable def O46_37 : List Oper := cOps K46_37
noncomputable def K46_39 : Code := cR K46_13
noncomputable def K46_40 : Code := cL K46_39
noncomputable def O46_40 : List Oper := cOps K46_40
noncomputable def K46_42 : Code := cR K46_39
def armillaryref29_counts.k1  : (Unit) ⊕ (Bool) → Option (Bool)
 | .inl () => (some true)
 | .inr r_ => some r_
def armillaryref29_counts.l1 (a0 : List S32) (a1 : Int) (a2 : Int) : Nat → Int → Option ((Unit) ⊕ (Bool))
 | 0, _ => none
 | k + 1, x1 => (if x1 < a2 then ((if 0 ≤ x1 then (if x1 < (a0.length : Int) then (if 0 ≤ a2 then (if a2 < (a0.length : Int) then (if ((a0.getD (x1).toNat z32).f0) = ((a0.getD (a2).toNat z32).f0) then (if 0 ≤ x1 then (if x1 < (a0.length : Int) then (if 0 ≤ a2 then (if a2 < (a0.length : Int) then (if ((a0.getD (x1).toNat z32).f1) = ((a0.getD (a2).toNat z32).f1) then (if 0 ≤ x1 then (if x1 < (a0.length : Int) then (if 0 ≤ a2 then (if a2 < (a0.length : Int) then (if ((a0.getD (x1).toNat z32).f2) = ((a0.getD (a2).toNat z32).f2) then (if 0 ≤ x1 then (if x1 < (a0.length : Int) then (if 0 ≤ a2 then (if a2 < (a0.length : Int) then (if ((a0.getD (x1).toNat z32).f3) = ((a0.getD (a2).toNat z32).f3) then (if 0 ≤ x1 then (if x1 < (a0.length : Int) then ((armillaryref29_Valid.f k (a0.getD (x1).toNat z32) a1).bind fun t2 => (some t2)) else none) else none) else (some false)) else none) else none) else none) else none) else (some false)) else none) else none) else none) else none) else (some false)) else none) else none) else none) else none) else (some false)) else none) else none) else none) else none).bind (fun x2 => (if x2 = true then (some (Sum.inr false)) else (armillaryref29_counts.l1 a0 a1 a2 k (W .i64 (x1 + 1)))))) else (some (Sum.inl ())))
def armillaryref29_counts.f (k : Nat) (a0 : List S32) (a1 : Int) (a2 : Int) : Option (Bool) := (if 0 ≤ a2 then (if a2 < (a0.length : Int) then ((armillaryref29_Valid.f k (a0.getD (a2).toNat z32) a1).bind fun t1 => (if t1 = true then ((armillaryref29_counts.l1 a0 a1 a2 k 0).bind (armillaryref29_counts.k1)) else (some false))) else none) else none)
def armillaryref29_counts.Post (I : Imm) (w : World) (r : Bool) (v : Value) (w' : World) : Prop :=
 ∃ (J : Imm), v = .bool r ∧ Got w w' I J []
noncomputable def a46_29n : List Nat := (0 :: 0 :: 3 :: 7 :: 15 :: 0 :: 0 :: 96 :: 224 :: 480 :: 1023 :: 2047 :: 4095 :: 4095 :: 16383 :: 32767 :: 65535 :: 4095 :: 4095 :: 397311 :: 921599 :: 1970175 :: 4194303 :: 8388607 :: 16777215 :: 33554431 :: 33554431 :: 134217727 :: 268435455 :: 536870911 :: 33554431 :: 33554431 :: 3254779903 :: 7549747199 :: 16139681791 :: 34359738367 :: 68719476735 :: 137438953471 :: 274877906943 :: 274877906943 :: 1099511627775 :: 2199023255551 :: 4398046511103 :: 274877906943 :: 274877906943 :: 26663156973567 :: 61847529062399 :: 132216273240063 :: 281474976710655 :: 562949953421311 :: 1125899906842623 :: 2251799813685247 :: 2251799813685247 :: 9007199254740991 :: 18014398509481983 :: 2251799813685247 :: 72057594037927935 :: 144115188075855871 :: [])
theorem a46_29 : ancs O46_29 [] = a46_29n := by kernel_rfl
theorem a46_29o : drawOk O46_29 a46_29n 56 = true := by kernel_rfl
noncomputable def u46d1l  : List Ld :=
 []
noncomputable def u46d1g (a2 : Int) (x1 : Int) (g2_ : Nat) (o2_ : Nat) (g3_ : Nat) (o3_ : Nat) (g4_ : Nat) (o4_ : Nat) (g5_ : Nat) (o5_ : Nat) (g6_ : Nat) (o6_ : Nat) (g7_ : Nat) (o7_ : Nat) (g8_ : Nat) (o8_ : Nat) (g9_ : Nat) (o9_ : Nat) (g10_ : Nat) (o10_ : Nat) : List (Nat × ((Nat → Wt) → Value)) := [(2, fun u => .pointer (some ⟨g2_, o2_ + (x1).toNat * 8, none⟩)), (7, fun u => .pointer (some ⟨g3_, o3_ + (a2).toNat * 8, none⟩)), (11, fun u => .bool true), (14, fun u => .pointer (some ⟨g4_, o4_ + (x1).toNat * 8, none⟩)), (19, fun u => .pointer (some ⟨g5_, o5_ + (a2).toNat * 8, none⟩)), (24, fun u => .bool true), (27, fun u => .pointer (some ⟨g6_, o6_ + (x1).toNat * 8, none⟩)), (32, fun u => .pointer (some ⟨g7_, o7_ + (a2).toNat * 8, none⟩)), (37, fun u => .bool true), (40, fun u => .pointer (some ⟨g8_, o8_ + (x1).toNat * 8, none⟩)), (45, fun u => .pointer (some ⟨g9_, o9_ + (a2).toNat * 8, none⟩)), (50, fun u => .bool true), (53, fun u => .pointer (some ⟨g10_, o10_ + (x1).toNat * 8, none⟩))]
noncomputable def u46d1q (a0 : List S32) (Ap0 : Option Addr) (cp0 : Nat) (a1 : Int) (a2 : Int) (x1 : Int) (g2_ : Nat) (o2_ : Nat) (g3_ : Nat) (o3_ : Nat) (g4_ : Nat) (o4_ : Nat) (g5_ : Nat) (o5_ : Nat) (g6_ : Nat) (o6_ : Nat) (g7_ : Nat) (o7_ : Nat) (g8_ : Nat) (o8_ : Nat) (g9_ : Nat) (o9_ : Nat) (A10_5_2_ : Option Addr) (c10_5_2_ : Nat) (g10_ : Nat) (o10_ : Nat) (u : Nat → Wt) : Option (List Value × List (Nat × Value) × List (Nat × Nat)) := qSim Try.prog [(⟨g2_, o2_ + (x1).toNat * 8, none⟩, .int .i64 ((a0.getD (x1).toNat z32).f0)), (⟨g3_, o3_ + (a2).toNat * 8, none⟩, .int .i64 ((a0.getD (a2).toNat z32).f0)), (⟨g4_, o4_ + (x1).toNat * 8 + 1, none⟩, .int .i64 ((a0.getD (x1).toNat z32).f1)), (⟨g5_, o5_ + (a2).toNat * 8 + 1, none⟩, .int .i64 ((a0.getD (a2).toNat z32).f1)), (⟨g6_, o6_ + (x1).toNat * 8 + 2, none⟩, .int .i64 ((a0.getD (x1).toNat z32).f2)), (⟨g7_, o7_ + (a2).toNat * 8 + 2, none⟩, .int .i64 ((a0.getD (a2).toNat z32).f2)), (⟨g8_, o8_ + (x1).toNat * 8 + 3, none⟩, .int .i64 ((a0.getD (x1).toNat z32).f3)), (⟨g9_, o9_ + (a2).toNat * 8 + 3, none⟩, .int .i64 ((a0.getD (a2).toNat z32).f3)), (⟨g10_, o10_ + (x1).toNat * 8, none⟩, .int .i64 ((a0.getD (x1).toNat z32).f0)), (⟨g10_, o10_ + (x1).toNat * 8 + 1, none⟩, .int .i64 ((a0.getD (x1).toNat z32).f1)), (⟨g10_, o10_ + (x1).toNat * 8 + 2, none⟩, .int .i64 ((a0.getD (x1).toNat z32).f2)), (⟨g10_, o10_ + (x1).toNat * 8 + 3, none⟩, .int .i64 ((a0.getD (x1).toNat z32).f3)), (⟨g10_, o10_ + (x1).toNat * 8 + 4, none⟩, .int .u32 ((a0.getD (x1).toNat z32).f4)), (⟨g10_, o10_ + (x1).toNat * 8 + 5, none⟩, .int .i64 ((a0.getD (x1).toNat z32).f5.f0)), (⟨g10_, o10_ + (x1).toNat * 8 + 6, none⟩, .string ((a0.getD (x1).toNat z32).f5.f1)), (⟨g10_, o10_ + (x1).toNat * 8 + 7, none⟩, .slice A10_5_2_ (((a0.getD (x1).toNat z32).f5.f2).length) c10_5_2_)] [] O46_29 ⟨78, []⟩ (Ld.vl u46d1l) (u46d1g a2 x1 g2_ o2_ g3_ o3_ g4_ o4_ g5_ o5_ g6_ o6_ g7_ o7_ g8_ o8_ g9_ o9_ g10_ o10_) u (.no :: .no :: .no :: .no :: .r 0 :: .no :: .no :: .no :: .no :: .r 1 :: .no :: .no :: .no :: .no :: .no :: .no :: .r 2 :: .no :: .no :: .no :: .no :: .r 3 :: .no :: .no :: .no :: .no :: .no :: .no :: .no :: .r 4 :: .no :: .no :: .no :: .no :: .r 5 :: .no :: .no :: .no :: .no :: .no :: .no :: .no :: .r 6 :: .no :: .no :: .no :: .no :: .r 7 :: .no :: .no :: .no :: .no :: .no :: .no :: .r 8 :: .no :: []) 0 (O46_29.take 56) [(17, .bool (decide (x1 < a2))), (0, .slice Ap0 a0.length cp0), (1, .int .i64 a1), (2, .int .i64 a2), (7, .int .i64 x1)]
noncomputable def u46d1s (a0 : List S32) (Ap0 : Option Addr) (cp0 : Nat) (a1 : Int) (a2 : Int) (x1 : Int) (g2_ : Nat) (o2_ : Nat) (g3_ : Nat) (o3_ : Nat) (g4_ : Nat) (o4_ : Nat) (g5_ : Nat) (o5_ : Nat) (g6_ : Nat) (o6_ : Nat) (g7_ : Nat) (o7_ : Nat) (g8_ : Nat) (o8_ : Nat) (g9_ : Nat) (o9_ : Nat) (A10_5_2_ : Option Addr) (c10_5_2_ : Nat) (g10_ : Nat) (o10_ : Nat) (u : Nat → Wt) : List Value := (.slice Ap0 a0.length cp0 :: .int .i64 x1 :: .pointer (some ⟨g2_, o2_ + (x1).toNat * 8, none⟩) :: .pointer (some ⟨g2_, o2_ + (x1).toNat * 8, none⟩) :: .int .i64 ((a0.getD (x1).toNat z32).f0) :: .slice Ap0 a0.length cp0 :: .int .i64 a2 :: .pointer (some ⟨g3_, o3_ + (a2).toNat * 8, none⟩) :: .pointer (some ⟨g3_, o3_ + (a2).toNat * 8, none⟩) :: .int .i64 ((a0.getD (a2).toNat z32).f0) :: .bool (((a0.getD (x1).toNat z32).f0) == ((a0.getD (a2).toNat z32).f0)) :: .bool true :: .slice Ap0 a0.length cp0 :: .int .i64 x1 :: .pointer (some ⟨g4_, o4_ + (x1).toNat * 8, none⟩) :: .pointer (some ⟨g4_, o4_ + (x1).toNat * 8 + 1, none⟩) :: .int .i64 ((a0.getD (x1).toNat z32).f1) :: .slice Ap0 a0.length cp0 :: .int .i64 a2 :: .pointer (some ⟨g5_, o5_ + (a2).toNat * 8, none⟩) :: .pointer (some ⟨g5_, o5_ + (a2).toNat * 8 + 1, none⟩) :: .int .i64 ((a0.getD (a2).toNat z32).f1) :: .bool (((a0.getD (x1).toNat z32).f1) == ((a0.getD (a2).toNat z32).f1)) :: .bool (((a0.getD (x1).toNat z32).f1) == ((a0.getD (a2).toNat z32).f1)) :: .bool true :: .slice Ap0 a0.length cp0 :: .int .i64 x1 :: .pointer (some ⟨g6_, o6_ + (x1).toNat * 8, none⟩) :: .pointer (some ⟨g6_, o6_ + (x1).toNat * 8 + 2, none⟩) :: .int .i64 ((a0.getD (x1).toNat z32).f2) :: .slice Ap0 a0.length cp0 :: .int .i64 a2 :: .pointer (some ⟨g7_, o7_ + (a2).toNat * 8, none⟩) :: .pointer (some ⟨g7_, o7_ + (a2).toNat * 8 + 2, none⟩) :: .int .i64 ((a0.getD (a2).toNat z32).f2) :: .bool (((a0.getD (x1).toNat z32).f2) == ((a0.getD (a2).toNat z32).f2)) :: .bool (((a0.getD (x1).toNat z32).f2) == ((a0.getD (a2).toNat z32).f2)) :: .bool true :: .slice Ap0 a0.length cp0 :: .int .i64 x1 :: .pointer (some ⟨g8_, o8_ + (x1).toNat * 8, none⟩) :: .pointer (some ⟨g8_, o8_ + (x1).toNat * 8 + 3, none⟩) :: .int .i64 ((a0.getD (x1).toNat z32).f3) :: .slice Ap0 a0.length cp0 :: .int .i64 a2 :: .pointer (some ⟨g9_, o9_ + (a2).toNat * 8, none⟩) :: .pointer (some ⟨g9_, o9_ + (a2).toNat * 8 + 3, none⟩) :: .int .i64 ((a0.getD (a2).toNat z32).f3) :: .bool (((a0.getD (x1).toNat z32).f3) == ((a0.getD (a2).toNat z32).f3)) :: .bool (((a0.getD (x1).toNat z32).f3) == ((a0.getD (a2).toNat z32).f3)) :: .bool true :: .slice Ap0 a0.length cp0 :: .int .i64 x1 :: .pointer (some ⟨g10_, o10_ + (x1).toNat * 8, none⟩) :: .agg #[.int .i64 ((a0.getD (x1).toNat z32).f0), .int .i64 ((a0.getD (x1).toNat z32).f1), .int .i64 ((a0.getD (x1).toNat z32).f2), .int .i64 ((a0.getD (x1).toNat z32).f3), .int .u32 ((a0.getD (x1).toNat z32).f4), .int .i64 ((a0.getD (x1).toNat z32).f5.f0), .string ((a0.getD (x1).toNat z32).f5.f1), .slice A10_5_2_ (((a0.getD (x1).toNat z32).f5.f2).length) c10_5_2_] :: .int .i64 a1 :: [])
noncomputable def u46d1f (a0 : List S32) (Ap0 : Option Addr) (cp0 : Nat) (a1 : Int) (a2 : Int) (x1 : Int) (g2_ : Nat) (o2_ : Nat) (g3_ : Nat) (o3_ : Nat) (g4_ : Nat) (o4_ : Nat) (g5_ : Nat) (o5_ : Nat) (g6_ : Nat) (o6_ : Nat) (g7_ : Nat) (o7_ : Nat) (g8_ : Nat) (o8_ : Nat) (g9_ : Nat) (o9_ : Nat) (A10_5_2_ : Option Addr) (c10_5_2_ : Nat) (g10_ : Nat) (o10_ : Nat) (i : Nat) (u : Nat → Wt) : List (Nat × Value) := foldPut ⟨78, []⟩ [(17, .bool (decide (x1 < a2))), (0, .slice Ap0 a0.length cp0), (1, .int .i64 a1), (2, .int .i64 a2), (7, .int .i64 x1)] (O46_29.take i) (((u46d1s a0 Ap0 cp0 a1 a2 x1 g2_ o2_ g3_ o3_ g4_ o4_ g5_ o5_ g6_ o6_ g7_ o7_ g8_ o8_ g9_ o9_ A10_5_2_ c10_5_2_ g10_ o10_) u).take i)
theorem u46d1v (a0 : List S32) (Ap0 : Option Addr) (cp0 : Nat) (a1 : Int) (a2 : Int) (x1 : Int) (g2_ : Nat) (o2_ : Nat) (g3_ : Nat) (o3_ : Nat) (g4_ : Nat) (o4_ : Nat) (g5_ : Nat) (o5_ : Nat) (g6_ : Nat) (o6_ : Nat) (g7_ : Nat) (o7_ : Nat) (g8_ : Nat) (o8_ : Nat) (g9_ : Nat) (o9_ : Nat) (A10_5_2_ : Option Addr) (c10_5_2_ : Nat) (g10_ : Nat) (o10_ : Nat) (u : Nat → Wt) : (u46d1q a0 Ap0 cp0 a1 a2 x1 g2_ o2_ g3_ o3_ g4_ o4_ g5_ o5_ g6_ o6_ g7_ o7_ g8_ o8_ g9_ o9_ A10_5_2_ c10_5_2_ g10_ o10_ u).map (fun x => (x.1, x.2.1)) = some ((u46d1s a0 Ap0 cp0 a1 a2 x1 g2_ o2_ g3_ o3_ g4_ o4_ g5_ o5_ g6_ o6_ g7_ o7_ g8_ o8_ g9_ o9_ A10_5_2_ c10_5_2_ g10_ o10_) u, (u46d1f a0 Ap0 cp0 a1 a2 x1 g2_ o2_ g3_ o3_ g4_ o4_ g5_ o5_ g6_ o6_ g7_ o7_ g8_ o8_ g9_ o9_ A10_5_2_ c10_5_2_ g10_ o10_ 56) u) := by kernel_rfl
theorem u46d1e (a0 : List S32) (Ap0 : Option Addr) (cp0 : Nat) (a1 : Int) (a2 : Int) (x1 : Int) (g2_ : Nat) (o2_ : Nat) (g3_ : Nat) (o3_ : Nat) (g4_ : Nat) (o4_ : Nat) (g5_ : Nat) (o5_ : Nat) (g6_ : Nat) (o6_ : Nat) (g7_ : Nat) (o7_ : Nat) (g8_ : Nat) (o8_ : Nat) (g9_ : Nat) (o9_ : Nat) (A10_5_2_ : Option Addr) (c10_5_2_ : Nat) (g10_ : Nat) (o10_ : Nat) (u : Nat → Wt) : (u46d1q a0 Ap0 cp0 a1 a2 x1 g2_ o2_ g3_ o3_ g4_ o4_ g5_ o5_ g6_ o6_ g7_ o7_ g8_ o8_ g9_ o9_ A10_5_2_ c10_5_2_ g10_ o10_ u).map (fun x => x.2.2.map (·.1)) = (u46d1q a0 Ap0 cp0 a1 a2 x1 g2_ o2_ g3_ o3_ g4_ o4_ g5_ o5_ g6_ o6_ g7_ o7_ g8_ o8_ g9_ o9_ A10_5_2_ c10_5_2_ g10_ o10_ u).map (fun x => x.2.2.map (·.2)) := by kernel_rfl
noncomputable def u46d2l  : List Ld :=
 []
noncomputable def u46d2g (a2 : Int) (x1 : Int) (g2_ : Nat) (o2_ : Nat) (g3_ : Nat) (o3_ : Nat) (g4_ : Nat) (o4_ : Nat) (g5_ : Nat) (o5_ : Nat) (g6_ : Nat) (o6_ : Nat) (g7_ : Nat) (o7_ : Nat) (g8_ : Nat) (o8_ : Nat) (g9_ : Nat) (o9_ : Nat) : List (Nat × ((Nat → Wt) → Value)) := [(2, fun u => .pointer (some ⟨g2_, o2_ + (x1).toNat * 8, none⟩)), (7, fun u => .pointer (some ⟨g3_, o3_ + (a2).toNat * 8, none⟩)), (11, fun u => .bool true), (14, fun u => .pointer (some ⟨g4_, o4_ + (x1).toNat * 8, none⟩)), (19, fun u => .pointer (some ⟨g5_, o5_ + (a2).toNat * 8, none⟩)), (24, fun u => .bool true), (27, fun u => .pointer (some ⟨g6_, o6_ + (x1).toNat * 8, none⟩)), (32, fun u => .pointer (some ⟨g7_, o7_ + (a2).toNat * 8, none⟩)), (37, fun u => .bool true), (40, fun u => .pointer (some ⟨g8_, o8_ + (x1).toNat * 8, none⟩)), (45, fun u => .pointer (some ⟨g9_, o9_ + (a2).toNat * 8, none⟩)), (50, fun u => .bool false)]
noncomputable def u46d2q (a0 : List S32) (Ap0 : Option Addr) (cp0 : Nat) (a1 : Int) (a2 : Int) (x1 : Int) (g2_ : Nat) (o2_ : Nat) (g3_ : Nat) (o3_ : Nat) (g4_ : Nat) (o4_ : Nat) (g5_ : Nat) (o5_ : Nat) (g6_ : Nat) (o6_ : Nat) (g7_ : Nat) (o7_ : Nat) (g8_ : Nat) (o8_ : Nat) (g9_ : Nat) (o9_ : Nat) (u : Nat → Wt) : Option (List Value × List (Nat × Value) × List (Nat × Nat)) := qSim Try.prog [(⟨g2_, o2_ + (x1).toNat * 8, none⟩, .int .i64 ((a0.getD (x1).toNat z32).f0)), (⟨g3_, o3_ + (a2).toNat * 8, none⟩, .int .i64 ((a0.getD (a2).toNat z32).f0)), (⟨g4_, o4_ + (x1).toNat * 8 + 1, none⟩, .int .i64 ((a0.getD (x1).toNat z32).f1)), (⟨g5_, o5_ + (a2).toNat * 8 + 1, none⟩, .int .i64 ((a0.getD (a2).toNat z32).f1)), (⟨g6_, o6_ + (x1).toNat * 8 + 2, none⟩, .int .i64 ((a0.getD (x1).toNat z32).f2)), (⟨g7_, o7_ + (a2).toNat * 8 + 2, none⟩, .int .i64 ((a0.getD (a2).toNat z32).f2)), (⟨g8_, o8_ + (x1).toNat * 8 + 3, none⟩, .int .i64 ((a0.getD (x1).toNat z32).f3)), (⟨g9_, o9_ + (a2).toNat * 8 + 3, none⟩, .int .i64 ((a0.getD (a2).toNat z32).f3))] [] O46_29 ⟨78, []⟩ (Ld.vl u46d2l) (u46d2g a2 x1 g2_ o2_ g3_ o3_ g4_ o4_ g5_ o5_ g6_ o6_ g7_ o7_ g8_ o8_ g9_ o9_) u (.no :: .no :: .no :: .no :: .r 0 :: .no :: .no :: .no :: .no :: .r 1 :: .no :: .no :: .no :: .no :: .no :: .no :: .r 2 :: .no :: .no :: .no :: .no :: .r 3 :: .no :: .no :: .no :: .no :: .no :: .no :: .no :: .r 4 :: .no :: .no :: .no :: .no :: .r 5 :: .no :: .no :: .no :: .no :: .no :: .no :: .no :: .r 6 :: .no :: .no :: .no :: .no :: .r 7 :: .no :: .no :: .no :: .no :: .no :: .no :: .no :: .no :: []) 0 (O46_29.take 56) [(17, .bool (decide (x1 < a2))), (0, .slice Ap0 a0.length cp0), (1, .int .i64 a1), (2, .int .i64 a2), (7, .int .i64 x1)]
noncomputable def u46d2s (a0 : List S32) (Ap0 : Option Addr) (cp0 : Nat) (a2 : Int) (x1 : Int) (g2_ : Nat) (o2_ : Nat) (g3_ : Nat) (o3_ : Nat) (g4_ : Nat) (o4_ : Nat) (g5_ : Nat) (o5_ : Nat) (g6_ : Nat) (o6_ : Nat) (g7_ : Nat) (o7_ : Nat) (g8_ : Nat) (o8_ : Nat) (g9_ : Nat) (o9_ : Nat) (u : Nat → Wt) : List Value := (.slice Ap0 a0.length cp0 :: .int .i64 x1 :: .pointer (some ⟨g2_, o2_ + (x1).toNat * 8, none⟩) :: .pointer (some ⟨g2_, o2_ + (x1).toNat * 8, none⟩) :: .int .i64 ((a0.getD (x1).toNat z32).f0) :: .slice Ap0 a0.length cp0 :: .int .i64 a2 :: .pointer (some ⟨g3_, o3_ + (a2).toNat * 8, none⟩) :: .pointer (some ⟨g3_, o3_ + (a2).toNat * 8, none⟩) :: .int .i64 ((a0.getD (a2).toNat z32).f0) :: .bool (((a0.getD (x1).toNat z32).f0) == ((a0.getD (a2).toNat z32).f0)) :: .bool true :: .slice Ap0 a0.length cp0 :: .int .i64 x1 :: .pointer (some ⟨g4_, o4_ + (x1).toNat * 8, none⟩) :: .pointer (some ⟨g4_, o4_ + (x1).toNat * 8 + 1, none⟩) :: .int .i64 ((a0.getD (x1).toNat z32).f1) :: .slice Ap0 a0.length cp0 :: .int .i64 a2 :: .pointer (some ⟨g5_, o5_ + (a2).toNat * 8, none⟩) :: .pointer (some ⟨g5_, o5_ + (a2).toNat * 8 + 1, none⟩) :: .int .i64 ((a0.getD (a2).toNat z32).f1) :: .bool (((a0.getD (x1).toNat z32).f1) == ((a0.getD (a2).toNat z32).f1)) :: .bool (((a0.getD (x1).toNat z32).f1) == ((a0.getD (a2).toNat z32).f1)) :: .bool true :: .slice Ap0 a0.length cp0 :: .int .i64 x1 :: .pointer (some ⟨g6_, o6_ + (x1).toNat * 8, none⟩) :: .pointer (some ⟨g6_, o6_ + (x1).toNat * 8 + 2, none⟩) :: .int .i64 ((a0.getD (x1).toNat z32).f2) :: .slice Ap0 a0.length cp0 :: .int .i64 a2 :: .pointer (some ⟨g7_, o7_ + (a2).toNat * 8, none⟩) :: .pointer (some ⟨g7_, o7_ + (a2).toNat * 8 + 2, none⟩) :: .int .i64 ((a0.getD (a2).toNat z32).f2) :: .bool (((a0.getD (x1).toNat z32).f2) == ((a0.getD (a2).toNat z32).f2)) :: .bool (((a0.getD (x1).toNat z32).f2) == ((a0.getD (a2).toNat z32).f2)) :: .bool true :: .slice Ap0 a0.length cp0 :: .int .i64 x1 :: .pointer (some ⟨g8_, o8_ + (x1).toNat * 8, none⟩) :: .pointer (some ⟨g8_, o8_ + (x1).toNat * 8 + 3, none⟩) :: .int .i64 ((a0.getD (x1).toNat z32).f3) :: .slice Ap0 a0.length cp0 :: .int .i64 a2 :: .pointer (some ⟨g9_, o9_ + (a2).toNat * 8, none⟩) :: .pointer (some ⟨g9_, o9_ + (a2).toNat * 8 + 3, none⟩) :: .int .i64 ((a0.getD (a2).toNat z32).f3) :: .bool (((a0.getD (x1).toNat z32).f3) == ((a0.getD (a2).toNat z32).f3)) :: .bool (((a0.getD (x1).toNat z32).f3) == ((a0.getD (a2).toNat z32).f3)) :: .bool false :: undef :: undef :: undef :: undef :: undef :: [])
noncomputable def u46d2f (a0 : List S32) (Ap0 : Option Addr) (cp0 : Nat) (a1 : Int) (a2 : Int) (x1 : Int) (g2_ : Nat) (o2_ : Nat) (g3_ : Nat) (o3_ : Nat) (g4_ : Nat) (o4_ : Nat) (g5_ : Nat) (o5_ : Nat) (g6_ : Nat) (o6_ : Nat) (g7_ : Nat) (o7_ : Nat) (g8_ : Nat) (o8_ : Nat) (g9_ : Nat) (o9_ : Nat) (i : Nat) (u : Nat → Wt) : List (Nat × Value) := foldPut ⟨78, []⟩ [(17, .bool (decide (x1 < a2))), (0, .slice Ap0 a0.length cp0), (1, .int .i64 a1), (2, .int .i64 a2), (7, .int .i64 x1)] (O46_29.take i) (((u46d2s a0 Ap0 cp0 a2 x1 g2_ o2_ g3_ o3_ g4_ o4_ g5_ o5_ g6_ o6_ g7_ o7_ g8_ o8_ g9_ o9_) u).take i)
theorem u46d2v (a0 : List S32) (Ap0 : Option Addr) (cp0 : Nat) (a1 : Int) (a2 : Int) (x1 : Int) (g2_ : Nat) (o2_ : Nat) (g3_ : Nat) (o3_ : Nat) (g4_ : Nat) (o4_ : Nat) (g5_ : Nat) (o5_ : Nat) (g6_ : Nat) (o6_ : Nat) (g7_ : Nat) (o7_ : Nat) (g8_ : Nat) (o8_ : Nat) (g9_ : Nat) (o9_ : Nat) (u : Nat → Wt) : (u46d2q a0 Ap0 cp0 a1 a2 x1 g2_ o2_ g3_ o3_ g4_ o4_ g5_ o5_ g6_ o6_ g7_ o7_ g8_ o8_ g9_ o9_ u).map (fun x => (x.1, x.2.1)) = some ((u46d2s a0 Ap0 cp0 a2 x1 g2_ o2_ g3_ o3_ g4_ o4_ g5_ o5_ g6_ o6_ g7_ o7_ g8_ o8_ g9_ o9_) u, (u46d2f a0 Ap0 cp0 a1 a2 x1 g2_ o2_ g3_ o3_ g4_ o4_ g5_ o5_ g6_ o6_ g7_ o7_ g8_ o8_ g9_ o9_ 56) u) := by kernel_rfl
theorem u46d2e (a0 : List S32) (Ap0 : Option Addr) (cp0 : Nat) (a1 : Int) (a2 : Int) (x1 : Int) (g2_ : Nat) (o2_ : Nat) (g3_ : Nat) (o3_ : Nat) (g4_ : Nat) (o4_ : Nat) (g5_ : Nat) (o5_ : Nat) (g6_ : Nat) (o6_ : Nat) (g7_ : Nat) (o7_ : Nat) (g8_ : Nat) (o8_ : Nat) (g9_ : Nat) (o9_ : Nat) (u : Nat → Wt) : (u46d2q a0 Ap0 cp0 a1 a2 x1 g2_ o2_ g3_ o3_ g4_ o4_ g5_ o5_ g6_ o6_ g7_ o7_ g8_ o8_ g9_ o9_ u).map (fun x => x.2.2.map (·.1)) = (u46d2q a0 Ap0 cp0 a1 a2 x1 g2_ o2_ g3_ o3_ g4_ o4_ g5_ o5_ g6_ o6_ g7_ o7_ g8_ o8_ g9_ o9_ u).map (fun x => x.2.2.map (·.2)) := by kernel_rfl
noncomputable def u46d3l  : List Ld :=
 []
noncomputable def u46d3g (a2 : Int) (x1 : Int) (g2_ : Nat) (o2_ : Nat) (g3_ : Nat) (o3_ : Nat) (g4_ : Nat) (o4_ : Nat) (g5_ : Nat) (o5_ : Nat) (g6_ : Nat) (o6_ : Nat) (g7_ : Nat) (o7_ : Nat) : List (Nat × ((Nat → Wt) → Value)) := [(2, fun u => .pointer (some ⟨g2_, o2_ + (x1).toNat * 8, none⟩)), (7, fun u => .pointer (some ⟨g3_, o3_ + (a2).toNat * 8, none⟩)), (11, fun u => .bool true), (14, fun u => .pointer (some ⟨g4_, o4_ + (x1).toNat * 8, none⟩)), (19, fun u => .pointer (some ⟨g5_, o5_ + (a2).toNat * 8, none⟩)), (24, fun u => .bool true), (27, fun u => .pointer (some ⟨g6_, o6_ + (x1).toNat * 8, none⟩)), (32, fun u => .pointer (some ⟨g7_, o7_ + (a2).toNat * 8, none⟩)), (37, fun u => .bool false)]
noncomputable def u46d3q (a0 : List S32) (Ap0 : Option Addr) (cp0 : Nat) (a1 : Int) (a2 : Int) (x1 : Int) (g2_ : Nat) (o2_ : Nat) (g3_ : Nat) (o3_ : Nat) (g4_ : Nat) (o4_ : Nat) (g5_ : Nat) (o5_ : Nat) (g6_ : Nat) (o6_ : Nat) (g7_ : Nat) (o7_ : Nat) (u : Nat → Wt) : Option (List Value × List (Nat × Value) × List (Nat × Nat)) := qSim Try.prog [(⟨g2_, o2_ + (x1).toNat * 8, none⟩, .int .i64 ((a0.getD (x1).toNat z32).f0)), (⟨g3_, o3_ + (a2).toNat * 8, none⟩, .int .i64 ((a0.getD (a2).toNat z32).f0)), (⟨g4_, o4_ + (x1).toNat * 8 + 1, none⟩, .int .i64 ((a0.getD (x1).toNat z32).f1)), (⟨g5_, o5_ + (a2).toNat * 8 + 1, none⟩, .int .i64 ((a0.getD (a2).toNat z32).f1)), (⟨g6_, o6_ + (x1).toNat * 8 + 2, none⟩, .int .i64 ((a0.getD (x1).toNat z32).f2)), (⟨g7_, o7_ + (a2).toNat * 8 + 2, none⟩, .int .i64 ((a0.getD (a2).toNat z32).f2))] [] O46_29 ⟨78, []⟩ (Ld.vl u46d3l) (u46d3g a2 x1 g2_ o2_ g3_ o3_ g4_ o4_ g5_ o5_ g6_ o6_ g7_ o7_) u (.no :: .no :: .no :: .no :: .r 0 :: .no :: .no :: .no :: .no :: .r 1 :: .no :: .no :: .no :: .no :: .no :: .no :: .r 2 :: .no :: .no :: .no :: .no :: .r 3 :: .no :: .no :: .no :: .no :: .no :: .no :: .no :: .r 4 :: .no :: .no :: .no :: .no :: .r 5 :: .no :: .no :: .no :: .no :: .no :: .no :: .no :: .no :: .no :: .no :: .no :: .no :: .no :: .no :: .no :: .no :: .no :: .no :: .no :: .no :: .no :: []) 0 (O46_29.take 56) [(17, .bool (decide (x1 < a2))), (0, .slice Ap0 a0.length cp0), (1, .int .i64 a1), (2, .int .i64 a2), (7, .int .i64 x1)]
noncomputable def u46d3s (a0 : List S32) (Ap0 : Option Addr) (cp0 : Nat) (a2 : Int) (x1 : Int) (g2_ : Nat) (o2_ : Nat) (g3_ : Nat) (o3_ : Nat) (g4_ : Nat) (o4_ : Nat) (g5_ : Nat) (o5_ : Nat) (g6_ : Nat) (o6_ : Nat) (g7_ : Nat) (o7_ : Nat) (u : Nat → Wt) : List Value := (.slice Ap0 a0.length cp0 :: .int .i64 x1 :: .pointer (some ⟨g2_, o2_ + (x1).toNat * 8, none⟩) :: .pointer (some ⟨g2_, o2_ + (x1).toNat * 8, none⟩) :: .int .i64 ((a0.getD (x1).toNat z32).f0) :: .slice Ap0 a0.length cp0 :: .int .i64 a2 :: .pointer (some ⟨g3_, o3_ + (a2).toNat * 8, none⟩) :: .pointer (some ⟨g3_, o3_ + (a2).toNat * 8, none⟩) :: .int .i64 ((a0.getD (a2).toNat z32).f0) :: .bool (((a0.getD (x1).toNat z32).f0) == ((a0.getD (a2).toNat z32).f0)) :: .bool true :: .slice Ap0 a0.length cp0 :: .int .i64 x1 :: .pointer (some ⟨g4_, o4_ + (x1).toNat * 8, none⟩) :: .pointer (some ⟨g4_, o4_ + (x1).toNat * 8 + 1, none⟩) :: .int .i64 ((a0.getD (x1).toNat z32).f1) :: .slice Ap0 a0.length cp0 :: .int .i64 a2 :: .pointer (some ⟨g5_, o5_ + (a2).toNat * 8, none⟩) :: .pointer (some ⟨g5_, o5_ + (a2).toNat * 8 + 1, none⟩) :: .int .i64 ((a0.getD (a2).toNat z32).f1) :: .bool (((a0.getD (x1).toNat z32).f1) == ((a0.getD (a2).toNat z32).f1)) :: .bool (((a0.getD (x1).toNat z32).f1) == ((a0.getD (a2).toNat z32).f1)) :: .bool true :: .slice Ap0 a0.length cp0 :: .int .i64 x1 :: .pointer (some ⟨g6_, o6_ + (x1).toNat * 8, none⟩) :: .pointer (some ⟨g6_, o6_ + (x1).toNat * 8 + 2, none⟩) :: .int .i64 ((a0.getD (x1).toNat z32).f2) :: .slice Ap0 a0.length cp0 :: .int .i64 a2 :: .pointer (some ⟨g7_, o7_ + (a2).toNat * 8, none⟩) :: .pointer (some ⟨g7_, o7_ + (a2).toNat * 8 + 2, none⟩) :: .int .i64 ((a0.getD (a2).toNat z32).f2) :: .bool (((a0.getD (x1).toNat z32).f2) == ((a0.getD (a2).toNat z32).f2)) :: .bool (((a0.getD (x1).toNat z32).f2) == ((a0.getD (a2).toNat z32).f2)) :: .bool false :: undef :: undef :: undef :: undef :: undef :: undef :: undef :: undef :: undef :: undef :: undef :: .bool false :: .bool false :: undef :: undef :: undef :: undef :: undef :: [])
noncomputable def u46d3f (a0 : List S32) (Ap0 : Option Addr) (cp0 : Nat) (a1 : Int) (a2 : Int) (x1 : Int) (g2_ : Nat) (o2_ : Nat) (g3_ : Nat) (o3_ : Nat) (g4_ : Nat) (o4_ : Nat) (g5_ : Nat) (o5_ : Nat) (g6_ : Nat) (o6_ : Nat) (g7_ : Nat) (o7_ : Nat) (i : Nat) (u : Nat → Wt) : List (Nat × Value) := foldPut ⟨78, []⟩ [(17, .bool (decide (x1 < a2))), (0, .slice Ap0 a0.length cp0), (1, .int .i64 a1), (2, .int .i64 a2), (7, .int .i64 x1)] (O46_29.take i) (((u46d3s a0 Ap0 cp0 a2 x1 g2_ o2_ g3_ o3_ g4_ o4_ g5_ o5_ g6_ o6_ g7_ o7_) u).take i)
theorem u46d3v (a0 : List S32) (Ap0 : Option Addr) (cp0 : Nat) (a1 : Int) (a2 : Int) (x1 : Int) (g2_ : Nat) (o2_ : Nat) (g3_ : Nat) (o3_ : Nat) (g4_ : Nat) (o4_ : Nat) (g5_ : Nat) (o5_ : Nat) (g6_ : Nat) (o6_ : Nat) (g7_ : Nat) (o7_ : Nat) (u : Nat → Wt) : (u46d3q a0 Ap0 cp0 a1 a2 x1 g2_ o2_ g3_ o3_ g4_ o4_ g5_ o5_ g6_ o6_ g7_ o7_ u).map (fun x => (x.1, x.2.1)) = some ((u46d3s a0 Ap0 cp0 a2 x1 g2_ o2_ g3_ o3_ g4_ o4_ g5_ o5_ g6_ o6_ g7_ o7_) u, (u46d3f a0 Ap0 cp0 a1 a2 x1 g2_ o2_ g3_ o3_ g4_ o4_ g5_ o5_ g6_ o6_ g7_ o7_ 56) u) := by kernel_rfl
theorem u46d3e (a0 : List S32) (Ap0 : Option Addr) (cp0 : Nat) (a1 : Int) (a2 : Int) (x1 : Int) (g2_ : Nat) (o2_ : Nat) (g3_ : Nat) (o3_ : Nat) (g4_ : Nat) (o4_ : Nat) (g5_ : Nat) (o5_ : Nat) (g6_ : Nat) (o6_ : Nat) (g7_ : Nat) (o7_ : Nat) (u : Nat → Wt) : (u46d3q a0 Ap0 cp0 a1 a2 x1 g2_ o2_ g3_ o3_ g4_ o4_ g5_ o5_ g6_ o6_ g7_ o7_ u).map (fun x => x.2.2.map (·.1)) = (u46d3q a0 Ap0 cp0 a1 a2 x1 g2_ o2_ g3_ o3_ g4_ o4_ g5_ o5_ g6_ o6_ g7_ o7_ u).map (fun x => x.2.2.map (·.2)) := by kernel_rfl
noncomputable def u46d4l  : List Ld :=
 []
noncomputable def u46d4g (a2 : Int) (x1 : Int) (g2_ : Nat) (o2_ : Nat) (g3_ : Nat) (o3_ : Nat) (g4_ : Nat) (o4_ : Nat) (g5_ : Nat) (o5_ : Nat) : List (Nat × ((Nat → Wt) → Value)) := [(2, fun u => .pointer (some ⟨g2_, o2_ + (x1).toNat * 8, none⟩)), (7, fun u => .pointer (some ⟨g3_, o3_ + (a2).toNat * 8, none⟩)), (11, fun u => .bool true), (14, fun u => .pointer (some ⟨g4_, o4_ + (x1).toNat * 8, none⟩)), (19, fun u => .pointer (some ⟨g5_, o5_ + (a2).toNat * 8, none⟩)), (24, fun u => .bool false)]
noncomputable def u46d4q (a0 : List S32) (Ap0 : Option Addr) (cp0 : Nat) (a1 : Int) (a2 : Int) (x1 : Int) (g2_ : Nat) (o2_ : Nat) (g3_ : Nat) (o3_ : Nat) (g4_ : Nat) (o4_ : Nat) (g5_ : Nat) (o5_ : Nat) (u : Nat → Wt) : Option (List Value × List (Nat × Value) × List (Nat × Nat)) := qSim Try.prog [(⟨g2_, o2_ + (x1).toNat * 8, none⟩, .int .i64 ((a0.getD (x1).toNat z32).f0)), (⟨g3_, o3_ + (a2).toNat * 8, none⟩, .int .i64 ((a0.getD (a2).toNat z32).f0)), (⟨g4_, o4_ + (x1).toNat * 8 + 1, none⟩, .int .i64 ((a0.getD (x1).toNat z32).f1)), (⟨g5_, o5_ + (a2).toNat * 8 + 1, none⟩, .int .i64 ((a0.getD (a2).toNat z32).f1))] [] O46_29 ⟨78, []⟩ (Ld.vl u46d4l) (u46d4g a2 x1 g2_ o2_ g3_ o3_ g4_ o4_ g5_ o5_) u (.no :: .no :: .no :: .no :: .r 0 :: .no :: .no :: .no :: .no :: .r 1 :: .no :: .no :: .no :: .no :: .no :: .no :: .r 2 :: .no :: .no :: .no :: .no :: .r 3 :: .no :: .no :: .no :: .no :: .no :: .no :: .no :: .no :: .no :: .no :: .no :: .no :: .no :: .no :: .no :: .no :: .no :: .no :: .no :: .no :: .no :: .no :: .no :: .no :: .no :: .no :: .no :: .no :: .no :: .no :: .no :: .no :: .no :: .no :: []) 0 (O46_29.take 56) [(17, .bool (decide (x1 < a2))), (0, .slice Ap0 a0.length cp0), (1, .int .i64 a1), (2, .int .i64 a2), (7, .int .i64 x1)]
noncomputable def u46d4s (a0 : List S32) (Ap0 : Option Addr) (cp0 : Nat) (a2 : Int) (x1 : Int) (g2_ : Nat) (o2_ : Nat) (g3_ : Nat) (o3_ : Nat) (g4_ : Nat) (o4_ : Nat) (g5_ : Nat) (o5_ : Nat) (u : Nat → Wt) : List Value := (.slice Ap0 a0.length cp0 :: .int .i64 x1 :: .pointer (some ⟨g2_, o2_ + (x1).toNat * 8, none⟩) :: .pointer (some ⟨g2_, o2_ + (x1).toNat * 8, none⟩) :: .int .i64 ((a0.getD (x1).toNat z32).f0) :: .slice Ap0 a0.length cp0 :: .int .i64 a2 :: .pointer (some ⟨g3_, o3_ + (a2).toNat * 8, none⟩) :: .pointer (some ⟨g3_, o3_ + (a2).toNat * 8, none⟩) :: .int .i64 ((a0.getD (a2).toNat z32).f0) :: .bool (((a0.getD (x1).toNat z32).f0) == ((a0.getD (a2).toNat z32).f0)) :: .bool true :: .slice Ap0 a0.length cp0 :: .int .i64 x1 :: .pointer (some ⟨g4_, o4_ + (x1).toNat * 8, none⟩) :: .pointer (some ⟨g4_, o4_ + (x1).toNat * 8 + 1, none⟩) :: .int .i64 ((a0.getD (x1).toNat z32).f1) :: .slice Ap0 a0.length cp0 :: .int .i64 a2 :: .pointer (some ⟨g5_, o5_ + (a2).toNat * 8, none⟩) :: .pointer (some ⟨g5_, o5_ + (a2).toNat * 8 + 1, none⟩) :: .int .i64 ((a0.getD (a2).toNat z32).f1) :: .bool (((a0.getD (x1).toNat z32).f1) == ((a0.getD (a2).toNat z32).f1)) :: .bool (((a0.getD (x1).toNat z32).f1) == ((a0.getD (a2).toNat z32).f1)) :: .bool false :: undef :: undef :: undef :: undef :: undef :: undef :: undef :: undef :: undef :: undef :: undef :: .bool false :: .bool false :: undef :: undef :: undef :: undef :: undef :: undef :: undef :: undef :: undef :: undef :: undef :: .bool false :: .bool false :: undef :: undef :: undef :: undef :: undef :: [])
noncomputable def u46d4f (a0 : List S32) (Ap0 : Option Addr) (cp0 : Nat) (a1 : Int) (a2 : Int) (x1 : Int) (g2_ : Nat) (o2_ : Nat) (g3_ : Nat) (o3_ : Nat) (g4_ : Nat) (o4_ : Nat) (g5_ : Nat) (o5_ : Nat) (i : Nat) (u : Nat → Wt) : List (Nat × Value) := foldPut ⟨78, []⟩ [(17, .bool (decide (x1 < a2))), (0, .slice Ap0 a0.length cp0), (1, .int .i64 a1), (2, .int .i64 a2), (7, .int .i64 x1)] (O46_29.take i) (((u46d4s a0 Ap0 cp0 a2 x1 g2_ o2_ g3_ o3_ g4_ o4_ g5_ o5_) u).take i)
theorem u46d4v (a0 : List S32) (Ap0 : Option Addr) (cp0 : Nat) (a1 : Int) (a2 : Int) (x1 : Int) (g2_ : Nat) (o2_ : Nat) (g3_ : Nat) (o3_ : Nat) (g4_ : Nat) (o4_ : Nat) (g5_ : Nat) (o5_ : Nat) (u : Nat → Wt) : (u46d4q a0 Ap0 cp0 a1 a2 x1 g2_ o2_ g3_ o3_ g4_ o4_ g5_ o5_ u).map (fun x => (x.1, x.2.1)) = some ((u46d4s a0 Ap0 cp0 a2 x1 g2_ o2_ g3_ o3_ g4_ o4_ g5_ o5_) u, (u46d4f a0 Ap0 cp0 a1 a2 x1 g2_ o2_ g3_ o3_ g4_ o4_ g5_ o5_ 56) u) := by kernel_rfl
theorem u46d4e (a0 : List S32) (Ap0 : Option Addr) (cp0 : Nat) (a1 : Int) (a2 : Int) (x1 : Int) (g2_ : Nat) (o2_ : Nat) (g3_ : Nat) (o3_ : Nat) (g4_ : Nat) (o4_ : Nat) (g5_ : Nat) (o5_ : Nat) (u : Nat → Wt) : (u46d4q a0 Ap0 cp0 a1 a2 x1 g2_ o2_ g3_ o3_ g4_ o4_ g5_ o5_ u).map (fun x => x.2.2.map (·.1)) = (u46d4q a0 Ap0 cp0 a1 a2 x1 g2_ o2_ g3_ o3_ g4_ o4_ g5_ o5_ u).map (fun x => x.2.2.map (·.2)) := by kernel_rfl
noncomputable def u46d5l  : List Ld :=
 []
noncomputable def u46d5g (a2 : Int) (x1 : Int) (g2_ : Nat) (o2_ : Nat) (g3_ : Nat) (o3_ : Nat) : List (Nat × ((Nat → Wt) → Value)) := [(2, fun u => .pointer (some ⟨g2_, o2_ + (x1).toNat * 8, none⟩)), (7, fun u => .pointer (some ⟨g3_, o3_ + (a2).toNat * 8, none⟩)), (11, fun u => .bool false)]
noncomputable def u46d5q (a0 : List S32) (Ap0 : Option Addr) (cp0 : Nat) (a1 : Int) (a2 : Int) (x1 : Int) (g2_ : Nat) (o2_ : Nat) (g3_ : Nat) (o3_ : Nat) (u : Nat → Wt) : Option (List Value × List (Nat × Value) × List (Nat × Nat)) := qSim Try.prog [(⟨g2_, o2_ + (x1).toNat * 8, none⟩, .int .i64 ((a0.getD (x1).toNat z32).f0)), (⟨g3_, o3_ + (a2).toNat * 8, none⟩, .int .i64 ((a0.getD (a2).toNat z32).f0))] [] O46_29 ⟨78, []⟩ (Ld.vl u46d5l) (u46d5g a2 x1 g2_ o2_ g3_ o3_) u (.no :: .no :: .no :: .no :: .r 0 :: .no :: .no :: .no :: .no :: .r 1 :: .no :: .no :: .no :: .no :: .no :: .no :: .no :: .no :: .no :: .no :: .no :: .no :: .no :: .no :: .no :: .no :: .no :: .no :: .no :: .no :: .no :: .no :: .no :: .no :: .no :: .no :: .no :: .no :: .no :: .no :: .no :: .no :: .no :: .no :: .no :: .no :: .no :: .no :: .no :: .no :: .no :: .no :: .no :: .no :: .no :: .no :: []) 0 (O46_29.take 56) [(17, .bool (decide (x1 < a2))), (0, .slice Ap0 a0.length cp0), (1, .int .i64 a1), (2, .int .i64 a2), (7, .int .i64 x1)]
noncomputable def u46d5s (a0 : List S32) (Ap0 : Option Addr) (cp0 : Nat) (a2 : Int) (x1 : Int) (g2_ : Nat) (o2_ : Nat) (g3_ : Nat) (o3_ : Nat) (u : Nat → Wt) : List Value := (.slice Ap0 a0.length cp0 :: .int .i64 x1 :: .pointer (some ⟨g2_, o2_ + (x1).toNat * 8, none⟩) :: .pointer (some ⟨g2_, o2_ + (x1).toNat * 8, none⟩) :: .int .i64 ((a0.getD (x1).toNat z32).f0) :: .slice Ap0 a0.length cp0 :: .int .i64 a2 :: .pointer (some ⟨g3_, o3_ + (a2).toNat * 8, none⟩) :: .pointer (some ⟨g3_, o3_ + (a2).toNat * 8, none⟩) :: .int .i64 ((a0.getD (a2).toNat z32).f0) :: .bool (((a0.getD (x1).toNat z32).f0) == ((a0.getD (a2).toNat z32).f0)) :: .bool false :: undef :: undef :: undef :: undef :: undef :: undef :: undef :: undef :: undef :: undef :: undef :: .bool false :: .bool false :: undef :: undef :: undef :: undef :: undef :: undef :: undef :: undef :: undef :: undef :: undef :: .bool false :: .bool false :: undef :: undef :: undef :: undef :: undef :: undef :: undef :: undef :: undef :: undef :: undef :: .bool false :: .bool false :: undef :: undef :: undef :: undef :: undef :: [])
noncomputable def u46d5f (a0 : List S32) (Ap0 : Option Addr) (cp0 : Nat) (a1 : Int) (a2 : Int) (x1 : Int) (g2_ : Nat) (o2_ : Nat) (g3_ : Nat) (o3_ : Nat) (i : Nat) (u : Nat → Wt) : List (Nat × Value) := foldPut ⟨78, []⟩ [(17, .bool (decide (x1 < a2))), (0, .slice Ap0 a0.length cp0), (1, .int .i64 a1), (2, .int .i64 a2), (7, .int .i64 x1)] (O46_29.take i) (((u46d5s a0 Ap0 cp0 a2 x1 g2_ o2_ g3_ o3_) u).take i)
theorem u46d5v (a0 : List S32) (Ap0 : Option Addr) (cp0 : Nat) (a1 : Int) (a2 : Int) (x1 : Int) (g2_ : Nat) (o2_ : Nat) (g3_ : Nat) (o3_ : Nat) (u : Nat → Wt) : (u46d5q a0 Ap0 cp0 a1 a2 x1 g2_ o2_ g3_ o3_ u).map (fun x => (x.1, x.2.1)) = some ((u46d5s a0 Ap0 cp0 a2 x1 g2_ o2_ g3_ o3_) u, (u46d5f a0 Ap0 cp0 a1 a2 x1 g2_ o2_ g3_ o3_ 56) u) := by kernel_rfl
theorem u46d5e (a0 : List S32) (Ap0 : Option Addr) (cp0 : Nat) (a1 : Int) (a2 : Int) (x1 : Int) (g2_ : Nat) (o2_ : Nat) (g3_ : Nat) (o3_ : Nat) (u : Nat → Wt) : (u46d5q a0 Ap0 cp0 a1 a2 x1 g2_ o2_ g3_ o3_ u).map (fun x => x.2.2.map (·.1)) = (u46d5q a0 Ap0 cp0 a1 a2 x1 g2_ o2_ g3_ o3_ u).map (fun x => x.2.2.map (·.2)) := by kernel_rfl
theorem armillaryref29_counts.calls (k : Nat) (I0 : Imm) (a0 : List S32) (Ap0 : Option Addr) (cp0 : Nat) (a1 : Int) (a2 : Int) (w : World) (hI : I0.at_ w) (hlp0 : a0.length ≤ cp0) (hrp0 : Rd t32 I0 Ap0 a0) (r : Bool) (h : armillaryref29_counts.f k a0 a1 a2 = some r) :
  Calls Try.prog 46 [.slice Ap0 a0.length cp0, .int .i64 a1, .int .i64 a2].toArray w fun e w' => ∃ v, e = .returned v ∧ armillaryref29_counts.Post I0 w r v w' := by
 have H : (if 0 ≤ a2 then (if a2 < (a0.length : Int) then ((armillaryref29_Valid.f k (a0.getD (a2).toNat z32) a1).bind fun t1 => (if t1 = true then ((armillaryref29_counts.l1 a0 a1 a2 k 0).bind (armillaryref29_counts.k1)) else (some false))) else none) else none) = some r := h
 clear h
 refine calls_body Try.func46 (by kernel_rfl) 78 (by kernel_rfl) (by kernel_rfl) ⟨w, fun _ => False, I0⟩ I0 [] [(0, .slice Ap0 a0.length cp0), (1, .int .i64 a1), (2, .int .i64 a2)] (by kernel_rfl) (Sat.start w _ I0 hI) ?_
 generalize w.heap.size = nx0
 show OK _ K46_0 _ _ _ _ _ _ _ _
 refine OK.seq K46_1 K46_3 (by kernel_rfl) ?_
 refine OK.region 0 O46_1 (by kernel_rfl) ?_
 refine RL.simK (K' := [(0, .slice Ap0 a0.length cp0), (1, .int .i64 a1), (2, .int .i64 a2)]) [] (RFacts.nil _ _ _) 1 [.no] (by kernel_rfl) (by kernel_rfl) ?_
 refine RL.nil (by kernel_rfl) ?_
 refine QN.then_ ?_
 refine OK.seq K46_4 K46_13 (by kernel_rfl) ?_
 refine OK.seq K46_5 K46_7 (by kernel_rfl) ?_
 refine OK.region 1 O46_5 (by kernel_rfl) ?_
 refine RL.simK (K' := [(9, .int .i64 a2), (8, .slice Ap0 a0.length cp0), (0, .slice Ap0 a0.length cp0), (1, .int .i64 a1), (2, .int .i64 a2)]) [] (RFacts.nil _ _ _) 2 [.no, .no] (by kernel_rfl) (by kernel_rfl) ?_
 by_cases hib0 : 0 ≤ a2
 case neg => rw [if_neg hib0] at H; cases H
 rw [if_pos hib0] at H
 by_cases hib1 : a2 < (a0.length : Int)
 case neg => rw [if_neg hib1] at H; cases H
 rw [if_pos hib1] at H
 obtain ⟨g1_, o1_, hA1_, A1_5_2_, c1_5_2_, hl1_5_2_, hr1_5_2_, hc1_⟩ := t32_at hrp0 a2 hib0 hib1
 refine RL.idx 8 .i64 a2 hA1_ a0.length cp0 (some 10) (by kernel_rfl) (by kernel_rfl) (T := 22) (e := 32) (by kernel_rfl) (by kernel_rfl) hib0 hib1 (K' := [(10, .pointer (some ⟨g1_, o1_ + (a2).toNat * 8, none⟩)), (9, .int .i64 a2), (8, .slice Ap0 a0.length cp0), (0, .slice Ap0 a0.length cp0), (1, .int .i64 a1), (2, .int .i64 a2)]) (by kernel_rfl) ?_
 refine RL.simK (K' := [(12, .int .i64 a1), (11, .agg #[.int .i64 ((a0.getD (a2).toNat z32).f0), .int .i64 ((a0.getD (a2).toNat z32).f1), .int .i64 ((a0.getD (a2).toNat z32).f2), .int .i64 ((a0.getD (a2).toNat z32).f3), .int .u32 ((a0.getD (a2).toNat z32).f4), .int .i64 ((a0.getD (a2).toNat z32).f5.f0), .string ((a0.getD (a2).toNat z32).f5.f1), .slice A1_5_2_ (((a0.getD (a2).toNat z32).f5.f2).length) c1_5_2_]), (0, .slice Ap0 a0.length cp0), (1, .int .i64 a1), (2, .int .i64 a2)]) [(⟨g1_, o1_ + (a2).toNat * 8, none⟩, .int .i64 ((a0.getD (a2).toNat z32).f0)), (⟨g1_, o1_ + (a2).toNat * 8 + 1, none⟩, .int .i64 ((a0.getD (a2).toNat z32).f1)), (⟨g1_, o1_ + (a2).toNat * 8 + 2, none⟩, .int .i64 ((a0.getD (a2).toNat z32).f2)), (⟨g1_, o1_ + (a2).toNat * 8 + 3, none⟩, .int .i64 ((a0.getD (a2).toNat z32).f3)), (⟨g1_, o1_ + (a2).toNat * 8 + 4, none⟩, .int .u32 ((a0.getD (a2).toNat z32).f4)), (⟨g1_, o1_ + (a2).toNat * 8 + 5, none⟩, .int .i64 ((a0.getD (a2).toNat z32).f5.f0)), (⟨g1_, o1_ + (a2).toNat * 8 + 6, none⟩, .string ((a0.getD (a2).toNat z32).f5.f1)), (⟨g1_, o1_ + (a2).toNat * 8 + 7, none⟩, .slice A1_5_2_ (((a0.getD (a2).toNat z32).f5.f2).length) c1_5_2_)] (RFacts.imm (hc1_ 0 _ rfl) (RFacts.imm (hc1_ 1 _ rfl) (RFacts.imm (hc1_ 2 _ rfl) (RFacts.imm (hc1_ 3 _ rfl) (RFacts.imm (hc1_ 4 _ rfl) (RFacts.imm (hc1_ 5 _ rfl) (RFacts.imm (hc1_ 6 _ rfl) (RFacts.imm (hc1_ 7 _ rfl) (RFacts.nil _ _ _))))))))) 2 [.r 0, .no] (by kernel_rfl) (by kernel_rfl) ?_
 obtain ⟨t1, hA1, H⟩ := Option.bind_eq_some_iff.mp H
 refine RL.callP 13 [.agg #[.int .i64 ((a0.getD (a2).toNat z32).f0), .int .i64 ((a0.getD (a2).toNat z32).f1), .int .i64 ((a0.getD (a2).toNat z32).f2), .int .i64 ((a0.getD (a2).toNat z32).f3), .int .u32 ((a0.getD (a2).toNat z32).f4), .int .i64 ((a0.getD (a2).toNat z32).f5.f0), .string ((a0.getD (a2).toNat z32).f5.f1), .slice A1_5_2_ (((a0.getD (a2).toNat z32).f5.f2).length) c1_5_2_], .int .i64 a1] (some 13) (fun w => armillaryref29_Valid.Post I0 w t1) (by kernel_rfl) (by kernel_rfl) (fun w hs => armillaryref29_Valid.calls k I0 (a0.getD (a2).toNat z32) A1_5_2_ c1_5_2_ a1 w hs.im hl1_5_2_ hr1_5_2_ t1 hA1) ?_
 rintro w v w' hs ⟨I1, rfl, hg⟩
 have hi1 := hg.le
 refine RL.resume (X' := []) rfl (hs.call hg) ?_
 clear hs hg
 generalize w'.heap.size = nx1
 clear w w'
 refine RL.simK (K' := [(14, .bool (!t1)), (0, .slice Ap0 a0.length cp0), (1, .int .i64 a1), (2, .int .i64 a2)]) [] (RFacts.nil _ _ _) 1 [.no] (by kernel_rfl) (by kernel_rfl) ?_
 refine RL.nil (by kernel_rfl) ?_
 refine QN.then_ ?_
 refine OK.cond (.tmp 14) K46_8 K46_12 (!t1) (by kernel_rfl) (by kernel_rfl) (by kernel_rfl) (fun hb => ?_) (fun hb => ?_)
 ·have hb : t1 = false := by simpa using hb
  have hc := (Bool.eq_false_iff.1 hb)
  rw [if_neg hc] at H
  clear hb
  refine OK.seq K46_9 K46_11 (by kernel_rfl) ?_
  refine OK.region 2 O46_9 (by kernel_rfl) ?_
  refine RL.simK (K' := [(6, .bool false)]) [] (RFacts.nil _ _ _) 1 [.no] (by kernel_rfl) (by kernel_rfl) ?_
  refine RL.nil (by kernel_rfl) ?_
  refine QN.then_ ?_
  refine OK.ret (by kernel_rfl) ?_
  refine QN.thenR ?_
  obtain rfl := Option.some.inj H
  refine QN.body rfl [] (RFacts.nil _ _ _) (.no) (.bool false) (by kernel_rfl) (by kernel_rfl) (by kernel_rfl) ?_ _ (.inr rfl)
  exact fun w' hs' => ⟨_, rfl, I1, rfl, hs'.got _ .slnil⟩
 ·have hb : t1 = true := by simpa using hb
  have hc := hb
  rw [if_pos hc] at H
  clear hb
  refine OK.skip (by kernel_rfl) ?_
  refine QN.then_ ?_
  refine OK.seq K46_14 K46_39 (by kernel_rfl) ?_
  refine OK.seq K46_15 K46_17 (by kernel_rfl) ?_
  refine OK.region 3 O46_15 (by kernel_rfl) ?_
  refine RL.simK (K' := [(7, .int .i64 0), (0, .slice Ap0 a0.length cp0), (1, .int .i64 a1), (2, .int .i64 a2)]) [] (RFacts.nil _ _ _) 1 [.no] (by kernel_rfl) (by kernel_rfl) ?_
  refine RL.nil (by kernel_rfl) ?_
  refine QN.then_ ?_
  refine OK.join (fun K' I' _ L' X' => K' = [] ∧ L' = [] ∧ X' = [] ∧ Imm.le I1 I' ∧ armillaryref29_counts.k1 (Sum.inl ()) = some r) ?_ ?_
  ·rintro _ I2 nx2 _ _ ⟨rfl, rfl, rfl, hi2, H⟩
   replace H : (some true) = some r := H
   refine QN.then_ ?_
   refine OK.seq K46_40 K46_42 (by kernel_rfl) ?_
   refine OK.region 8 O46_40 (by kernel_rfl) ?_
   refine RL.simK (K' := [(6, .bool true)]) [] (RFacts.nil _ _ _) 1 [.no] (by kernel_rfl) (by kernel_rfl) ?_
   refine RL.nil (by kernel_rfl) ?_
   refine QN.then_ ?_
   refine OK.ret (by kernel_rfl) ?_
   obtain rfl := Option.some.inj H
   refine QN.body rfl [] (RFacts.nil _ _ _) (.no) (.bool true) (by kernel_rfl) (by kernel_rfl) (by kernel_rfl) ?_ _ (.inr rfl)
   exact fun w' hs' => ⟨_, rfl, I2, rfl, hs'.got _ .slnil⟩
  ·intro Q_1 hJ1 hQ1
   obtain ⟨y1, H, HK1⟩ := Option.bind_eq_some_iff.mp H
   refine OK.block 0 K46_18 (by kernel_rfl) ?_
   refine OK.sub (K' := [(0, .slice Ap0 a0.length cp0), (1, .int .i64 a1), (2, .int .i64 a2), (7, .int .i64 0)]) (L' := []) (by kernel_rfl) .slnil (.refl _) ?_
   refine OK.loopInv K46_19 (by kernel_rfl) (fun n_ K' I' _ L' X' => ∃ (x1 : Int), K' = [(0, .slice Ap0 a0.length cp0), (1, .int .i64 a1), (2, .int .i64 a2), (7, .int .i64 x1)] ∧ L' = [] ∧ X' = [] ∧ Imm.le I1 I' ∧ armillaryref29_counts.l1 a0 a1 a2 n_ x1 = some y1) k ⟨0, rfl, rfl, rfl, (Imm.le_refl _), H⟩ ?_ ?_
   ·rintro _ _ _ _ _ ⟨x1, rfl, rfl, rfl, _, H⟩
    cases H
   ·rintro kq1 _ I3 nx3 _ _ ⟨x1, rfl, rfl, rfl, hi3, H⟩ Q_l1 hJ2 hQ2
    replace H : (if x1 < a2 then ((if 0 ≤ x1 then (if x1 < (a0.length : Int) then (if 0 ≤ a2 then (if a2 < (a0.length : Int) then (if ((a0.getD (x1).toNat z32).f0) = ((a0.getD (a2).toNat z32).f0) then (if 0 ≤ x1 then (if x1 < (a0.length : Int) then (if 0 ≤ a2 then (if a2 < (a0.length : Int) then (if ((a0.getD (x1).toNat z32).f1) = ((a0.getD (a2).toNat z32).f1) then (if 0 ≤ x1 then (if x1 < (a0.length : Int) then (if 0 ≤ a2 then (if a2 < (a0.length : Int) then (if ((a0.getD (x1).toNat z32).f2) = ((a0.getD (a2).toNat z32).f2) then (if 0 ≤ x1 then (if x1 < (a0.length : Int) then (if 0 ≤ a2 then (if a2 < (a0.length : Int) then (if ((a0.getD (x1).toNat z32).f3) = ((a0.getD (a2).toNat z32).f3) then (if 0 ≤ x1 then (if x1 < (a0.length : Int) then ((armillaryref29_Valid.f kq1 (a0.getD (x1).toNat z32) a1).bind fun t2 => (some t2)) else none) else none) else (some false)) else none) else none) else none) else none) else (some false)) else none) else none) else none) else none) else (some false)) else none) else none) else none) else none) else (some false)) else none) else none) else none) else none).bind (fun x2 => (if x2 = true then (some (Sum.inr false)) else (armillaryref29_counts.l1 a0 a1 a2 kq1 (W .i64 (x1 + 1)))))) else (some (Sum.inl ()))) = some y1 := H
    refine OK.seq K46_20 K46_26 (by kernel_rfl) ?_
    refine OK.seq K46_21 K46_23 (by kernel_rfl) ?_
    refine OK.region 4 O46_21 (by kernel_rfl) ?_
    refine RL.simK (K' := [(17, .bool (decide (x1 < a2))), (0, .slice Ap0 a0.length cp0), (1, .int .i64 a1), (2, .int .i64 a2), (7, .int .i64 x1)]) [] (RFacts.nil _ _ _) 3 [.no, .no, .no] (by kernel_rfl) (by kernel_rfl) ?_
    refine RL.nil (by kernel_rfl) ?_
    refine QN.then_ ?_
    refine OK.cond (.tmp 17) K46_24 K46_25 (decide (x1 < a2)) (by kernel_rfl) (by kernel_rfl) (by kernel_rfl) (fun hb => ?_) (fun hb => ?_)
    ·skip
     have hc := (of_decide_eq_true hb)
     rw [if_pos hc] at H
     clear hb
     refine OK.skip (by kernel_rfl) ?_
     refine QN.then_ ?_
     refine OK.seq K46_27 K46_37 (by kernel_rfl) ?_
     refine OK.block 1 K46_28 (by kernel_rfl) ?_
     refine OK.seq K46_29 K46_31 (by kernel_rfl) ?_
     refine OK.join (fun K' I' _ L' X' => ∃ (x2 : Bool), K' = [(0, .slice Ap0 a0.length cp0), (1, .int .i64 a1), (2, .int .i64 a2), (7, .int .i64 x1), (77, .bool x2)] ∧ L' = [] ∧ X' = [] ∧ Imm.le I3 I' ∧ (if x2 = true then (some (Sum.inr false)) else (armillaryref29_counts.l1 a0 a1 a2 kq1 (W .i64 (x1 + 1)))) = some y1) ?_ ?_
     ·rintro _ I4 nx4 _ _ ⟨x2, rfl, rfl, rfl, hi4, H⟩
      replace H : (if x2 = true then (some (Sum.inr false)) else (armillaryref29_counts.l1 a0 a1 a2 kq1 (W .i64 (x1 + 1)))) = some y1 := H
      refine QN.then_ ?_
      refine OK.cond (.tmp 77) K46_32 K46_36 x2 (by kernel_rfl) (by kernel_rfl) (by kernel_rfl) (fun hb => ?_) (fun hb => ?_)
      ·skip
       have hc := hb
       rw [if_pos hc] at H
       clear hb
       refine OK.seq K46_33 K46_35 (by kernel_rfl) ?_
       refine OK.region 7 O46_33 (by kernel_rfl) ?_
       refine RL.simK (K' := [(6, .bool false)]) [] (RFacts.nil _ _ _) 1 [.no] (by kernel_rfl) (by kernel_rfl) ?_
       refine RL.nil (by kernel_rfl) ?_
       refine QN.then_ ?_
       refine OK.ret (by kernel_rfl) ?_
       refine QN.blkR ?_
       refine QN.thenR ?_
       refine QN.outR hQ2 ?_
       refine QN.blkR ?_
       refine QN.outR hQ1 ?_
       refine QN.thenR ?_
       obtain rfl := Option.some.inj H
       replace H : some false = some r := HK1
       obtain rfl := Option.some.inj H
       refine QN.body rfl [] (RFacts.nil _ _ _) (.no) (.bool false) (by kernel_rfl) (by kernel_rfl) (by kernel_rfl) ?_ _ (.inr rfl)
       exact fun w' hs' => ⟨_, rfl, I4, rfl, hs'.got _ .slnil⟩
      ·skip
       have hc := (Bool.eq_false_iff.1 hb)
       rw [if_neg hc] at H
       clear hb
       refine OK.skip (by kernel_rfl) ?_
       refine QN.blkN ?_
       refine QN.then_ ?_
       refine OK.region 5 O46_37 (by kernel_rfl) ?_
       refine RL.simK (K' := [(7, .int .i64 (W .i64 (x1 + 1))), (0, .slice Ap0 a0.length cp0), (1, .int .i64 a1), (2, .int .i64 a2)]) [] (RFacts.nil _ _ _) 3 [.no, .no, .no] (by kernel_rfl) (by kernel_rfl) ?_
       refine RL.nil (by kernel_rfl) ?_
       refine QN.sub (K' := [(0, .slice Ap0 a0.length cp0), (1, .int .i64 a1), (2, .int .i64 a2), (7, .int .i64 (W .i64 (x1 + 1)))]) (L' := []) (by kernel_rfl) .slnil (.refl _) ?_
       exact hJ2 _ _ _ _ _ ⟨W .i64 (x1 + 1), rfl, rfl, rfl, (Imm.le_trans hi3 hi4), H⟩
     ·intro Q_2 hJ3 hQ3
      obtain ⟨y2, H, HK2⟩ := Option.bind_eq_some_iff.mp H
      by_cases hi0_1 : 0 ≤ x1
      case neg => rw [if_neg hi0_1] at H; cases H
      rw [if_pos hi0_1] at H
      by_cases hi1_1 : x1 < (a0.length : Int)
      case neg => rw [if_neg hi1_1] at H; cases H
      rw [if_pos hi1_1] at H
      obtain ⟨g2_, o2_, hA2_, A2_5_2_, c2_5_2_, hl2_5_2_, hr2_5_2_, hc2_⟩ := t32_at (Rd.ext (Imm.le_trans hi1 hi3) hrp0) x1 hi0_1 hi1_1
      by_cases hi0_2 : 0 ≤ a2
      case neg => rw [if_neg hi0_2] at H; cases H
      rw [if_pos hi0_2] at H
      by_cases hi1_2 : a2 < (a0.length : Int)
      case neg => rw [if_neg hi1_2] at H; cases H
      rw [if_pos hi1_2] at H
      obtain ⟨g3_, o3_, hA3_, A3_5_2_, c3_5_2_, hl3_5_2_, hr3_5_2_, hc3_⟩ := t32_at (Rd.ext (Imm.le_trans hi1 hi3) hrp0) a2 hi0_2 hi1_2
      refine OK.cases (((a0.getD (x1).toNat z32).f0) == ((a0.getD (a2).toNat z32).f0)) (fun hb1 => ?_) (fun hb1 => ?_)
      ·have hc1 := (beq_iff_eq.1 hb1)
       rw [if_pos hc1] at H
       by_cases hi0_3 : 0 ≤ x1
       case neg => rw [if_neg hi0_3] at H; cases H
       rw [if_pos hi0_3] at H
       by_cases hi1_3 : x1 < (a0.length : Int)
       case neg => rw [if_neg hi1_3] at H; cases H
       rw [if_pos hi1_3] at H
       obtain ⟨g4_, o4_, hA4_, A4_5_2_, c4_5_2_, hl4_5_2_, hr4_5_2_, hc4_⟩ := t32_at (Rd.ext (Imm.le_trans hi1 hi3) hrp0) x1 hi0_3 hi1_3
       by_cases hi0_4 : 0 ≤ a2
       case neg => rw [if_neg hi0_4] at H; cases H
       rw [if_pos hi0_4] at H
       by_cases hi1_4 : a2 < (a0.length : Int)
       case neg => rw [if_neg hi1_4] at H; cases H
       rw [if_pos hi1_4] at H
       obtain ⟨g5_, o5_, hA5_, A5_5_2_, c5_5_2_, hl5_5_2_, hr5_5_2_, hc5_⟩ := t32_at (Rd.ext (Imm.le_trans hi1 hi3) hrp0) a2 hi0_4 hi1_4
       refine OK.cases (((a0.getD (x1).toNat z32).f1) == ((a0.getD (a2).toNat z32).f1)) (fun hb2 => ?_) (fun hb2 => ?_)
       ·have hc2 := (beq_iff_eq.1 hb2)
        rw [if_pos hc2] at H
        by_cases hi0_5 : 0 ≤ x1
        case neg => rw [if_neg hi0_5] at H; cases H
        rw [if_pos hi0_5] at H
        by_cases hi1_5 : x1 < (a0.length : Int)
        case neg => rw [if_neg hi1_5] at H; cases H
        rw [if_pos hi1_5] at H
        obtain ⟨g6_, o6_, hA6_, A6_5_2_, c6_5_2_, hl6_5_2_, hr6_5_2_, hc6_⟩ := t32_at (Rd.ext (Imm.le_trans hi1 hi3) hrp0) x1 hi0_5 hi1_5
        by_cases hi0_6 : 0 ≤ a2
        case neg => rw [if_neg hi0_6] at H; cases H
        rw [if_pos hi0_6] at H
        by_cases hi1_6 : a2 < (a0.length : Int)
        case neg => rw [if_neg hi1_6] at H; cases H
        rw [if_pos hi1_6] at H
        obtain ⟨g7_, o7_, hA7_, A7_5_2_, c7_5_2_, hl7_5_2_, hr7_5_2_, hc7_⟩ := t32_at (Rd.ext (Imm.le_trans hi1 hi3) hrp0) a2 hi0_6 hi1_6
        refine OK.cases (((a0.getD (x1).toNat z32).f2) == ((a0.getD (a2).toNat z32).f2)) (fun hb3 => ?_) (fun hb3 => ?_)
        ·have hc3 := (beq_iff_eq.1 hb3)
         rw [if_pos hc3] at H
         by_cases hi0_7 : 0 ≤ x1
         case neg => rw [if_neg hi0_7] at H; cases H
         rw [if_pos hi0_7] at H
         by_cases hi1_7 : x1 < (a0.length : Int)
         case neg => rw [if_neg hi1_7] at H; cases H
         rw [if_pos hi1_7] at H
         obtain ⟨g8_, o8_, hA8_, A8_5_2_, c8_5_2_, hl8_5_2_, hr8_5_2_, hc8_⟩ := t32_at (Rd.ext (Imm.le_trans hi1 hi3) hrp0) x1 hi0_7 hi1_7
         by_cases hi0_8 : 0 ≤ a2
         case neg => rw [if_neg hi0_8] at H; cases H
         rw [if_pos hi0_8] at H
         by_cases hi1_8 : a2 < (a0.length : Int)
         case neg => rw [if_neg hi1_8] at H; cases H
         rw [if_pos hi1_8] at H
         obtain ⟨g9_, o9_, hA9_, A9_5_2_, c9_5_2_, hl9_5_2_, hr9_5_2_, hc9_⟩ := t32_at (Rd.ext (Imm.le_trans hi1 hi3) hrp0) a2 hi0_8 hi1_8
         refine OK.cases (((a0.getD (x1).toNat z32).f3) == ((a0.getD (a2).toNat z32).f3)) (fun hb4 => ?_) (fun hb4 => ?_)
         ·have hc4 := (beq_iff_eq.1 hb4)
          rw [if_pos hc4] at H
          by_cases hi0_9 : 0 ≤ x1
          case neg => rw [if_neg hi0_9] at H; cases H
          rw [if_pos hi0_9] at H
          by_cases hi1_9 : x1 < (a0.length : Int)
          case neg => rw [if_neg hi1_9] at H; cases H
          rw [if_pos hi1_9] at H
          obtain ⟨g10_, o10_, hA10_, A10_5_2_, c10_5_2_, hl10_5_2_, hr10_5_2_, hc10_⟩ := t32_at (Rd.ext (Imm.le_trans hi1 hi3) hrp0) x1 hi0_9 hi1_9
          refine OK.drawnC 6 56 O46_29 a46_29n (by kernel_rfl) (by kernel_rfl) u46d1l (u46d1g a2 x1 g2_ o2_ g3_ o3_ g4_ o4_ g5_ o5_ g6_ o6_ g7_ o7_ g8_ o8_ g9_ o9_ g10_ o10_) [(⟨g2_, o2_ + (x1).toNat * 8, none⟩, .int .i64 ((a0.getD (x1).toNat z32).f0)), (⟨g3_, o3_ + (a2).toNat * 8, none⟩, .int .i64 ((a0.getD (a2).toNat z32).f0)), (⟨g4_, o4_ + (x1).toNat * 8 + 1, none⟩, .int .i64 ((a0.getD (x1).toNat z32).f1)), (⟨g5_, o5_ + (a2).toNat * 8 + 1, none⟩, .int .i64 ((a0.getD (a2).toNat z32).f1)), (⟨g6_, o6_ + (x1).toNat * 8 + 2, none⟩, .int .i64 ((a0.getD (x1).toNat z32).f2)), (⟨g7_, o7_ + (a2).toNat * 8 + 2, none⟩, .int .i64 ((a0.getD (a2).toNat z32).f2)), (⟨g8_, o8_ + (x1).toNat * 8 + 3, none⟩, .int .i64 ((a0.getD (x1).toNat z32).f3)), (⟨g9_, o9_ + (a2).toNat * 8 + 3, none⟩, .int .i64 ((a0.getD (a2).toNat z32).f3)), (⟨g10_, o10_ + (x1).toNat * 8, none⟩, .int .i64 ((a0.getD (x1).toNat z32).f0)), (⟨g10_, o10_ + (x1).toNat * 8 + 1, none⟩, .int .i64 ((a0.getD (x1).toNat z32).f1)), (⟨g10_, o10_ + (x1).toNat * 8 + 2, none⟩, .int .i64 ((a0.getD (x1).toNat z32).f2)), (⟨g10_, o10_ + (x1).toNat * 8 + 3, none⟩, .int .i64 ((a0.getD (x1).toNat z32).f3)), (⟨g10_, o10_ + (x1).toNat * 8 + 4, none⟩, .int .u32 ((a0.getD (x1).toNat z32).f4)), (⟨g10_, o10_ + (x1).toNat * 8 + 5, none⟩, .int .i64 ((a0.getD (x1).toNat z32).f5.f0)), (⟨g10_, o10_ + (x1).toNat * 8 + 6, none⟩, .string ((a0.getD (x1).toNat z32).f5.f1)), (⟨g10_, o10_ + (x1).toNat * 8 + 7, none⟩, .slice A10_5_2_ (((a0.getD (x1).toNat z32).f5.f2).length) c10_5_2_)] (RI.cons (hc2_ 0 _ rfl) (RI.cons (hc3_ 0 _ rfl) (RI.cons (hc4_ 1 _ rfl) (RI.cons (hc5_ 1 _ rfl) (RI.cons (hc6_ 2 _ rfl) (RI.cons (hc7_ 2 _ rfl) (RI.cons (hc8_ 3 _ rfl) (RI.cons (hc9_ 3 _ rfl) (RI.cons (hc10_ 0 _ rfl) (RI.cons (hc10_ 1 _ rfl) (RI.cons (hc10_ 2 _ rfl) (RI.cons (hc10_ 3 _ rfl) (RI.cons (hc10_ 4 _ rfl) (RI.cons (hc10_ 5 _ rfl) (RI.cons (hc10_ 6 _ rfl) (RI.cons (hc10_ 7 _ rfl) (RI.nil _))))))))))))))))) (.no :: .no :: .no :: .no :: .r 0 :: .no :: .no :: .no :: .no :: .r 1 :: .no :: .no :: .no :: .no :: .no :: .no :: .r 2 :: .no :: .no :: .no :: .no :: .r 3 :: .no :: .no :: .no :: .no :: .no :: .no :: .no :: .r 4 :: .no :: .no :: .no :: .no :: .r 5 :: .no :: .no :: .no :: .no :: .no :: .no :: .no :: .r 6 :: .no :: .no :: .no :: .no :: .r 7 :: .no :: .no :: .no :: .no :: .no :: .no :: .r 8 :: .no :: []) a46_29 a46_29o (by kernel_rfl) (by kernel_rfl) (u46d1s a0 Ap0 cp0 a1 a2 x1 g2_ o2_ g3_ o3_ g4_ o4_ g5_ o5_ g6_ o6_ g7_ o7_ g8_ o8_ g9_ o9_ A10_5_2_ c10_5_2_ g10_ o10_) (u46d1f a0 Ap0 cp0 a1 a2 x1 g2_ o2_ g3_ o3_ g4_ o4_ g5_ o5_ g6_ o6_ g7_ o7_ g8_ o8_ g9_ o9_ A10_5_2_ c10_5_2_ g10_ o10_ 56) (u46d1v a0 Ap0 cp0 a1 a2 x1 g2_ o2_ g3_ o3_ g4_ o4_ g5_ o5_ g6_ o6_ g7_ o7_ g8_ o8_ g9_ o9_ A10_5_2_ c10_5_2_ g10_ o10_) (u46d1e a0 Ap0 cp0 a1 a2 x1 g2_ o2_ g3_ o3_ g4_ o4_ g5_ o5_ g6_ o6_ g7_ o7_ g8_ o8_ g9_ o9_ A10_5_2_ c10_5_2_ g10_ o10_) [] framesOk.nil ?_ [u46d1f a0 Ap0 cp0 a1 a2 x1 g2_ o2_ g3_ o3_ g4_ o4_ g5_ o5_ g6_ o6_ g7_ o7_ g8_ o8_ g9_ o9_ A10_5_2_ c10_5_2_ g10_ o10_ 2, u46d1f a0 Ap0 cp0 a1 a2 x1 g2_ o2_ g3_ o3_ g4_ o4_ g5_ o5_ g6_ o6_ g7_ o7_ g8_ o8_ g9_ o9_ A10_5_2_ c10_5_2_ g10_ o10_ 7, u46d1f a0 Ap0 cp0 a1 a2 x1 g2_ o2_ g3_ o3_ g4_ o4_ g5_ o5_ g6_ o6_ g7_ o7_ g8_ o8_ g9_ o9_ A10_5_2_ c10_5_2_ g10_ o10_ 11, u46d1f a0 Ap0 cp0 a1 a2 x1 g2_ o2_ g3_ o3_ g4_ o4_ g5_ o5_ g6_ o6_ g7_ o7_ g8_ o8_ g9_ o9_ A10_5_2_ c10_5_2_ g10_ o10_ 14, u46d1f a0 Ap0 cp0 a1 a2 x1 g2_ o2_ g3_ o3_ g4_ o4_ g5_ o5_ g6_ o6_ g7_ o7_ g8_ o8_ g9_ o9_ A10_5_2_ c10_5_2_ g10_ o10_ 19, u46d1f a0 Ap0 cp0 a1 a2 x1 g2_ o2_ g3_ o3_ g4_ o4_ g5_ o5_ g6_ o6_ g7_ o7_ g8_ o8_ g9_ o9_ A10_5_2_ c10_5_2_ g10_ o10_ 24, u46d1f a0 Ap0 cp0 a1 a2 x1 g2_ o2_ g3_ o3_ g4_ o4_ g5_ o5_ g6_ o6_ g7_ o7_ g8_ o8_ g9_ o9_ A10_5_2_ c10_5_2_ g10_ o10_ 27, u46d1f a0 Ap0 cp0 a1 a2 x1 g2_ o2_ g3_ o3_ g4_ o4_ g5_ o5_ g6_ o6_ g7_ o7_ g8_ o8_ g9_ o9_ A10_5_2_ c10_5_2_ g10_ o10_ 32, u46d1f a0 Ap0 cp0 a1 a2 x1 g2_ o2_ g3_ o3_ g4_ o4_ g5_ o5_ g6_ o6_ g7_ o7_ g8_ o8_ g9_ o9_ A10_5_2_ c10_5_2_ g10_ o10_ 37, u46d1f a0 Ap0 cp0 a1 a2 x1 g2_ o2_ g3_ o3_ g4_ o4_ g5_ o5_ g6_ o6_ g7_ o7_ g8_ o8_ g9_ o9_ A10_5_2_ c10_5_2_ g10_ o10_ 40, u46d1f a0 Ap0 cp0 a1 a2 x1 g2_ o2_ g3_ o3_ g4_ o4_ g5_ o5_ g6_ o6_ g7_ o7_ g8_ o8_ g9_ o9_ A10_5_2_ c10_5_2_ g10_ o10_ 45, u46d1f a0 Ap0 cp0 a1 a2 x1 g2_ o2_ g3_ o3_ g4_ o4_ g5_ o5_ g6_ o6_ g7_ o7_ g8_ o8_ g9_ o9_ A10_5_2_ c10_5_2_ g10_ o10_ 50, u46d1f a0 Ap0 cp0 a1 a2 x1 g2_ o2_ g3_ o3_ g4_ o4_ g5_ o5_ g6_ o6_ g7_ o7_ g8_ o8_ g9_ o9_ A10_5_2_ c10_5_2_ g10_ o10_ 53] (framesOk.cons (fun u => rfl) (framesOk.cons (fun u => rfl) (framesOk.cons (fun u => rfl) (framesOk.cons (fun u => rfl) (framesOk.cons (fun u => rfl) (framesOk.cons (fun u => rfl) (framesOk.cons (fun u => rfl) (framesOk.cons (fun u => rfl) (framesOk.cons (fun u => rfl) (framesOk.cons (fun u => rfl) (framesOk.cons (fun u => rfl) (framesOk.cons (fun u => rfl) (framesOk.cons (fun u => rfl) framesOk.nil))))))))))))) ?_ ?_
          ·refine LoudsG.nil
          ·refine Givens.cons (fun u w =>  ?_) (fun _ _ _ => rfl) (Givens.cons (fun u w =>  ?_) (fun _ _ _ => rfl) (Givens.cons (fun u w =>  ?_) (fun _ _ _ => rfl) (Givens.cons (fun u w =>  ?_) (fun _ _ _ => rfl) (Givens.cons (fun u w =>  ?_) (fun _ _ _ => rfl) (Givens.cons (fun u w =>  ?_) (fun _ _ _ => rfl) (Givens.cons (fun u w =>  ?_) (fun _ _ _ => rfl) (Givens.cons (fun u w =>  ?_) (fun _ _ _ => rfl) (Givens.cons (fun u w =>  ?_) (fun _ _ _ => rfl) (Givens.cons (fun u w =>  ?_) (fun _ _ _ => rfl) (Givens.cons (fun u w =>  ?_) (fun _ _ _ => rfl) (Givens.cons (fun u w =>  ?_) (fun _ _ _ => rfl) (Givens.cons (fun u w =>  ?_) (fun _ _ _ => rfl) (Givens.nil)))))))))))))
           ·exact giv_idx (T := 22) (e := 32) 8 .i64 x1 hA2_ a0.length cp0 (by kernel_rfl) (by kernel_rfl) (by kernel_rfl) hi0_1 hi1_1 w
           ·exact giv_idx (T := 22) (e := 32) 8 .i64 a2 hA3_ a0.length cp0 (by kernel_rfl) (by kernel_rfl) (by kernel_rfl) hi0_2 hi1_2 w
           ·exact giv_run (v := .bool (((a0.getD (x1).toNat z32).f0) == ((a0.getD (a2).toNat z32).f0))) (by kernel_rfl) (by rw [hb1]; try rfl) w
           ·exact giv_idx (T := 22) (e := 32) 8 .i64 x1 hA4_ a0.length cp0 (by kernel_rfl) (by kernel_rfl) (by kernel_rfl) hi0_3 hi1_3 w
           ·exact giv_idx (T := 22) (e := 32) 8 .i64 a2 hA5_ a0.length cp0 (by kernel_rfl) (by kernel_rfl) (by kernel_rfl) hi0_4 hi1_4 w
           ·exact giv_run (v := .bool (((a0.getD (x1).toNat z32).f1) == ((a0.getD (a2).toNat z32).f1))) (by kernel_rfl) (by rw [hb2]; try rfl) w
           ·exact giv_idx (T := 22) (e := 32) 8 .i64 x1 hA6_ a0.length cp0 (by kernel_rfl) (by kernel_rfl) (by kernel_rfl) hi0_5 hi1_5 w
           ·exact giv_idx (T := 22) (e := 32) 8 .i64 a2 hA7_ a0.length cp0 (by kernel_rfl) (by kernel_rfl) (by kernel_rfl) hi0_6 hi1_6 w
           ·exact giv_run (v := .bool (((a0.getD (x1).toNat z32).f2) == ((a0.getD (a2).toNat z32).f2))) (by kernel_rfl) (by rw [hb3]; try rfl) w
           ·exact giv_idx (T := 22) (e := 32) 8 .i64 x1 hA8_ a0.length cp0 (by kernel_rfl) (by kernel_rfl) (by kernel_rfl) hi0_7 hi1_7 w
           ·exact giv_idx (T := 22) (e := 32) 8 .i64 a2 hA9_ a0.length cp0 (by kernel_rfl) (by kernel_rfl) (by kernel_rfl) hi0_8 hi1_8 w
           ·exact giv_run (v := .bool (((a0.getD (x1).toNat z32).f3) == ((a0.getD (a2).toNat z32).f3))) (by kernel_rfl) (by rw [hb4]; try rfl) w
           ·exact giv_idx (T := 22) (e := 32) 8 .i64 x1 hA10_ a0.length cp0 (by kernel_rfl) (by kernel_rfl) (by kernel_rfl) hi0_9 hi1_9 w
          intro u I5 nx5 hi5 hF
          clear hF
          refine RL.norm (K' := ((75, .int .i64 a1) :: (74, .agg #[.int .i64 ((a0.getD (x1).toNat z32).f0), .int .i64 ((a0.getD (x1).toNat z32).f1), .int .i64 ((a0.getD (x1).toNat z32).f2), .int .i64 ((a0.getD (x1).toNat z32).f3), .int .u32 ((a0.getD (x1).toNat z32).f4), .int .i64 ((a0.getD (x1).toNat z32).f5.f0), .string ((a0.getD (x1).toNat z32).f5.f1), .slice A10_5_2_ (((a0.getD (x1).toNat z32).f5.f2).length) c10_5_2_]) :: (73, .pointer (some ⟨g10_, o10_ + (x1).toNat * 8, none⟩)) :: (72, .int .i64 x1) :: (71, .slice Ap0 a0.length cp0) :: (70, .bool true) :: (69, .bool (((a0.getD (x1).toNat z32).f3) == ((a0.getD (a2).toNat z32).f3))) :: (68, .bool (((a0.getD (x1).toNat z32).f3) == ((a0.getD (a2).toNat z32).f3))) :: (67, .int .i64 ((a0.getD (a2).toNat z32).f3)) :: (66, .pointer (some ⟨g9_, o9_ + (a2).toNat * 8 + 3, none⟩)) :: (65, .pointer (some ⟨g9_, o9_ + (a2).toNat * 8, none⟩)) :: (64, .int .i64 a2) :: (63, .slice Ap0 a0.length cp0) :: (62, .int .i64 ((a0.getD (x1).toNat z32).f3)) :: (61, .pointer (some ⟨g8_, o8_ + (x1).toNat * 8 + 3, none⟩)) :: (60, .pointer (some ⟨g8_, o8_ + (x1).toNat * 8, none⟩)) :: (59, .int .i64 x1) :: (58, .slice Ap0 a0.length cp0) :: (57, .bool true) :: (56, .bool (((a0.getD (x1).toNat z32).f2) == ((a0.getD (a2).toNat z32).f2))) :: (55, .bool (((a0.getD (x1).toNat z32).f2) == ((a0.getD (a2).toNat z32).f2))) :: (54, .int .i64 ((a0.getD (a2).toNat z32).f2)) :: (53, .pointer (some ⟨g7_, o7_ + (a2).toNat * 8 + 2, none⟩)) :: (52, .pointer (some ⟨g7_, o7_ + (a2).toNat * 8, none⟩)) :: (51, .int .i64 a2) :: (50, .slice Ap0 a0.length cp0) :: (49, .int .i64 ((a0.getD (x1).toNat z32).f2)) :: (48, .pointer (some ⟨g6_, o6_ + (x1).toNat * 8 + 2, none⟩)) :: (47, .pointer (some ⟨g6_, o6_ + (x1).toNat * 8, none⟩)) :: (46, .int .i64 x1) :: (45, .slice Ap0 a0.length cp0) :: (44, .bool true) :: (43, .bool (((a0.getD (x1).toNat z32).f1) == ((a0.getD (a2).toNat z32).f1))) :: (42, .bool (((a0.getD (x1).toNat z32).f1) == ((a0.getD (a2).toNat z32).f1))) :: (41, .int .i64 ((a0.getD (a2).toNat z32).f1)) :: (40, .pointer (some ⟨g5_, o5_ + (a2).toNat * 8 + 1, none⟩)) :: (39, .pointer (some ⟨g5_, o5_ + (a2).toNat * 8, none⟩)) :: (38, .int .i64 a2) :: (37, .slice Ap0 a0.length cp0) :: (36, .int .i64 ((a0.getD (x1).toNat z32).f1)) :: (35, .pointer (some ⟨g4_, o4_ + (x1).toNat * 8 + 1, none⟩)) :: (34, .pointer (some ⟨g4_, o4_ + (x1).toNat * 8, none⟩)) :: (33, .int .i64 x1) :: (32, .slice Ap0 a0.length cp0) :: (31, .bool true) :: (30, .bool (((a0.getD (x1).toNat z32).f0) == ((a0.getD (a2).toNat z32).f0))) :: (29, .int .i64 ((a0.getD (a2).toNat z32).f0)) :: (28, .pointer (some ⟨g3_, o3_ + (a2).toNat * 8, none⟩)) :: (27, .pointer (some ⟨g3_, o3_ + (a2).toNat * 8, none⟩)) :: (26, .int .i64 a2) :: (25, .slice Ap0 a0.length cp0) :: (24, .int .i64 ((a0.getD (x1).toNat z32).f0)) :: (23, .pointer (some ⟨g2_, o2_ + (x1).toNat * 8, none⟩)) :: (22, .pointer (some ⟨g2_, o2_ + (x1).toNat * 8, none⟩)) :: (21, .int .i64 x1) :: (20, .slice Ap0 a0.length cp0) :: (17, .bool (decide (x1 < a2))) :: (0, .slice Ap0 a0.length cp0) :: (1, .int .i64 a1) :: (2, .int .i64 a2) :: (7, .int .i64 x1) :: [])) (X' := []) (by kernel_rfl) rfl rfl rfl ?_
          obtain ⟨t2, hA2, H⟩ := Option.bind_eq_some_iff.mp H
          refine RL.callP 13 [.agg #[.int .i64 ((a0.getD (x1).toNat z32).f0), .int .i64 ((a0.getD (x1).toNat z32).f1), .int .i64 ((a0.getD (x1).toNat z32).f2), .int .i64 ((a0.getD (x1).toNat z32).f3), .int .u32 ((a0.getD (x1).toNat z32).f4), .int .i64 ((a0.getD (x1).toNat z32).f5.f0), .string ((a0.getD (x1).toNat z32).f5.f1), .slice A10_5_2_ (((a0.getD (x1).toNat z32).f5.f2).length) c10_5_2_], .int .i64 a1] (some 76) (fun w => armillaryref29_Valid.Post I5 w t2) (by kernel_rfl) (by kernel_rfl) (fun w hs => armillaryref29_Valid.calls kq1 I5 (a0.getD (x1).toNat z32) A10_5_2_ c10_5_2_ a1 w hs.im hl10_5_2_ (Rd.ext hi5 hr10_5_2_) t2 hA2) ?_
          rintro w v w' hs ⟨I6, rfl, hg⟩
          have hi6 := hg.le
          refine RL.resume (X' := []) rfl (hs.call hg) ?_
          clear hs hg
          generalize w'.heap.size = nx6
          clear w w'
          refine RL.simK (K' := [(77, .bool t2), (0, .slice Ap0 a0.length cp0), (1, .int .i64 a1), (2, .int .i64 a2), (7, .int .i64 x1)]) [] (RFacts.nil _ _ _) 1 [.no] (by kernel_rfl) (by kernel_rfl) ?_
          refine RL.nil (by kernel_rfl) ?_
          obtain rfl := Option.some.inj H
          refine QN.sub (K' := [(0, .slice Ap0 a0.length cp0), (1, .int .i64 a1), (2, .int .i64 a2), (7, .int .i64 x1), (77, .bool t2)]) (L' := []) (by kernel_rfl) .slnil (.refl _) ?_
          exact hJ3 _ _ _ _ _ ⟨t2, rfl, rfl, rfl, (Imm.le_trans hi5 hi6), HK2⟩
         ·have hc4 := (beq_eq_false_iff_ne.1 hb4)
          rw [if_neg hc4] at H
          refine OK.drawnC 6 56 O46_29 a46_29n (by kernel_rfl) (by kernel_rfl) u46d2l (u46d2g a2 x1 g2_ o2_ g3_ o3_ g4_ o4_ g5_ o5_ g6_ o6_ g7_ o7_ g8_ o8_ g9_ o9_) [(⟨g2_, o2_ + (x1).toNat * 8, none⟩, .int .i64 ((a0.getD (x1).toNat z32).f0)), (⟨g3_, o3_ + (a2).toNat * 8, none⟩, .int .i64 ((a0.getD (a2).toNat z32).f0)), (⟨g4_, o4_ + (x1).toNat * 8 + 1, none⟩, .int .i64 ((a0.getD (x1).toNat z32).f1)), (⟨g5_, o5_ + (a2).toNat * 8 + 1, none⟩, .int .i64 ((a0.getD (a2).toNat z32).f1)), (⟨g6_, o6_ + (x1).toNat * 8 + 2, none⟩, .int .i64 ((a0.getD (x1).toNat z32).f2)), (⟨g7_, o7_ + (a2).toNat * 8 + 2, none⟩, .int .i64 ((a0.getD (a2).toNat z32).f2)), (⟨g8_, o8_ + (x1).toNat * 8 + 3, none⟩, .int .i64 ((a0.getD (x1).toNat z32).f3)), (⟨g9_, o9_ + (a2).toNat * 8 + 3, none⟩, .int .i64 ((a0.getD (a2).toNat z32).f3))] (RI.cons (hc2_ 0 _ rfl) (RI.cons (hc3_ 0 _ rfl) (RI.cons (hc4_ 1 _ rfl) (RI.cons (hc5_ 1 _ rfl) (RI.cons (hc6_ 2 _ rfl) (RI.cons (hc7_ 2 _ rfl) (RI.cons (hc8_ 3 _ rfl) (RI.cons (hc9_ 3 _ rfl) (RI.nil _))))))))) (.no :: .no :: .no :: .no :: .r 0 :: .no :: .no :: .no :: .no :: .r 1 :: .no :: .no :: .no :: .no :: .no :: .no :: .r 2 :: .no :: .no :: .no :: .no :: .r 3 :: .no :: .no :: .no :: .no :: .no :: .no :: .no :: .r 4 :: .no :: .no :: .no :: .no :: .r 5 :: .no :: .no :: .no :: .no :: .no :: .no :: .no :: .r 6 :: .no :: .no :: .no :: .no :: .r 7 :: .no :: .no :: .no :: .no :: .no :: .no :: .no :: .no :: []) a46_29 a46_29o (by kernel_rfl) (by kernel_rfl) (u46d2s a0 Ap0 cp0 a2 x1 g2_ o2_ g3_ o3_ g4_ o4_ g5_ o5_ g6_ o6_ g7_ o7_ g8_ o8_ g9_ o9_) (u46d2f a0 Ap0 cp0 a1 a2 x1 g2_ o2_ g3_ o3_ g4_ o4_ g5_ o5_ g6_ o6_ g7_ o7_ g8_ o8_ g9_ o9_ 56) (u46d2v a0 Ap0 cp0 a1 a2 x1 g2_ o2_ g3_ o3_ g4_ o4_ g5_ o5_ g6_ o6_ g7_ o7_ g8_ o8_ g9_ o9_) (u46d2e a0 Ap0 cp0 a1 a2 x1 g2_ o2_ g3_ o3_ g4_ o4_ g5_ o5_ g6_ o6_ g7_ o7_ g8_ o8_ g9_ o9_) [] framesOk.nil ?_ [u46d2f a0 Ap0 cp0 a1 a2 x1 g2_ o2_ g3_ o3_ g4_ o4_ g5_ o5_ g6_ o6_ g7_ o7_ g8_ o8_ g9_ o9_ 2, u46d2f a0 Ap0 cp0 a1 a2 x1 g2_ o2_ g3_ o3_ g4_ o4_ g5_ o5_ g6_ o6_ g7_ o7_ g8_ o8_ g9_ o9_ 7, u46d2f a0 Ap0 cp0 a1 a2 x1 g2_ o2_ g3_ o3_ g4_ o4_ g5_ o5_ g6_ o6_ g7_ o7_ g8_ o8_ g9_ o9_ 11, u46d2f a0 Ap0 cp0 a1 a2 x1 g2_ o2_ g3_ o3_ g4_ o4_ g5_ o5_ g6_ o6_ g7_ o7_ g8_ o8_ g9_ o9_ 14, u46d2f a0 Ap0 cp0 a1 a2 x1 g2_ o2_ g3_ o3_ g4_ o4_ g5_ o5_ g6_ o6_ g7_ o7_ g8_ o8_ g9_ o9_ 19, u46d2f a0 Ap0 cp0 a1 a2 x1 g2_ o2_ g3_ o3_ g4_ o4_ g5_ o5_ g6_ o6_ g7_ o7_ g8_ o8_ g9_ o9_ 24, u46d2f a0 Ap0 cp0 a1 a2 x1 g2_ o2_ g3_ o3_ g4_ o4_ g5_ o5_ g6_ o6_ g7_ o7_ g8_ o8_ g9_ o9_ 27, u46d2f a0 Ap0 cp0 a1 a2 x1 g2_ o2_ g3_ o3_ g4_ o4_ g5_ o5_ g6_ o6_ g7_ o7_ g8_ o8_ g9_ o9_ 32, u46d2f a0 Ap0 cp0 a1 a2 x1 g2_ o2_ g3_ o3_ g4_ o4_ g5_ o5_ g6_ o6_ g7_ o7_ g8_ o8_ g9_ o9_ 37, u46d2f a0 Ap0 cp0 a1 a2 x1 g2_ o2_ g3_ o3_ g4_ o4_ g5_ o5_ g6_ o6_ g7_ o7_ g8_ o8_ g9_ o9_ 40, u46d2f a0 Ap0 cp0 a1 a2 x1 g2_ o2_ g3_ o3_ g4_ o4_ g5_ o5_ g6_ o6_ g7_ o7_ g8_ o8_ g9_ o9_ 45, u46d2f a0 Ap0 cp0 a1 a2 x1 g2_ o2_ g3_ o3_ g4_ o4_ g5_ o5_ g6_ o6_ g7_ o7_ g8_ o8_ g9_ o9_ 50] (framesOk.cons (fun u => rfl) (framesOk.cons (fun u => rfl) (framesOk.cons (fun u => rfl) (framesOk.cons (fun u => rfl) (framesOk.cons (fun u => rfl) (framesOk.cons (fun u => rfl) (framesOk.cons (fun u => rfl) (framesOk.cons (fun u => rfl) (framesOk.cons (fun u => rfl) (framesOk.cons (fun u => rfl) (framesOk.cons (fun u => rfl) (framesOk.cons (fun u => rfl) framesOk.nil)))))))))))) ?_ ?_
          ·refine LoudsG.nil
          ·refine Givens.cons (fun u w =>  ?_) (fun _ _ _ => rfl) (Givens.cons (fun u w =>  ?_) (fun _ _ _ => rfl) (Givens.cons (fun u w =>  ?_) (fun _ _ _ => rfl) (Givens.cons (fun u w =>  ?_) (fun _ _ _ => rfl) (Givens.cons (fun u w =>  ?_) (fun _ _ _ => rfl) (Givens.cons (fun u w =>  ?_) (fun _ _ _ => rfl) (Givens.cons (fun u w =>  ?_) (fun _ _ _ => rfl) (Givens.cons (fun u w =>  ?_) (fun _ _ _ => rfl) (Givens.cons (fun u w =>  ?_) (fun _ _ _ => rfl) (Givens.cons (fun u w =>  ?_) (fun _ _ _ => rfl) (Givens.cons (fun u w =>  ?_) (fun _ _ _ => rfl) (Givens.cons (fun u w =>  ?_) (fun _ _ _ => rfl) (Givens.nil))))))))))))
           ·exact giv_idx (T := 22) (e := 32) 8 .i64 x1 hA2_ a0.length cp0 (by kernel_rfl) (by kernel_rfl) (by kernel_rfl) hi0_1 hi1_1 w
           ·exact giv_idx (T := 22) (e := 32) 8 .i64 a2 hA3_ a0.length cp0 (by kernel_rfl) (by kernel_rfl) (by kernel_rfl) hi0_2 hi1_2 w
           ·exact giv_run (v := .bool (((a0.getD (x1).toNat z32).f0) == ((a0.getD (a2).toNat z32).f0))) (by kernel_rfl) (by rw [hb1]; try rfl) w
           ·exact giv_idx (T := 22) (e := 32) 8 .i64 x1 hA4_ a0.length cp0 (by kernel_rfl) (by kernel_rfl) (by kernel_rfl) hi0_3 hi1_3 w
           ·exact giv_idx (T := 22) (e := 32) 8 .i64 a2 hA5_ a0.length cp0 (by kernel_rfl) (by kernel_rfl) (by kernel_rfl) hi0_4 hi1_4 w
           ·exact giv_run (v := .bool (((a0.getD (x1).toNat z32).f1) == ((a0.getD (a2).toNat z32).f1))) (by kernel_rfl) (by rw [hb2]; try rfl) w
           ·exact giv_idx (T := 22) (e := 32) 8 .i64 x1 hA6_ a0.length cp0 (by kernel_rfl) (by kernel_rfl) (by kernel_rfl) hi0_5 hi1_5 w
           ·exact giv_idx (T := 22) (e := 32) 8 .i64 a2 hA7_ a0.length cp0 (by kernel_rfl) (by kernel_rfl) (by kernel_rfl) hi0_6 hi1_6 w
           ·exact giv_run (v := .bool (((a0.getD (x1).toNat z32).f2) == ((a0.getD (a2).toNat z32).f2))) (by kernel_rfl) (by rw [hb3]; try rfl) w
           ·exact giv_idx (T := 22) (e := 32) 8 .i64 x1 hA8_ a0.length cp0 (by kernel_rfl) (by kernel_rfl) (by kernel_rfl) hi0_7 hi1_7 w
           ·exact giv_idx (T := 22) (e := 32) 8 .i64 a2 hA9_ a0.length cp0 (by kernel_rfl) (by kernel_rfl) (by kernel_rfl) hi0_8 hi1_8 w
           ·exact giv_run (v := .bool (((a0.getD (x1).toNat z32).f3) == ((a0.getD (a2).toNat z32).f3))) (by kernel_rfl) (by rw [hb4]; try rfl) w
          intro u I7 nx7 hi7 hF
          clear hF
          refine RL.norm (K' := ((75, undef) :: (74, undef) :: (73, undef) :: (72, undef) :: (71, undef) :: (70, .bool false) :: (69, .bool (((a0.getD (x1).toNat z32).f3) == ((a0.getD (a2).toNat z32).f3))) :: (68, .bool (((a0.getD (x1).toNat z32).f3) == ((a0.getD (a2).toNat z32).f3))) :: (67, .int .i64 ((a0.getD (a2).toNat z32).f3)) :: (66, .pointer (some ⟨g9_, o9_ + (a2).toNat * 8 + 3, none⟩)) :: (65, .pointer (some ⟨g9_, o9_ + (a2).toNat * 8, none⟩)) :: (64, .int .i64 a2) :: (63, .slice Ap0 a0.length cp0) :: (62, .int .i64 ((a0.getD (x1).toNat z32).f3)) :: (61, .pointer (some ⟨g8_, o8_ + (x1).toNat * 8 + 3, none⟩)) :: (60, .pointer (some ⟨g8_, o8_ + (x1).toNat * 8, none⟩)) :: (59, .int .i64 x1) :: (58, .slice Ap0 a0.length cp0) :: (57, .bool true) :: (56, .bool (((a0.getD (x1).toNat z32).f2) == ((a0.getD (a2).toNat z32).f2))) :: (55, .bool (((a0.getD (x1).toNat z32).f2) == ((a0.getD (a2).toNat z32).f2))) :: (54, .int .i64 ((a0.getD (a2).toNat z32).f2)) :: (53, .pointer (some ⟨g7_, o7_ + (a2).toNat * 8 + 2, none⟩)) :: (52, .pointer (some ⟨g7_, o7_ + (a2).toNat * 8, none⟩)) :: (51, .int .i64 a2) :: (50, .slice Ap0 a0.length cp0) :: (49, .int .i64 ((a0.getD (x1).toNat z32).f2)) :: (48, .pointer (some ⟨g6_, o6_ + (x1).toNat * 8 + 2, none⟩)) :: (47, .pointer (some ⟨g6_, o6_ + (x1).toNat * 8, none⟩)) :: (46, .int .i64 x1) :: (45, .slice Ap0 a0.length cp0) :: (44, .bool true) :: (43, .bool (((a0.getD (x1).toNat z32).f1) == ((a0.getD (a2).toNat z32).f1))) :: (42, .bool (((a0.getD (x1).toNat z32).f1) == ((a0.getD (a2).toNat z32).f1))) :: (41, .int .i64 ((a0.getD (a2).toNat z32).f1)) :: (40, .pointer (some ⟨g5_, o5_ + (a2).toNat * 8 + 1, none⟩)) :: (39, .pointer (some ⟨g5_, o5_ + (a2).toNat * 8, none⟩)) :: (38, .int .i64 a2) :: (37, .slice Ap0 a0.length cp0) :: (36, .int .i64 ((a0.getD (x1).toNat z32).f1)) :: (35, .pointer (some ⟨g4_, o4_ + (x1).toNat * 8 + 1, none⟩)) :: (34, .pointer (some ⟨g4_, o4_ + (x1).toNat * 8, none⟩)) :: (33, .int .i64 x1) :: (32, .slice Ap0 a0.length cp0) :: (31, .bool true) :: (30, .bool (((a0.getD (x1).toNat z32).f0) == ((a0.getD (a2).toNat z32).f0))) :: (29, .int .i64 ((a0.getD (a2).toNat z32).f0)) :: (28, .pointer (some ⟨g3_, o3_ + (a2).toNat * 8, none⟩)) :: (27, .pointer (some ⟨g3_, o3_ + (a2).toNat * 8, none⟩)) :: (26, .int .i64 a2) :: (25, .slice Ap0 a0.length cp0) :: (24, .int .i64 ((a0.getD (x1).toNat z32).f0)) :: (23, .pointer (some ⟨g2_, o2_ + (x1).toNat * 8, none⟩)) :: (22, .pointer (some ⟨g2_, o2_ + (x1).toNat * 8, none⟩)) :: (21, .int .i64 x1) :: (20, .slice Ap0 a0.length cp0) :: (17, .bool (decide (x1 < a2))) :: (0, .slice Ap0 a0.length cp0) :: (1, .int .i64 a1) :: (2, .int .i64 a2) :: (7, .int .i64 x1) :: [])) (X' := []) (by kernel_rfl) rfl rfl rfl ?_
          refine RL.simK (K' := [(77, .bool false), (0, .slice Ap0 a0.length cp0), (1, .int .i64 a1), (2, .int .i64 a2), (7, .int .i64 x1)]) [] (RFacts.nil _ _ _) 2 [.no, .no] (by kernel_rfl) (by kernel_rfl) ?_
          refine RL.nil (by kernel_rfl) ?_
          obtain rfl := Option.some.inj H
          refine QN.sub (K' := [(0, .slice Ap0 a0.length cp0), (1, .int .i64 a1), (2, .int .i64 a2), (7, .int .i64 x1), (77, .bool false)]) (L' := []) (by kernel_rfl) .slnil (.refl _) ?_
          exact hJ3 _ _ _ _ _ ⟨false, rfl, rfl, rfl, hi7, HK2⟩
        ·have hc3 := (beq_eq_false_iff_ne.1 hb3)
         rw [if_neg hc3] at H
         refine OK.drawnC 6 56 O46_29 a46_29n (by kernel_rfl) (by kernel_rfl) u46d3l (u46d3g a2 x1 g2_ o2_ g3_ o3_ g4_ o4_ g5_ o5_ g6_ o6_ g7_ o7_) [(⟨g2_, o2_ + (x1).toNat * 8, none⟩, .int .i64 ((a0.getD (x1).toNat z32).f0)), (⟨g3_, o3_ + (a2).toNat * 8, none⟩, .int .i64 ((a0.getD (a2).toNat z32).f0)), (⟨g4_, o4_ + (x1).toNat * 8 + 1, none⟩, .int .i64 ((a0.getD (x1).toNat z32).f1)), (⟨g5_, o5_ + (a2).toNat * 8 + 1, none⟩, .int .i64 ((a0.getD (a2).toNat z32).f1)), (⟨g6_, o6_ + (x1).toNat * 8 + 2, none⟩, .int .i64 ((a0.getD (x1).toNat z32).f2)), (⟨g7_, o7_ + (a2).toNat * 8 + 2, none⟩, .int .i64 ((a0.getD (a2).toNat z32).f2))] (RI.cons (hc2_ 0 _ rfl) (RI.cons (hc3_ 0 _ rfl) (RI.cons (hc4_ 1 _ rfl) (RI.cons (hc5_ 1 _ rfl) (RI.cons (hc6_ 2 _ rfl) (RI.cons (hc7_ 2 _ rfl) (RI.nil _))))))) (.no :: .no :: .no :: .no :: .r 0 :: .no :: .no :: .no :: .no :: .r 1 :: .no :: .no :: .no :: .no :: .no :: .no :: .r 2 :: .no :: .no :: .no :: .no :: .r 3 :: .no :: .no :: .no :: .no :: .no :: .no :: .no :: .r 4 :: .no :: .no :: .no :: .no :: .r 5 :: .no :: .no :: .no :: .no :: .no :: .no :: .no :: .no :: .no :: .no :: .no :: .no :: .no :: .no :: .no :: .no :: .no :: .no :: .no :: .no :: .no :: []) a46_29 a46_29o (by kernel_rfl) (by kernel_rfl) (u46d3s a0 Ap0 cp0 a2 x1 g2_ o2_ g3_ o3_ g4_ o4_ g5_ o5_ g6_ o6_ g7_ o7_) (u46d3f a0 Ap0 cp0 a1 a2 x1 g2_ o2_ g3_ o3_ g4_ o4_ g5_ o5_ g6_ o6_ g7_ o7_ 56) (u46d3v a0 Ap0 cp0 a1 a2 x1 g2_ o2_ g3_ o3_ g4_ o4_ g5_ o5_ g6_ o6_ g7_ o7_) (u46d3e a0 Ap0 cp0 a1 a2 x1 g2_ o2_ g3_ o3_ g4_ o4_ g5_ o5_ g6_ o6_ g7_ o7_) [] framesOk.nil ?_ [u46d3f a0 Ap0 cp0 a1 a2 x1 g2_ o2_ g3_ o3_ g4_ o4_ g5_ o5_ g6_ o6_ g7_ o7_ 2, u46d3f a0 Ap0 cp0 a1 a2 x1 g2_ o2_ g3_ o3_ g4_ o4_ g5_ o5_ g6_ o6_ g7_ o7_ 7, u46d3f a0 Ap0 cp0 a1 a2 x1 g2_ o2_ g3_ o3_ g4_ o4_ g5_ o5_ g6_ o6_ g7_ o7_ 11, u46d3f a0 Ap0 cp0 a1 a2 x1 g2_ o2_ g3_ o3_ g4_ o4_ g5_ o5_ g6_ o6_ g7_ o7_ 14, u46d3f a0 Ap0 cp0 a1 a2 x1 g2_ o2_ g3_ o3_ g4_ o4_ g5_ o5_ g6_ o6_ g7_ o7_ 19, u46d3f a0 Ap0 cp0 a1 a2 x1 g2_ o2_ g3_ o3_ g4_ o4_ g5_ o5_ g6_ o6_ g7_ o7_ 24, u46d3f a0 Ap0 cp0 a1 a2 x1 g2_ o2_ g3_ o3_ g4_ o4_ g5_ o5_ g6_ o6_ g7_ o7_ 27, u46d3f a0 Ap0 cp0 a1 a2 x1 g2_ o2_ g3_ o3_ g4_ o4_ g5_ o5_ g6_ o6_ g7_ o7_ 32, u46d3f a0 Ap0 cp0 a1 a2 x1 g2_ o2_ g3_ o3_ g4_ o4_ g5_ o5_ g6_ o6_ g7_ o7_ 37] (framesOk.cons (fun u => rfl) (framesOk.cons (fun u => rfl) (framesOk.cons (fun u => rfl) (framesOk.cons (fun u => rfl) (framesOk.cons (fun u => rfl) (framesOk.cons (fun u => rfl) (framesOk.cons (fun u => rfl) (framesOk.cons (fun u => rfl) (framesOk.cons (fun u => rfl) framesOk.nil))))))))) ?_ ?_
         ·refine LoudsG.nil
         ·refine Givens.cons (fun u w =>  ?_) (fun _ _ _ => rfl) (Givens.cons (fun u w =>  ?_) (fun _ _ _ => rfl) (Givens.cons (fun u w =>  ?_) (fun _ _ _ => rfl) (Givens.cons (fun u w =>  ?_) (fun _ _ _ => rfl) (Givens.cons (fun u w =>  ?_) (fun _ _ _ => rfl) (Givens.cons (fun u w =>  ?_) (fun _ _ _ => rfl) (Givens.cons (fun u w =>  ?_) (fun _ _ _ => rfl) (Givens.cons (fun u w =>  ?_) (fun _ _ _ => rfl) (Givens.cons (fun u w =>  ?_) (fun _ _ _ => rfl) (Givens.nil)))))))))
          ·exact giv_idx (T := 22) (e := 32) 8 .i64 x1 hA2_ a0.length cp0 (by kernel_rfl) (by kernel_rfl) (by kernel_rfl) hi0_1 hi1_1 w
          ·exact giv_idx (T := 22) (e := 32) 8 .i64 a2 hA3_ a0.length cp0 (by kernel_rfl) (by kernel_rfl) (by kernel_rfl) hi0_2 hi1_2 w
          ·exact giv_run (v := .bool (((a0.getD (x1).toNat z32).f0) == ((a0.getD (a2).toNat z32).f0))) (by kernel_rfl) (by rw [hb1]; try rfl) w
          ·exact giv_idx (T := 22) (e := 32) 8 .i64 x1 hA4_ a0.length cp0 (by kernel_rfl) (by kernel_rfl) (by kernel_rfl) hi0_3 hi1_3 w
          ·exact giv_idx (T := 22) (e := 32) 8 .i64 a2 hA5_ a0.length cp0 (by kernel_rfl) (by kernel_rfl) (by kernel_rfl) hi0_4 hi1_4 w
          ·exact giv_run (v := .bool (((a0.getD (x1).toNat z32).f1) == ((a0.getD (a2).toNat z32).f1))) (by kernel_rfl) (by rw [hb2]; try rfl) w
          ·exact giv_idx (T := 22) (e := 32) 8 .i64 x1 hA6_ a0.length cp0 (by kernel_rfl) (by kernel_rfl) (by kernel_rfl) hi0_5 hi1_5 w
          ·exact giv_idx (T := 22) (e := 32) 8 .i64 a2 hA7_ a0.length cp0 (by kernel_rfl) (by kernel_rfl) (by kernel_rfl) hi0_6 hi1_6 w
          ·exact giv_run (v := .bool (((a0.getD (x1).toNat z32).f2) == ((a0.getD (a2).toNat z32).f2))) (by kernel_rfl) (by rw [hb3]; try rfl) w
         intro u I8 nx8 hi8 hF
         clear hF
         refine RL.norm (K' := ((75, undef) :: (74, undef) :: (73, undef) :: (72, undef) :: (71, undef) :: (70, .bool false) :: (69, .bool false) :: (68, undef) :: (67, undef) :: (66, undef) :: (65, undef) :: (64, undef) :: (63, undef) :: (62, undef) :: (61, undef) :: (60, undef) :: (59, undef) :: (58, undef) :: (57, .bool false) :: (56, .bool (((a0.getD (x1).toNat z32).f2) == ((a0.getD (a2).toNat z32).f2))) :: (55, .bool (((a0.getD (x1).toNat z32).f2) == ((a0.getD (a2).toNat z32).f2))) :: (54, .int .i64 ((a0.getD (a2).toNat z32).f2)) :: (53, .pointer (some ⟨g7_, o7_ + (a2).toNat * 8 + 2, none⟩)) :: (52, .pointer (some ⟨g7_, o7_ + (a2).toNat * 8, none⟩)) :: (51, .int .i64 a2) :: (50, .slice Ap0 a0.length cp0) :: (49, .int .i64 ((a0.getD (x1).toNat z32).f2)) :: (48, .pointer (some ⟨g6_, o6_ + (x1).toNat * 8 + 2, none⟩)) :: (47, .pointer (some ⟨g6_, o6_ + (x1).toNat * 8, none⟩)) :: (46, .int .i64 x1) :: (45, .slice Ap0 a0.length cp0) :: (44, .bool true) :: (43, .bool (((a0.getD (x1).toNat z32).f1) == ((a0.getD (a2).toNat z32).f1))) :: (42, .bool (((a0.getD (x1).toNat z32).f1) == ((a0.getD (a2).toNat z32).f1))) :: (41, .int .i64 ((a0.getD (a2).toNat z32).f1)) :: (40, .pointer (some ⟨g5_, o5_ + (a2).toNat * 8 + 1, none⟩)) :: (39, .pointer (some ⟨g5_, o5_ + (a2).toNat * 8, none⟩)) :: (38, .int .i64 a2) :: (37, .slice Ap0 a0.length cp0) :: (36, .int .i64 ((a0.getD (x1).toNat z32).f1)) :: (35, .pointer (some ⟨g4_, o4_ + (x1).toNat * 8 + 1, none⟩)) :: (34, .pointer (some ⟨g4_, o4_ + (x1).toNat * 8, none⟩)) :: (33, .int .i64 x1) :: (32, .slice Ap0 a0.length cp0) :: (31, .bool true) :: (30, .bool (((a0.getD (x1).toNat z32).f0) == ((a0.getD (a2).toNat z32).f0))) :: (29, .int .i64 ((a0.getD (a2).toNat z32).f0)) :: (28, .pointer (some ⟨g3_, o3_ + (a2).toNat * 8, none⟩)) :: (27, .pointer (some ⟨g3_, o3_ + (a2).toNat * 8, none⟩)) :: (26, .int .i64 a2) :: (25, .slice Ap0 a0.length cp0) :: (24, .int .i64 ((a0.getD (x1).toNat z32).f0)) :: (23, .pointer (some ⟨g2_, o2_ + (x1).toNat * 8, none⟩)) :: (22, .pointer (some ⟨g2_, o2_ + (x1).toNat * 8, none⟩)) :: (21, .int .i64 x1) :: (20, .slice Ap0 a0.length cp0) :: (17, .bool (decide (x1 < a2))) :: (0, .slice Ap0 a0.length cp0) :: (1, .int .i64 a1) :: (2, .int .i64 a2) :: (7, .int .i64 x1) :: [])) (X' := []) (by kernel_rfl) rfl rfl rfl ?_
         refine RL.simK (K' := [(77, .bool false), (0, .slice Ap0 a0.length cp0), (1, .int .i64 a1), (2, .int .i64 a2), (7, .int .i64 x1)]) [] (RFacts.nil _ _ _) 2 [.no, .no] (by kernel_rfl) (by kernel_rfl) ?_
         refine RL.nil (by kernel_rfl) ?_
         obtain rfl := Option.some.inj H
         refine QN.sub (K' := [(0, .slice Ap0 a0.length cp0), (1, .int .i64 a1), (2, .int .i64 a2), (7, .int .i64 x1), (77, .bool false)]) (L' := []) (by kernel_rfl) .slnil (.refl _) ?_
         exact hJ3 _ _ _ _ _ ⟨false, rfl, rfl, rfl, hi8, HK2⟩
       ·have hc2 := (beq_eq_false_iff_ne.1 hb2)
        rw [if_neg hc2] at H
        refine OK.drawnC 6 56 O46_29 a46_29n (by kernel_rfl) (by kernel_rfl) u46d4l (u46d4g a2 x1 g2_ o2_ g3_ o3_ g4_ o4_ g5_ o5_) [(⟨g2_, o2_ + (x1).toNat * 8, none⟩, .int .i64 ((a0.getD (x1).toNat z32).f0)), (⟨g3_, o3_ + (a2).toNat * 8, none⟩, .int .i64 ((a0.getD (a2).toNat z32).f0)), (⟨g4_, o4_ + (x1).toNat * 8 + 1, none⟩, .int .i64 ((a0.getD (x1).toNat z32).f1)), (⟨g5_, o5_ + (a2).toNat * 8 + 1, none⟩, .int .i64 ((a0.getD (a2).toNat z32).f1))] (RI.cons (hc2_ 0 _ rfl) (RI.cons (hc3_ 0 _ rfl) (RI.cons (hc4_ 1 _ rfl) (RI.cons (hc5_ 1 _ rfl) (RI.nil _))))) (.no :: .no :: .no :: .no :: .r 0 :: .no :: .no :: .no :: .no :: .r 1 :: .no :: .no :: .no :: .no :: .no :: .no :: .r 2 :: .no :: .no :: .no :: .no :: .r 3 :: .no :: .no :: .no :: .no :: .no :: .no :: .no :: .no :: .no :: .no :: .no :: .no :: .no :: .no :: .no :: .no :: .no :: .no :: .no :: .no :: .no :: .no :: .no :: .no :: .no :: .no :: .no :: .no :: .no :: .no :: .no :: .no :: .no :: .no :: []) a46_29 a46_29o (by kernel_rfl) (by kernel_rfl) (u46d4s a0 Ap0 cp0 a2 x1 g2_ o2_ g3_ o3_ g4_ o4_ g5_ o5_) (u46d4f a0 Ap0 cp0 a1 a2 x1 g2_ o2_ g3_ o3_ g4_ o4_ g5_ o5_ 56) (u46d4v a0 Ap0 cp0 a1 a2 x1 g2_ o2_ g3_ o3_ g4_ o4_ g5_ o5_) (u46d4e a0 Ap0 cp0 a1 a2 x1 g2_ o2_ g3_ o3_ g4_ o4_ g5_ o5_) [] framesOk.nil ?_ [u46d4f a0 Ap0 cp0 a1 a2 x1 g2_ o2_ g3_ o3_ g4_ o4_ g5_ o5_ 2, u46d4f a0 Ap0 cp0 a1 a2 x1 g2_ o2_ g3_ o3_ g4_ o4_ g5_ o5_ 7, u46d4f a0 Ap0 cp0 a1 a2 x1 g2_ o2_ g3_ o3_ g4_ o4_ g5_ o5_ 11, u46d4f a0 Ap0 cp0 a1 a2 x1 g2_ o2_ g3_ o3_ g4_ o4_ g5_ o5_ 14, u46d4f a0 Ap0 cp0 a1 a2 x1 g2_ o2_ g3_ o3_ g4_ o4_ g5_ o5_ 19, u46d4f a0 Ap0 cp0 a1 a2 x1 g2_ o2_ g3_ o3_ g4_ o4_ g5_ o5_ 24] (framesOk.cons (fun u => rfl) (framesOk.cons (fun u => rfl) (framesOk.cons (fun u => rfl) (framesOk.cons (fun u => rfl) (framesOk.cons (fun u => rfl) (framesOk.cons (fun u => rfl) framesOk.nil)))))) ?_ ?_
        ·refine LoudsG.nil
        ·refine Givens.cons (fun u w =>  ?_) (fun _ _ _ => rfl) (Givens.cons (fun u w =>  ?_) (fun _ _ _ => rfl) (Givens.cons (fun u w =>  ?_) (fun _ _ _ => rfl) (Givens.cons (fun u w =>  ?_) (fun _ _ _ => rfl) (Givens.cons (fun u w =>  ?_) (fun _ _ _ => rfl) (Givens.cons (fun u w =>  ?_) (fun _ _ _ => rfl) (Givens.nil))))))
         ·exact giv_idx (T := 22) (e := 32) 8 .i64 x1 hA2_ a0.length cp0 (by kernel_rfl) (by kernel_rfl) (by kernel_rfl) hi0_1 hi1_1 w
         ·exact giv_idx (T := 22) (e := 32) 8 .i64 a2 hA3_ a0.length cp0 (by kernel_rfl) (by kernel_rfl) (by kernel_rfl) hi0_2 hi1_2 w
         ·exact giv_run (v := .bool (((a0.getD (x1).toNat z32).f0) == ((a0.getD (a2).toNat z32).f0))) (by kernel_rfl) (by rw [hb1]; try rfl) w
         ·exact giv_idx (T := 22) (e := 32) 8 .i64 x1 hA4_ a0.length cp0 (by kernel_rfl) (by kernel_rfl) (by kernel_rfl) hi0_3 hi1_3 w
         ·exact giv_idx (T := 22) (e := 32) 8 .i64 a2 hA5_ a0.length cp0 (by kernel_rfl) (by kernel_rfl) (by kernel_rfl) hi0_4 hi1_4 w
         ·exact giv_run (v := .bool (((a0.getD (x1).toNat z32).f1) == ((a0.getD (a2).toNat z32).f1))) (by kernel_rfl) (by rw [hb2]; try rfl) w
        intro u I9 nx9 hi9 hF
        clear hF
        refine RL.norm (K' := ((75, undef) :: (74, undef) :: (73, undef) :: (72, undef) :: (71, undef) :: (70, .bool false) :: (69, .bool false) :: (68, undef) :: (67, undef) :: (66, undef) :: (65, undef) :: (64, undef) :: (63, undef) :: (62, undef) :: (61, undef) :: (60, undef) :: (59, undef) :: (58, undef) :: (57, .bool false) :: (56, .bool false) :: (55, undef) :: (54, undef) :: (53, undef) :: (52, undef) :: (51, undef) :: (50, undef) :: (49, undef) :: (48, undef) :: (47, undef) :: (46, undef) :: (45, undef) :: (44, .bool false) :: (43, .bool (((a0.getD (x1).toNat z32).f1) == ((a0.getD (a2).toNat z32).f1))) :: (42, .bool (((a0.getD (x1).toNat z32).f1) == ((a0.getD (a2).toNat z32).f1))) :: (41, .int .i64 ((a0.getD (a2).toNat z32).f1)) :: (40, .pointer (some ⟨g5_, o5_ + (a2).toNat * 8 + 1, none⟩)) :: (39, .pointer (some ⟨g5_, o5_ + (a2).toNat * 8, none⟩)) :: (38, .int .i64 a2) :: (37, .slice Ap0 a0.length cp0) :: (36, .int .i64 ((a0.getD (x1).toNat z32).f1)) :: (35, .pointer (some ⟨g4_, o4_ + (x1).toNat * 8 + 1, none⟩)) :: (34, .pointer (some ⟨g4_, o4_ + (x1).toNat * 8, none⟩)) :: (33, .int .i64 x1) :: (32, .slice Ap0 a0.length cp0) :: (31, .bool true) :: (30, .bool (((a0.getD (x1).toNat z32).f0) == ((a0.getD (a2).toNat z32).f0))) :: (29, .int .i64 ((a0.getD (a2).toNat z32).f0)) :: (28, .pointer (some ⟨g3_, o3_ + (a2).toNat * 8, none⟩)) :: (27, .pointer (some ⟨g3_, o3_ + (a2).toNat * 8, none⟩)) :: (26, .int .i64 a2) :: (25, .slice Ap0 a0.length cp0) :: (24, .int .i64 ((a0.getD (x1).toNat z32).f0)) :: (23, .pointer (some ⟨g2_, o2_ + (x1).toNat * 8, none⟩)) :: (22, .pointer (some ⟨g2_, o2_ + (x1).toNat * 8, none⟩)) :: (21, .int .i64 x1) :: (20, .slice Ap0 a0.length cp0) :: (17, .bool (decide (x1 < a2))) :: (0, .slice Ap0 a0.length cp0) :: (1, .int .i64 a1) :: (2, .int .i64 a2) :: (7, .int .i64 x1) :: [])) (X' := []) (by kernel_rfl) rfl rfl rfl ?_
        refine RL.simK (K' := [(77, .bool false), (0, .slice Ap0 a0.length cp0), (1, .int .i64 a1), (2, .int .i64 a2), (7, .int .i64 x1)]) [] (RFacts.nil _ _ _) 2 [.no, .no] (by kernel_rfl) (by kernel_rfl) ?_
        refine RL.nil (by kernel_rfl) ?_
        obtain rfl := Option.some.inj H
        refine QN.sub (K' := [(0, .slice Ap0 a0.length cp0), (1, .int .i64 a1), (2, .int .i64 a2), (7, .int .i64 x1), (77, .bool false)]) (L' := []) (by kernel_rfl) .slnil (.refl _) ?_
        exact hJ3 _ _ _ _ _ ⟨false, rfl, rfl, rfl, hi9, HK2⟩
      ·have hc1 := (beq_eq_false_iff_ne.1 hb1)
       rw [if_neg hc1] at H
       refine OK.drawnC 6 56 O46_29 a46_29n (by kernel_rfl) (by kernel_rfl) u46d5l (u46d5g a2 x1 g2_ o2_ g3_ o3_) [(⟨g2_, o2_ + (x1).toNat * 8, none⟩, .int .i64 ((a0.getD (x1).toNat z32).f0)), (⟨g3_, o3_ + (a2).toNat * 8, none⟩, .int .i64 ((a0.getD (a2).toNat z32).f0))] (RI.cons (hc2_ 0 _ rfl) (RI.cons (hc3_ 0 _ rfl) (RI.nil _))) (.no :: .no :: .no :: .no :: .r 0 :: .no :: .no :: .no :: .no :: .r 1 :: .no :: .no :: .no :: .no :: .no :: .no :: .no :: .no :: .no :: .no :: .no :: .no :: .no :: .no :: .no :: .no :: .no :: .no :: .no :: .no :: .no :: .no :: .no :: .no :: .no :: .no :: .no :: .no :: .no :: .no :: .no :: .no :: .no :: .no :: .no :: .no :: .no :: .no :: .no :: .no :: .no :: .no :: .no :: .no :: .no :: .no :: []) a46_29 a46_29o (by kernel_rfl) (by kernel_rfl) (u46d5s a0 Ap0 cp0 a2 x1 g2_ o2_ g3_ o3_) (u46d5f a0 Ap0 cp0 a1 a2 x1 g2_ o2_ g3_ o3_ 56) (u46d5v a0 Ap0 cp0 a1 a2 x1 g2_ o2_ g3_ o3_) (u46d5e a0 Ap0 cp0 a1 a2 x1 g2_ o2_ g3_ o3_) [] framesOk.nil ?_ [u46d5f a0 Ap0 cp0 a1 a2 x1 g2_ o2_ g3_ o3_ 2, u46d5f a0 Ap0 cp0 a1 a2 x1 g2_ o2_ g3_ o3_ 7, u46d5f a0 Ap0 cp0 a1 a2 x1 g2_ o2_ g3_ o3_ 11] (framesOk.cons (fun u => rfl) (framesOk.cons (fun u => rfl) (framesOk.cons (fun u => rfl) framesOk.nil))) ?_ ?_
       ·refine LoudsG.nil
       ·refine Givens.cons (fun u w =>  ?_) (fun _ _ _ => rfl) (Givens.cons (fun u w =>  ?_) (fun _ _ _ => rfl) (Givens.cons (fun u w =>  ?_) (fun _ _ _ => rfl) (Givens.nil)))
        ·exact giv_idx (T := 22) (e := 32) 8 .i64 x1 hA2_ a0.length cp0 (by kernel_rfl) (by kernel_rfl) (by kernel_rfl) hi0_1 hi1_1 w
        ·exact giv_idx (T := 22) (e := 32) 8 .i64 a2 hA3_ a0.length cp0 (by kernel_rfl) (by kernel_rfl) (by kernel_rfl) hi0_2 hi1_2 w
        ·exact giv_run (v := .bool (((a0.getD (x1).toNat z32).f0) == ((a0.getD (a2).toNat z32).f0))) (by kernel_rfl) (by rw [hb1]; try rfl) w
       intro u I10 nx10 hi10 hF
       clear hF
       refine RL.norm (K' := ((75, undef) :: (74, undef) :: (73, undef) :: (72, undef) :: (71, undef) :: (70, .bool false) :: (69, .bool false) :: (68, undef) :: (67, undef) :: (66, undef) :: (65, undef) :: (64, undef) :: (63, undef) :: (62, undef) :: (61, undef) :: (60, undef) :: (59, undef) :: (58, undef) :: (57, .bool false) :: (56, .bool false) :: (55, undef) :: (54, undef) :: (53, undef) :: (52, undef) :: (51, undef) :: (50, undef) :: (49, undef) :: (48, undef) :: (47, undef) :: (46, undef) :: (45, undef) :: (44, .bool false) :: (43, .bool false) :: (42, undef) :: (41, undef) :: (40, undef) :: (39, undef) :: (38, undef) :: (37, undef) :: (36, undef) :: (35, undef) :: (34, undef) :: (33, undef) :: (32, undef) :: (31, .bool false) :: (30, .bool (((a0.getD (x1).toNat z32).f0) == ((a0.getD (a2).toNat z32).f0))) :: (29, .int .i64 ((a0.getD (a2).toNat z32).f0)) :: (28, .pointer (some ⟨g3_, o3_ + (a2).toNat * 8, none⟩)) :: (27, .pointer (some ⟨g3_, o3_ + (a2).toNat * 8, none⟩)) :: (26, .int .i64 a2) :: (25, .slice Ap0 a0.length cp0) :: (24, .int .i64 ((a0.getD (x1).toNat z32).f0)) :: (23, .pointer (some ⟨g2_, o2_ + (x1).toNat * 8, none⟩)) :: (22, .pointer (some ⟨g2_, o2_ + (x1).toNat * 8, none⟩)) :: (21, .int .i64 x1) :: (20, .slice Ap0 a0.length cp0) :: (17, .bool (decide (x1 < a2))) :: (0, .slice Ap0 a0.length cp0) :: (1, .int .i64 a1) :: (2, .int .i64 a2) :: (7, .int .i64 x1) :: [])) (X' := []) (by kernel_rfl) rfl rfl rfl ?_
       refine RL.simK (K' := [(77, .bool false), (0, .slice Ap0 a0.length cp0), (1, .int .i64 a1), (2, .int .i64 a2), (7, .int .i64 x1)]) [] (RFacts.nil _ _ _) 2 [.no, .no] (by kernel_rfl) (by kernel_rfl) ?_
       refine RL.nil (by kernel_rfl) ?_
       obtain rfl := Option.some.inj H
       refine QN.sub (K' := [(0, .slice Ap0 a0.length cp0), (1, .int .i64 a1), (2, .int .i64 a2), (7, .int .i64 x1), (77, .bool false)]) (L' := []) (by kernel_rfl) .slnil (.refl _) ?_
       exact hJ3 _ _ _ _ _ ⟨false, rfl, rfl, rfl, hi10, HK2⟩
    ·skip
     have hc := (of_decide_eq_false hb)
     rw [if_neg hc] at H
     clear hb
     refine OK.exit 0 (by kernel_rfl) ?_
     refine QN.thenE ?_
     refine QN.outE hQ2 ?_
     refine QN.blkE ?_
     obtain rfl := Option.some.inj H
     refine QN.sub (K' := []) (L' := []) (by kernel_rfl) .slnil (.refl _) ?_
     exact hJ1 _ _ _ _ _ ⟨rfl, rfl, rfl, hi3, HK1⟩

end Go.Proofs.Ytieakigoinebdaa
