/- Words of the walk, the functions' walks and plain laws, joined; no conditions beyond those that the theorems name. -/
import Derived.Test.YtdmhbcgmimfjcaaX42
namespace Go.Proofs.Ytdmhbcgmimfjcaa
open Go Go.Proofs.Ytdmhbcgmimfjcaa.RW
set_option linter.unusedVariables false
set_option maxRecDepth 100000
set_option maxHeartbeats 8000000

/-! ### assign_solution_augment_1s0: function 40, (*armillary/assign.solution).augment$1 -/
noncomputable def K40s0_0 : Code := cBody Try.f40
noncomputable def K40s0_1 : Code := cL K40s0_0
noncomputable def K40s0_2 : Code := cL K40s0_1
noncomputable def O40s0_2 : List Oper := cOps K40s0_2
noncomputable def K40s0_4 : Code := cR K40s0_1
noncomputable def K40s0_5 : Code := cL K40s0_4
noncomputable def K40s0_6 : Code := cL K40s0_5
noncomputable def K40s0_7 : Code := cL K40s0_6
noncomputable def O40s0_7 : List Oper := cOps K40s0_7
noncomputable def K40s0_9 : Code := cR K40s0_6
noncomputable def K40s0_10 : Code := cL K40s0_9
noncomputable def K40s0_11 : Code := cL K40s0_10
noncomputable def K40s0_12 : Code := cR K40s0_10
noncomputable def K40s0_13 : Code := cR K40s0_9
noncomputable def K40s0_14 : Code := cL K40s0_13
noncomputable def K40s0_15 : Code := cL K40s0_14
noncomputable def K40s0_16 : Code := cL K40s0_15
noncomputable def O40s0_16 : List Oper := cOps K40s0_16
noncomputable def K40s0_18 : Code := cR K40s0_15
noncomputable def O40s0_18 : List Oper := cOps K40s0_18
noncomputable def K40s0_20 : Code := cR K40s0_13
noncomputable def O40s0_20 : List Oper := cOps K40s0_20
noncomputable def K40s0_22 : Code := cR K40s0_0
noncomputable def K40s0_23 : Code := cL K40s0_22
noncomputable def O40s0_23 : List Oper := cOps K40s0_23
noncomputable def K40s0_25 : Code := cR K40s0_22
noncomputable def K40s0_26 : Code := cL K40s0_25
noncomputable def K40s0_27 : Code := cL K40s0_26
noncomputable def K40s0_28 : Code := cL K40s0_27
noncomputable def O40s0_28 : List Oper := cOps K40s0_28
noncomputable def K40s0_30 : Code := cR K40s0_27
noncomputable def K40s0_31 : Code := cL K40s0_30
noncomputable def K40s0_32 : Code := cL K40s0_31
noncomputable def K40s0_33 : Code := cR K40s0_31
noncomputable def K40s0_34 : Code := cR K40s0_30
noncomputable def K40s0_35 : Code := cL K40s0_34
noncomputable def K40s0_36 : Code := cL K40s0_35
noncomputable def K40s0_37 : Code := cL K40s0_36
noncomputable def O40s0_37 : List Oper := cOps K40s0_37
noncomputable def K40s0_39 : Code := cR K40s0_36
noncomputable def K40s0_40 : Code := cL K40s0_39
noncomputable def O40s0_40 : List Oper := cOps K40s0_40
noncomputable def K40s0_42 : Code := cR K40s0_39
noncomputable def K40s0_43 : Code := cL K40s0_42
noncomputable def O40s0_43 : List Oper := cOps K40s0_43
noncomputable def K40s0_45 : Code := cR K40s0_42
noncomputable def O40s0_45 : List Oper := cOps K40s0_45
noncomputable def K40s0_47 : Code := cR K40s0_34
noncomputable def O40s0_47 : List Oper := cOps K40s0_47
def assign_solution_augment_1s0.k1 (b2 : S58) (x1 : List Int) : List Int × List Int → Option (S58 × List Int)
 | (x2, x3) => (some ((⟨b2.f0, x1, x2⟩ : S58), x3))
def assign_solution_augment_1s0.l1 (a0 : Int) (b3 : List Bool) : Nat → (List Int) → (List Int) → Int → Option (List Int × List Int)
 | 0, _, _, _ => none
 | k + 1, x4, x5, x6 => (if x6 < 12 then (if 0 ≤ x6 then (if x6 < (12 : Int) then ((if (b3.getD ((x6).toNat) false) = true then (if 0 ≤ x6 then (if x6 < (12 : Int) then (if 0 ≤ x6 then (if x6 < (12 : Int) then (some ((x4.set ((x6).toNat) (W .i64 ((x4.getD ((x6).toNat) 0) + a0))), x5)) else none) else none) else none) else none) else (if 0 ≤ x6 then (if x6 < (12 : Int) then (if 0 ≤ x6 then (if x6 < (12 : Int) then (some (x4, (x5.set ((x6).toNat) (W .i64 ((x5.getD ((x6).toNat) 0) - a0))))) else none) else none) else none) else none)).bind (fun (x7, x8) => (assign_solution_augment_1s0.l1 a0 b3 k x7 x8 (W .i64 (x6 + 1))))) else none) else none) else (some (x4, x5)))
def assign_solution_augment_1s0.k3 (k : Nat) (a0 : Int) (b2 : S58) (b3 : List Bool) (b4 : List Int) (x1 : List Int) : Option (S58 × List Int) := ((assign_solution_augment_1s0.l1 a0 b3 k b2.f2 b4 0).bind (assign_solution_augment_1s0.k1 b2 x1))
def assign_solution_augment_1s0.l2 (a0 : Int) (b0_0 : List Int) : Nat → (List Int) → Int → Option (List Int)
 | 0, _, _ => none
 | k + 1, x9, x10 => (if x10 < (b0_0.length : Int) then (if 0 ≤ x10 then (if x10 < (b0_0.length : Int) then (if 0 ≤ (b0_0.getD (x10).toNat 0) then (if (b0_0.getD (x10).toNat 0) < (12 : Int) then (if 0 ≤ (b0_0.getD (x10).toNat 0) then (if (b0_0.getD (x10).toNat 0) < (12 : Int) then (assign_solution_augment_1s0.l2 a0 b0_0 k (x9.set (((b0_0.getD (x10).toNat 0)).toNat) (W .i64 ((x9.getD (((b0_0.getD (x10).toNat 0)).toNat) 0) - a0))) (W .i64 (x10 + 1))) else none) else none) else none) else none) else none) else none) else (some x9))
def assign_solution_augment_1s0.f (k : Nat) (a0 : Int) (b0_0 : List Int) (b2 : S58) (b3 : List Bool) (b4 : List Int) : Option (S58 × List Int) := ((assign_solution_augment_1s0.l2 a0 b0_0 k b2.f1 0).bind (assign_solution_augment_1s0.k3 k a0 b2 b3 b4))
def assign_solution_augment_1s0.Post (S : Nat → Prop) (gb0 : Nat) (gb1 : Nat) (gb2 : Nat) (gb3 : Nat) (gb4 : Nat) (a0 : Int) (b0_0 : List Int) (Ab0_0 : Option Addr) (cb0_0 : Nat) (csb0_0 : List Value) (b2 : S58) (b3 : List Bool) (b4 : List Int) (I : Imm) (w : World) (r : S58 × List Int) (v : Value) (w' : World) : Prop :=
 ∃ (J : Imm), v = .tuple #[] ∧ Sat ⟨w, S, I⟩ J w'.heap.size [⟨gb0, [.slice Ab0_0 b0_0.length cb0_0], 23⟩, ⟨gb1, [.pointer (some ⟨gb2, 0, none⟩)], 64⟩, ⟨gb2, ((arrV (Value.int .i64) 0 12 r.1.f0) ++ ((arrV (Value.int .i64) 0 12 r.1.f1) ++ (arrV (Value.int .i64) 0 12 r.1.f2))), 58⟩, ⟨gb3, arrV Value.bool false 12 b3, 70⟩, ⟨gb4, arrV (Value.int .i64) 0 12 r.2, 52⟩] [orow 3 1 Ab0_0 b0_0.length cb0_0 csb0_0] w' ∧ 12 ≤ r.1.f0.length ∧ 12 ≤ r.1.f1.length ∧ 12 ≤ r.1.f2.length ∧ 12 ≤ r.2.length
noncomputable def a40s0_43n : List Nat := [0, 0, 1, 5, 15, 31, 0, 127, 1, 257, 1023, 2047]
theorem a40s0_43 : ancs O40s0_43 [] = a40s0_43n := by kernel_rfl
theorem a40s0_43o : drawOk O40s0_43 a40s0_43n 10 = true := by kernel_rfl
noncomputable def u40d1l  : List Ld :=
 []
noncomputable def u40d1g (gb2 : Nat) (x6 : Int) : List (Nat × ((Nat → Wt) → Value)) := [(4, fun u => .pointer (some ⟨gb2, 24 + (x6).toNat * 1, none⟩))]
noncomputable def u40d1q (gb0 : Nat) (gb1 : Nat) (gb2 : Nat) (gb3 : Nat) (gb4 : Nat) (a0 : Int) (b0_0 : List Int) (Ab0_0 : Option Addr) (cb0_0 : Nat) (b2 : S58) (b3 : List Bool) (x1 : List Int) (x4 : List Int) (x5 : List Int) (x6 : Int) (u : Nat → Wt) : Option (List Value × List (Nat × Value) × List (Nat × Nat)) := qSim Try.prog [(⟨gb2, 24 + (x6).toNat * 1, none⟩, .int .i64 (x4.getD ((x6).toNat) 0))] [⟨gb0, [.slice Ab0_0 b0_0.length cb0_0], 23⟩, ⟨gb1, [.pointer (some ⟨gb2, 0, none⟩)], 64⟩, ⟨gb2, ((arrV (Value.int .i64) 0 12 b2.f0) ++ ((arrV (Value.int .i64) 0 12 x1) ++ (arrV (Value.int .i64) 0 12 x4))), 58⟩, ⟨gb3, arrV Value.bool false 12 b3, 70⟩, ⟨gb4, arrV (Value.int .i64) 0 12 x5, 52⟩] O40s0_43 ⟨51, []⟩ (Ld.vl u40d1l) (u40d1g gb2 x6) u [.l 1, .no, .no, .no, .no, .r 0, .no, .no, .no, .no] 0 (O40s0_43.take 10) [(32, .bool (b3.getD ((x6).toNat) false)), (8, .int .i64 x6), (0, .int .i64 a0), (2, .pointer (some ⟨gb1, 0, none⟩)), (3, .pointer (some ⟨gb3, 0, none⟩)), (4, .pointer (some ⟨gb4, 0, none⟩)), (27, .int .i64 x6)]
noncomputable def u40d1s (gb2 : Nat) (a0 : Int) (x4 : List Int) (x6 : Int) (u : Nat → Wt) : List Value := [.pointer (some ⟨gb2, 0, none⟩), .int .i64 x6, .pointer (some ⟨gb2, 0, none⟩), .pointer (some ⟨gb2, 24, none⟩), .pointer (some ⟨gb2, 24 + (x6).toNat * 1, none⟩), .int .i64 (x4.getD ((x6).toNat) 0), .int .i64 a0, .int .i64 (W .i64 ((x4.getD ((x6).toNat) 0) + a0)), .pointer (some ⟨gb2, 0, none⟩), .pointer (some ⟨gb2, 24, none⟩)]
noncomputable def u40d1f (gb1 : Nat) (gb2 : Nat) (gb3 : Nat) (gb4 : Nat) (a0 : Int) (b3 : List Bool) (x4 : List Int) (x6 : Int) (i : Nat) (u : Nat → Wt) : List (Nat × Value) := foldPut ⟨51, []⟩ [(32, .bool (b3.getD ((x6).toNat) false)), (8, .int .i64 x6), (0, .int .i64 a0), (2, .pointer (some ⟨gb1, 0, none⟩)), (3, .pointer (some ⟨gb3, 0, none⟩)), (4, .pointer (some ⟨gb4, 0, none⟩)), (27, .int .i64 x6)] (O40s0_43.take i) (((u40d1s gb2 a0 x4 x6) u).take i)
theorem u40d1v (gb0 : Nat) (gb1 : Nat) (gb2 : Nat) (gb3 : Nat) (gb4 : Nat) (a0 : Int) (b0_0 : List Int) (Ab0_0 : Option Addr) (cb0_0 : Nat) (b2 : S58) (b3 : List Bool) (x1 : List Int) (x4 : List Int) (x5 : List Int) (x6 : Int) (u : Nat → Wt) : (u40d1q gb0 gb1 gb2 gb3 gb4 a0 b0_0 Ab0_0 cb0_0 b2 b3 x1 x4 x5 x6 u).map (fun x => (x.1, x.2.1)) = some ((u40d1s gb2 a0 x4 x6) u, (u40d1f gb1 gb2 gb3 gb4 a0 b3 x4 x6 10) u) := by kernel_rfl
theorem u40d1e (gb0 : Nat) (gb1 : Nat) (gb2 : Nat) (gb3 : Nat) (gb4 : Nat) (a0 : Int) (b0_0 : List Int) (Ab0_0 : Option Addr) (cb0_0 : Nat) (b2 : S58) (b3 : List Bool) (x1 : List Int) (x4 : List Int) (x5 : List Int) (x6 : Int) (u : Nat → Wt) : (u40d1q gb0 gb1 gb2 gb3 gb4 a0 b0_0 Ab0_0 cb0_0 b2 b3 x1 x4 x5 x6 u).map (fun x => x.2.2.map (·.1)) = (u40d1q gb0 gb1 gb2 gb3 gb4 a0 b0_0 Ab0_0 cb0_0 b2 b3 x1 x4 x5 x6 u).map (fun x => x.2.2.map (·.2)) := by kernel_rfl
noncomputable def a40s0_18n : List Nat := [0, 0, 1, 5, 15, 31, 0, 127, 1, 257, 1023, 2047]
theorem a40s0_18 : ancs O40s0_18 [] = a40s0_18n := by kernel_rfl
theorem a40s0_18o : drawOk O40s0_18 a40s0_18n 10 = true := by kernel_rfl
noncomputable def u40d2l  : List Ld :=
 []
noncomputable def u40d2g (gb2 : Nat) (b0_0 : List Int) (x10 : Int) : List (Nat × ((Nat → Wt) → Value)) := [(4, fun u => .pointer (some ⟨gb2, 12 + ((b0_0.getD (x10).toNat 0)).toNat * 1, none⟩))]
noncomputable def u40d2q (gb0 : Nat) (gb1 : Nat) (gb2 : Nat) (gb3 : Nat) (gb4 : Nat) (a0 : Int) (b0_0 : List Int) (Ab0_0 : Option Addr) (cb0_0 : Nat) (b2 : S58) (b3 : List Bool) (b4 : List Int) (x9 : List Int) (x10 : Int) (u : Nat → Wt) : Option (List Value × List (Nat × Value) × List (Nat × Nat)) := qSim Try.prog [(⟨gb2, 12 + ((b0_0.getD (x10).toNat 0)).toNat * 1, none⟩, .int .i64 (x9.getD (((b0_0.getD (x10).toNat 0)).toNat) 0))] [⟨gb0, [.slice Ab0_0 b0_0.length cb0_0], 23⟩, ⟨gb1, [.pointer (some ⟨gb2, 0, none⟩)], 64⟩, ⟨gb2, ((arrV (Value.int .i64) 0 12 b2.f0) ++ ((arrV (Value.int .i64) 0 12 x9) ++ (arrV (Value.int .i64) 0 12 b2.f2))), 58⟩, ⟨gb3, arrV Value.bool false 12 b3, 70⟩, ⟨gb4, arrV (Value.int .i64) 0 12 b4, 52⟩] O40s0_18 ⟨51, []⟩ (Ld.vl u40d2l) (u40d2g gb2 b0_0 x10) u [.l 1, .no, .no, .no, .no, .r 0, .no, .no, .no, .no] 0 (O40s0_18.take 10) [(7, .int .i64 (b0_0.getD (x10).toNat 0)), (0, .int .i64 a0), (2, .pointer (some ⟨gb1, 0, none⟩)), (3, .pointer (some ⟨gb3, 0, none⟩)), (4, .pointer (some ⟨gb4, 0, none⟩)), (9, .slice Ab0_0 b0_0.length cb0_0), (10, .int .i64 (b0_0.length : Int)), (11, .int .i64 x10)]
noncomputable def u40d2s (gb2 : Nat) (a0 : Int) (b0_0 : List Int) (x9 : List Int) (x10 : Int) (u : Nat → Wt) : List Value := [.pointer (some ⟨gb2, 0, none⟩), .int .i64 (b0_0.getD (x10).toNat 0), .pointer (some ⟨gb2, 0, none⟩), .pointer (some ⟨gb2, 12, none⟩), .pointer (some ⟨gb2, 12 + ((b0_0.getD (x10).toNat 0)).toNat * 1, none⟩), .int .i64 (x9.getD (((b0_0.getD (x10).toNat 0)).toNat) 0), .int .i64 a0, .int .i64 (W .i64 ((x9.getD (((b0_0.getD (x10).toNat 0)).toNat) 0) - a0)), .pointer (some ⟨gb2, 0, none⟩), .pointer (some ⟨gb2, 12, none⟩)]
noncomputable def u40d2f (gb1 : Nat) (gb2 : Nat) (gb3 : Nat) (gb4 : Nat) (a0 : Int) (b0_0 : List Int) (Ab0_0 : Option Addr) (cb0_0 : Nat) (x9 : List Int) (x10 : Int) (i : Nat) (u : Nat → Wt) : List (Nat × Value) := foldPut ⟨51, []⟩ [(7, .int .i64 (b0_0.getD (x10).toNat 0)), (0, .int .i64 a0), (2, .pointer (some ⟨gb1, 0, none⟩)), (3, .pointer (some ⟨gb3, 0, none⟩)), (4, .pointer (some ⟨gb4, 0, none⟩)), (9, .slice Ab0_0 b0_0.length cb0_0), (10, .int .i64 (b0_0.length : Int)), (11, .int .i64 x10)] (O40s0_18.take i) (((u40d2s gb2 a0 b0_0 x9 x10) u).take i)
theorem u40d2v (gb0 : Nat) (gb1 : Nat) (gb2 : Nat) (gb3 : Nat) (gb4 : Nat) (a0 : Int) (b0_0 : List Int) (Ab0_0 : Option Addr) (cb0_0 : Nat) (b2 : S58) (b3 : List Bool) (b4 : List Int) (x9 : List Int) (x10 : Int) (u : Nat → Wt) : (u40d2q gb0 gb1 gb2 gb3 gb4 a0 b0_0 Ab0_0 cb0_0 b2 b3 b4 x9 x10 u).map (fun x => (x.1, x.2.1)) = some ((u40d2s gb2 a0 b0_0 x9 x10) u, (u40d2f gb1 gb2 gb3 gb4 a0 b0_0 Ab0_0 cb0_0 x9 x10 10) u) := by kernel_rfl
theorem u40d2e (gb0 : Nat) (gb1 : Nat) (gb2 : Nat) (gb3 : Nat) (gb4 : Nat) (a0 : Int) (b0_0 : List Int) (Ab0_0 : Option Addr) (cb0_0 : Nat) (b2 : S58) (b3 : List Bool) (b4 : List Int) (x9 : List Int) (x10 : Int) (u : Nat → Wt) : (u40d2q gb0 gb1 gb2 gb3 gb4 a0 b0_0 Ab0_0 cb0_0 b2 b3 b4 x9 x10 u).map (fun x => x.2.2.map (·.1)) = (u40d2q gb0 gb1 gb2 gb3 gb4 a0 b0_0 Ab0_0 cb0_0 b2 b3 b4 x9 x10 u).map (fun x => x.2.2.map (·.2)) := by kernel_rfl
theorem assign_solution_augment_1s0.calls (k : Nat) (I0 : Imm) (gb0 : Nat) (gb1 : Nat) (gb2 : Nat) (gb3 : Nat) (gb4 : Nat) (a0 : Int) (b0_0 : List Int) (Ab0_0 : Option Addr) (cb0_0 : Nat) (csb0_0 : List Value) (b2 : S58) (b3 : List Bool) (b4 : List Int) (w : World) (hs : Sat ⟨w, SM [⟨gb0, [.slice Ab0_0 b0_0.length cb0_0], 23⟩, ⟨gb1, [.pointer (some ⟨gb2, 0, none⟩)], 64⟩, ⟨gb2, ((arrV (Value.int .i64) 0 12 b2.f0) ++ ((arrV (Value.int .i64) 0 12 b2.f1) ++ (arrV (Value.int .i64) 0 12 b2.f2))), 58⟩, ⟨gb3, arrV Value.bool false 12 b3, 70⟩, ⟨gb4, arrV (Value.int .i64) 0 12 b4, 52⟩] [orow 3 1 Ab0_0 b0_0.length cb0_0 csb0_0], I0⟩ I0 w.heap.size [⟨gb0, [.slice Ab0_0 b0_0.length cb0_0], 23⟩, ⟨gb1, [.pointer (some ⟨gb2, 0, none⟩)], 64⟩, ⟨gb2, ((arrV (Value.int .i64) 0 12 b2.f0) ++ ((arrV (Value.int .i64) 0 12 b2.f1) ++ (arrV (Value.int .i64) 0 12 b2.f2))), 58⟩, ⟨gb3, arrV Value.bool false 12 b3, 70⟩, ⟨gb4, arrV (Value.int .i64) 0 12 b4, 52⟩] [orow 3 1 Ab0_0 b0_0.length cb0_0 csb0_0] w) (hpb0_0 : Reps (Ty.int .i64) I0 b0_0 csb0_0) (hzb2_0 : 12 ≤ b2.f0.length) (hzb2_1 : 12 ≤ b2.f1.length) (hzb2_2 : 12 ≤ b2.f2.length) (hzb3 : 12 ≤ b3.length) (hzb4 : 12 ≤ b4.length) (r : S58 × List Int) (h : assign_solution_augment_1s0.f k a0 b0_0 b2 b3 b4 = some r) :
  Calls Try.prog 40 [.int .i64 a0, .pointer (some ⟨gb0, 0, none⟩), .pointer (some ⟨gb1, 0, none⟩), .pointer (some ⟨gb3, 0, none⟩), .pointer (some ⟨gb4, 0, none⟩)].toArray w fun e w' => ∃ v, e = .returned v ∧ assign_solution_augment_1s0.Post (SM [⟨gb0, [.slice Ab0_0 b0_0.length cb0_0], 23⟩, ⟨gb1, [.pointer (some ⟨gb2, 0, none⟩)], 64⟩, ⟨gb2, ((arrV (Value.int .i64) 0 12 b2.f0) ++ ((arrV (Value.int .i64) 0 12 b2.f1) ++ (arrV (Value.int .i64) 0 12 b2.f2))), 58⟩, ⟨gb3, arrV Value.bool false 12 b3, 70⟩, ⟨gb4, arrV (Value.int .i64) 0 12 b4, 52⟩] [orow 3 1 Ab0_0 b0_0.length cb0_0 csb0_0]) gb0 gb1 gb2 gb3 gb4 a0 b0_0 Ab0_0 cb0_0 csb0_0 b2 b3 b4 I0 w r v w' := by
 have H : ((assign_solution_augment_1s0.l2 a0 b0_0 k b2.f1 0).bind (assign_solution_augment_1s0.k3 k a0 b2 b3 b4)) = some r := h
 clear h
 refine calls_bodyL Try.func40 (by kernel_rfl) 51 (by kernel_rfl) (by kernel_rfl) ⟨w, SM [⟨gb0, [.slice Ab0_0 b0_0.length cb0_0], 23⟩, ⟨gb1, [.pointer (some ⟨gb2, 0, none⟩)], 64⟩, ⟨gb2, ((arrV (Value.int .i64) 0 12 b2.f0) ++ ((arrV (Value.int .i64) 0 12 b2.f1) ++ (arrV (Value.int .i64) 0 12 b2.f2))), 58⟩, ⟨gb3, arrV Value.bool false 12 b3, 70⟩, ⟨gb4, arrV (Value.int .i64) 0 12 b4, 52⟩] [orow 3 1 Ab0_0 b0_0.length cb0_0 csb0_0], I0⟩ I0 [⟨gb0, [.slice Ab0_0 b0_0.length cb0_0], 23⟩, ⟨gb1, [.pointer (some ⟨gb2, 0, none⟩)], 64⟩, ⟨gb2, ((arrV (Value.int .i64) 0 12 b2.f0) ++ ((arrV (Value.int .i64) 0 12 b2.f1) ++ (arrV (Value.int .i64) 0 12 b2.f2))), 58⟩, ⟨gb3, arrV Value.bool false 12 b3, 70⟩, ⟨gb4, arrV (Value.int .i64) 0 12 b4, 52⟩] [orow 3 1 Ab0_0 b0_0.length cb0_0 csb0_0] [(0, .int .i64 a0), (1, .pointer (some ⟨gb0, 0, none⟩)), (2, .pointer (some ⟨gb1, 0, none⟩)), (3, .pointer (some ⟨gb3, 0, none⟩)), (4, .pointer (some ⟨gb4, 0, none⟩))] (by kernel_rfl) hs ?_
 generalize w.heap.size = nx0
 show OK _ K40s0_0 _ _ _ _ _ _ _ _
 refine OK.seq K40s0_1 K40s0_22 (by kernel_rfl) ?_
 refine OK.seq K40s0_2 K40s0_4 (by kernel_rfl) ?_
 refine OK.region 0 O40s0_2 (by kernel_rfl) ?_
 refine RL.simK (K' := [(11, .int .i64 0), (10, .int .i64 (b0_0.length : Int)), (9, .slice Ab0_0 b0_0.length cb0_0), (0, .int .i64 a0), (2, .pointer (some ⟨gb1, 0, none⟩)), (3, .pointer (some ⟨gb3, 0, none⟩)), (4, .pointer (some ⟨gb4, 0, none⟩))]) [] (RFacts.nil _ _ _) 3 [.l 0, .no, .no] (by kernel_rfl) (by kernel_rfl) ?_
 refine RL.nil (by kernel_rfl) ?_
 refine QN.then_ ?_
 refine OK.join (fun K' I' _ L' X' => ∃ (x1 : List Int), K' = [(0, .int .i64 a0), (2, .pointer (some ⟨gb1, 0, none⟩)), (3, .pointer (some ⟨gb3, 0, none⟩)), (4, .pointer (some ⟨gb4, 0, none⟩))] ∧ L' = [⟨gb0, [.slice Ab0_0 b0_0.length cb0_0], 23⟩, ⟨gb1, [.pointer (some ⟨gb2, 0, none⟩)], 64⟩, ⟨gb2, ((arrV (Value.int .i64) 0 12 b2.f0) ++ ((arrV (Value.int .i64) 0 12 x1) ++ (arrV (Value.int .i64) 0 12 b2.f2))), 58⟩, ⟨gb3, arrV Value.bool false 12 b3, 70⟩, ⟨gb4, arrV (Value.int .i64) 0 12 b4, 52⟩] ∧ X' = [orow 3 1 Ab0_0 b0_0.length cb0_0 csb0_0] ∧ Imm.le I0 I' ∧ 12 ≤ x1.length ∧ assign_solution_augment_1s0.k3 k a0 b2 b3 b4 x1 = some r) ?_ ?_
 ·rintro _ I1 nx1 _ _ ⟨x1, rfl, rfl, rfl, hi1, hz1, H⟩
  replace H : ((assign_solution_augment_1s0.l1 a0 b3 k b2.f2 b4 0).bind (assign_solution_augment_1s0.k1 b2 x1)) = some r := H
  refine QN.then_ ?_
  refine OK.seq K40s0_23 K40s0_25 (by kernel_rfl) ?_
  refine OK.region 5 O40s0_23 (by kernel_rfl) ?_
  refine RL.simK (K' := [(27, .int .i64 0), (0, .int .i64 a0), (2, .pointer (some ⟨gb1, 0, none⟩)), (3, .pointer (some ⟨gb3, 0, none⟩)), (4, .pointer (some ⟨gb4, 0, none⟩))]) [] (RFacts.nil _ _ _) 1 [.no] (by kernel_rfl) (by kernel_rfl) ?_
  refine RL.nil (by kernel_rfl) ?_
  refine QN.then_ ?_
  refine OK.join (fun K' I' _ L' X' => ∃ (x2 : List Int) (x3 : List Int), K' = [] ∧ L' = [⟨gb0, [.slice Ab0_0 b0_0.length cb0_0], 23⟩, ⟨gb1, [.pointer (some ⟨gb2, 0, none⟩)], 64⟩, ⟨gb2, ((arrV (Value.int .i64) 0 12 b2.f0) ++ ((arrV (Value.int .i64) 0 12 x1) ++ (arrV (Value.int .i64) 0 12 x2))), 58⟩, ⟨gb3, arrV Value.bool false 12 b3, 70⟩, ⟨gb4, arrV (Value.int .i64) 0 12 x3, 52⟩] ∧ X' = [orow 3 1 Ab0_0 b0_0.length cb0_0 csb0_0] ∧ Imm.le I1 I' ∧ 12 ≤ x2.length ∧ 12 ≤ x3.length ∧ assign_solution_augment_1s0.k1 b2 x1 (x2, x3) = some r) ?_ ?_
  ·rintro _ I2 nx2 _ _ ⟨x2, x3, rfl, rfl, rfl, hi2, hz2, hz3, H⟩
   replace H : (some ((⟨b2.f0, x1, x2⟩ : S58), x3)) = some r := H
   obtain rfl := Option.some.inj H
   refine QN.body rfl [] (RFacts.nil _ _ _) (.no) (.tuple #[]) (by kernel_rfl) (by kernel_rfl) (by kernel_rfl) ?_ _ (.inl rfl)
   exact fun w' hs' => ⟨_, rfl, I2, rfl, ((hs'.fin.selB [0, 1, 2, 3, 4] (by kernel_rfl)).sel [0] (by kernel_rfl)), hzb2_0, hz1, hz2, hz3⟩
  ·intro Q_1 hJ2 hQ2
   obtain ⟨y2, H, HK2⟩ := Option.bind_eq_some_iff.mp H
   refine OK.block 2 K40s0_26 (by kernel_rfl) ?_
   refine OK.sub (K' := [(0, .int .i64 a0), (2, .pointer (some ⟨gb1, 0, none⟩)), (3, .pointer (some ⟨gb3, 0, none⟩)), (4, .pointer (some ⟨gb4, 0, none⟩)), (27, .int .i64 0)]) (L' := [⟨gb0, [.slice Ab0_0 b0_0.length cb0_0], 23⟩, ⟨gb1, [.pointer (some ⟨gb2, 0, none⟩)], 64⟩, ⟨gb2, ((arrV (Value.int .i64) 0 12 b2.f0) ++ ((arrV (Value.int .i64) 0 12 x1) ++ (arrV (Value.int .i64) 0 12 b2.f2))), 58⟩, ⟨gb3, arrV Value.bool false 12 b3, 70⟩, ⟨gb4, arrV (Value.int .i64) 0 12 b4, 52⟩]) (by kernel_rfl) (.cons_cons _ (.cons_cons _ (.cons_cons _ (.cons_cons _ (.cons_cons _ .slnil))))) (.refl _) ?_
   refine OK.loopInv K40s0_27 (by kernel_rfl) (fun n_ K' I' _ L' X' => ∃ (x4 : List Int) (x5 : List Int) (x6 : Int), K' = [(0, .int .i64 a0), (2, .pointer (some ⟨gb1, 0, none⟩)), (3, .pointer (some ⟨gb3, 0, none⟩)), (4, .pointer (some ⟨gb4, 0, none⟩)), (27, .int .i64 x6)] ∧ L' = [⟨gb0, [.slice Ab0_0 b0_0.length cb0_0], 23⟩, ⟨gb1, [.pointer (some ⟨gb2, 0, none⟩)], 64⟩, ⟨gb2, ((arrV (Value.int .i64) 0 12 b2.f0) ++ ((arrV (Value.int .i64) 0 12 x1) ++ (arrV (Value.int .i64) 0 12 x4))), 58⟩, ⟨gb3, arrV Value.bool false 12 b3, 70⟩, ⟨gb4, arrV (Value.int .i64) 0 12 x5, 52⟩] ∧ X' = [orow 3 1 Ab0_0 b0_0.length cb0_0 csb0_0] ∧ Imm.le I1 I' ∧ 12 ≤ x4.length ∧ 12 ≤ x5.length ∧ assign_solution_augment_1s0.l1 a0 b3 n_ x4 x5 x6 = some y2) k ⟨b2.f2, b4, 0, rfl, rfl, rfl, (Imm.le_refl _), hzb2_2, hzb4, H⟩ ?_ ?_
   ·rintro _ _ _ _ _ ⟨x4, x5, x6, rfl, rfl, rfl, _, hz4, hz5, H⟩
    cases H
   ·rintro kq1 _ I3 nx3 _ _ ⟨x4, x5, x6, rfl, rfl, rfl, hi3, hz4, hz5, H⟩ Q_l1 hJ3 hQ3
    replace H : (if x6 < 12 then (if 0 ≤ x6 then (if x6 < (12 : Int) then ((if (b3.getD ((x6).toNat) false) = true then (if 0 ≤ x6 then (if x6 < (12 : Int) then (if 0 ≤ x6 then (if x6 < (12 : Int) then (some ((x4.set ((x6).toNat) (W .i64 ((x4.getD ((x6).toNat) 0) + a0))), x5)) else none) else none) else none) else none) else (if 0 ≤ x6 then (if x6 < (12 : Int) then (if 0 ≤ x6 then (if x6 < (12 : Int) then (some (x4, (x5.set ((x6).toNat) (W .i64 ((x5.getD ((x6).toNat) 0) - a0))))) else none) else none) else none) else none)).bind (fun (x7, x8) => (assign_solution_augment_1s0.l1 a0 b3 kq1 x7 x8 (W .i64 (x6 + 1))))) else none) else none) else (some (x4, x5))) = some y2 := H
    refine OK.seq K40s0_28 K40s0_30 (by kernel_rfl) ?_
    refine OK.region 6 O40s0_28 (by kernel_rfl) ?_
    refine RL.simK (K' := [(28, .bool (decide (x6 < 12))), (0, .int .i64 a0), (2, .pointer (some ⟨gb1, 0, none⟩)), (3, .pointer (some ⟨gb3, 0, none⟩)), (4, .pointer (some ⟨gb4, 0, none⟩)), (27, .int .i64 x6)]) [] (RFacts.nil _ _ _) 1 [.no] (by kernel_rfl) (by kernel_rfl) ?_
    refine RL.nil (by kernel_rfl) ?_
    refine QN.then_ ?_
    refine OK.seq K40s0_31 K40s0_34 (by kernel_rfl) ?_
    refine OK.cond (.tmp 28) K40s0_32 K40s0_33 (decide (x6 < 12)) (by kernel_rfl) (by kernel_rfl) (by kernel_rfl) (fun hb => ?_) (fun hb => ?_)
    ·skip
     have hc := (of_decide_eq_true hb)
     rw [if_pos hc] at H
     clear hb
     refine OK.skip (by kernel_rfl) ?_
     refine QN.then_ ?_
     refine OK.seq K40s0_35 K40s0_47 (by kernel_rfl) ?_
     refine OK.block 3 K40s0_36 (by kernel_rfl) ?_
     refine OK.seq K40s0_37 K40s0_39 (by kernel_rfl) ?_
     refine OK.region 7 O40s0_37 (by kernel_rfl) ?_
     refine RL.simK (K' := [(8, .int .i64 x6), (0, .int .i64 a0), (2, .pointer (some ⟨gb1, 0, none⟩)), (3, .pointer (some ⟨gb3, 0, none⟩)), (4, .pointer (some ⟨gb4, 0, none⟩)), (27, .int .i64 x6)]) [] (RFacts.nil _ _ _) 2 [.no, .no] (by kernel_rfl) (by kernel_rfl) ?_
     refine RL.nil (by kernel_rfl) ?_
     refine QN.then_ ?_
     refine OK.seq K40s0_40 K40s0_42 (by kernel_rfl) ?_
     refine OK.region 8 O40s0_40 (by kernel_rfl) ?_
     refine RL.simK (K' := [(30, .int .i64 x6), (8, .int .i64 x6), (0, .int .i64 a0), (2, .pointer (some ⟨gb1, 0, none⟩)), (3, .pointer (some ⟨gb3, 0, none⟩)), (4, .pointer (some ⟨gb4, 0, none⟩)), (27, .int .i64 x6)]) [] (RFacts.nil _ _ _) 1 [.no] (by kernel_rfl) (by kernel_rfl) ?_
     by_cases hib0 : 0 ≤ x6
     case neg => rw [if_neg hib0] at H; cases H
     rw [if_pos hib0] at H
     by_cases hib1 : x6 < (12 : Int)
     case neg => rw [if_neg hib1] at H; cases H
     rw [if_pos hib1] at H
     have ha01 := hib0; have ha11 := hib1
     refine RL.idxArr (T := 70) (e := 4) 1 .i64 x6 gb3 (0) 12 (some 31) (by kernel_rfl) (by kernel_rfl) (by kernel_rfl) (by kernel_rfl) hib0 hib1 (K' := [(31, .pointer (some ⟨gb3, 0 + (x6).toNat * 1, none⟩)), (30, .int .i64 x6), (8, .int .i64 x6), (0, .int .i64 a0), (2, .pointer (some ⟨gb1, 0, none⟩)), (3, .pointer (some ⟨gb3, 0, none⟩)), (4, .pointer (some ⟨gb4, 0, none⟩)), (27, .int .i64 x6)]) (by kernel_rfl) ?_
     refine RL.ldA (g := gb3) (ty := 70) (cs := arrV Value.bool false 12 b3) Value.bool false 12 b3 [] [] 0 ((x6).toNat) 3 (by kernel_rfl) (by kernel_rfl) (by kernel_rfl) (by omega) (0 + (x6).toNat * 1) (by omega) (some 32) (by kernel_rfl) (by kernel_rfl) (by kernel_rfl) (K' := [(32, .bool (b3.getD ((x6).toNat) false)), (31, .pointer (some ⟨gb3, 0 + (x6).toNat * 1, none⟩)), (30, .int .i64 x6), (8, .int .i64 x6), (0, .int .i64 a0), (2, .pointer (some ⟨gb1, 0, none⟩)), (3, .pointer (some ⟨gb3, 0, none⟩)), (4, .pointer (some ⟨gb4, 0, none⟩)), (27, .int .i64 x6)]) (by kernel_rfl) ?_
     refine RL.nil (by kernel_rfl) ?_
     refine QN.sub (K' := [(32, .bool (b3.getD ((x6).toNat) false)), (8, .int .i64 x6), (0, .int .i64 a0), (2, .pointer (some ⟨gb1, 0, none⟩)), (3, .pointer (some ⟨gb3, 0, none⟩)), (4, .pointer (some ⟨gb4, 0, none⟩)), (27, .int .i64 x6)]) (L' := [⟨gb0, [.slice Ab0_0 b0_0.length cb0_0], 23⟩, ⟨gb1, [.pointer (some ⟨gb2, 0, none⟩)], 64⟩, ⟨gb2, ((arrV (Value.int .i64) 0 12 b2.f0) ++ ((arrV (Value.int .i64) 0 12 x1) ++ (arrV (Value.int .i64) 0 12 x4))), 58⟩, ⟨gb3, arrV Value.bool false 12 b3, 70⟩, ⟨gb4, arrV (Value.int .i64) 0 12 x5, 52⟩]) (by kernel_rfl) (.cons_cons _ (.cons_cons _ (.cons_cons _ (.cons_cons _ (.cons_cons _ .slnil))))) (.refl _) ?_
     refine QN.then_ ?_
     refine OK.join (fun K' I' _ L' X' => ∃ (x7 : List Int) (x8 : List Int), K' = [(0, .int .i64 a0), (2, .pointer (some ⟨gb1, 0, none⟩)), (3, .pointer (some ⟨gb3, 0, none⟩)), (4, .pointer (some ⟨gb4, 0, none⟩)), (27, .int .i64 x6)] ∧ L' = [⟨gb0, [.slice Ab0_0 b0_0.length cb0_0], 23⟩, ⟨gb1, [.pointer (some ⟨gb2, 0, none⟩)], 64⟩, ⟨gb2, ((arrV (Value.int .i64) 0 12 b2.f0) ++ ((arrV (Value.int .i64) 0 12 x1) ++ (arrV (Value.int .i64) 0 12 x7))), 58⟩, ⟨gb3, arrV Value.bool false 12 b3, 70⟩, ⟨gb4, arrV (Value.int .i64) 0 12 x8, 52⟩] ∧ X' = [orow 3 1 Ab0_0 b0_0.length cb0_0 csb0_0] ∧ Imm.le I3 I' ∧ 12 ≤ x7.length ∧ 12 ≤ x8.length ∧ (assign_solution_augment_1s0.l1 a0 b3 kq1 x7 x8 (W .i64 (x6 + 1))) = some y2) ?_ ?_
     ·rintro _ I4 nx4 _ _ ⟨x7, x8, rfl, rfl, rfl, hi4, hz6, hz7, H⟩
      replace H : (assign_solution_augment_1s0.l1 a0 b3 kq1 x7 x8 (W .i64 (x6 + 1))) = some y2 := H
      refine QN.blkN ?_
      refine QN.then_ ?_
      refine OK.region 11 O40s0_47 (by kernel_rfl) ?_
      refine RL.simK (K' := [(27, .int .i64 (W .i64 (x6 + 1))), (0, .int .i64 a0), (2, .pointer (some ⟨gb1, 0, none⟩)), (3, .pointer (some ⟨gb3, 0, none⟩)), (4, .pointer (some ⟨gb4, 0, none⟩))]) [] (RFacts.nil _ _ _) 2 [.no, .no] (by kernel_rfl) (by kernel_rfl) ?_
      refine RL.nil (by kernel_rfl) ?_
      refine QN.sub (K' := [(0, .int .i64 a0), (2, .pointer (some ⟨gb1, 0, none⟩)), (3, .pointer (some ⟨gb3, 0, none⟩)), (4, .pointer (some ⟨gb4, 0, none⟩)), (27, .int .i64 (W .i64 (x6 + 1)))]) (L' := [⟨gb0, [.slice Ab0_0 b0_0.length cb0_0], 23⟩, ⟨gb1, [.pointer (some ⟨gb2, 0, none⟩)], 64⟩, ⟨gb2, ((arrV (Value.int .i64) 0 12 b2.f0) ++ ((arrV (Value.int .i64) 0 12 x1) ++ (arrV (Value.int .i64) 0 12 x7))), 58⟩, ⟨gb3, arrV Value.bool false 12 b3, 70⟩, ⟨gb4, arrV (Value.int .i64) 0 12 x8, 52⟩]) (by kernel_rfl) (.cons_cons _ (.cons_cons _ (.cons_cons _ (.cons_cons _ (.cons_cons _ .slnil))))) (.refl _) ?_
      exact hJ3 _ _ _ _ _ ⟨x7, x8, W .i64 (x6 + 1), rfl, rfl, rfl, (Imm.le_trans hi3 hi4), hz6, hz7, H⟩
     ·intro Q_2 hJ4 hQ4
      obtain ⟨y3, H, HK3⟩ := Option.bind_eq_some_iff.mp H
      refine OK.cond (.tmp 32) K40s0_43 K40s0_45 (b3.getD ((x6).toNat) false) (by kernel_rfl) (by kernel_rfl) (by kernel_rfl) (fun hb => ?_) (fun hb => ?_)
      ·skip
       have hc := hb
       rw [if_pos hc] at H
       clear hb
       by_cases hi0_1 : 0 ≤ x6
       case neg => rw [if_neg hi0_1] at H; cases H
       rw [if_pos hi0_1] at H
       by_cases hi1_1 : x6 < (12 : Int)
       case neg => rw [if_neg hi1_1] at H; cases H
       rw [if_pos hi1_1] at H
       refine OK.drawnC 9 10 O40s0_43 a40s0_43n (by kernel_rfl) (by kernel_rfl) u40d1l (u40d1g gb2 x6) [(⟨gb2, 24 + (x6).toNat * 1, none⟩, .int .i64 (x4.getD ((x6).toNat) 0))] (RI.arr (g := gb2) (ty := 58) (cs := ((arrV (Value.int .i64) 0 12 b2.f0) ++ ((arrV (Value.int .i64) 0 12 x1) ++ (arrV (Value.int .i64) 0 12 x4)))) (Value.int .i64) 0 12 x4 ((arrV (Value.int .i64) 0 12 b2.f0) ++ (arrV (Value.int .i64) 0 12 x1)) [] 24 ((x6).toNat) 2 (by kernel_rfl) (by kernel_rfl) (by kernel_rfl) (by omega) (24 + (x6).toNat * 1) (by omega) (RI.nil _)) [.l 1, .no, .no, .no, .no, .r 0, .no, .no, .no, .no] a40s0_43 a40s0_43o (by kernel_rfl) (by kernel_rfl) (u40d1s gb2 a0 x4 x6) (u40d1f gb1 gb2 gb3 gb4 a0 b3 x4 x6 10) (u40d1v gb0 gb1 gb2 gb3 gb4 a0 b0_0 Ab0_0 cb0_0 b2 b3 x1 x4 x5 x6) (u40d1e gb0 gb1 gb2 gb3 gb4 a0 b0_0 Ab0_0 cb0_0 b2 b3 x1 x4 x5 x6) [] framesOk.nil ?_ [u40d1f gb1 gb2 gb3 gb4 a0 b3 x4 x6 4] (framesOk.cons (fun u => rfl) framesOk.nil) ?_ ?_
       ·refine LoudsG.nil
       ·refine Givens.cons (fun u w =>  ?_) (fun _ _ _ => rfl) (Givens.nil)
        ·exact giv_idxArr (T := 52) (e := 2) 1 .i64 x6 gb2 (24) 12 (by kernel_rfl) (by kernel_rfl) (by kernel_rfl) hi0_1 hi1_1 w
       intro u I5 nx5 hi5 hF
       clear hF
       refine RL.norm (K' := [(42, .pointer (some ⟨gb2, 24, none⟩)), (41, .pointer (some ⟨gb2, 0, none⟩)), (40, .int .i64 (W .i64 ((x4.getD ((x6).toNat) 0) + a0))), (39, .int .i64 a0), (38, .int .i64 (x4.getD ((x6).toNat) 0)), (37, .pointer (some ⟨gb2, 24 + (x6).toNat * 1, none⟩)), (36, .pointer (some ⟨gb2, 24, none⟩)), (35, .pointer (some ⟨gb2, 0, none⟩)), (34, .int .i64 x6), (33, .pointer (some ⟨gb2, 0, none⟩)), (32, .bool (b3.getD ((x6).toNat) false)), (8, .int .i64 x6), (0, .int .i64 a0), (2, .pointer (some ⟨gb1, 0, none⟩)), (3, .pointer (some ⟨gb3, 0, none⟩)), (4, .pointer (some ⟨gb4, 0, none⟩)), (27, .int .i64 x6)]) (X' := [orow 3 1 Ab0_0 b0_0.length cb0_0 csb0_0]) (by kernel_rfl) rfl rfl rfl ?_
       by_cases hib0 : 0 ≤ x6
       case neg => rw [if_neg hib0] at H; cases H
       rw [if_pos hib0] at H
       by_cases hib1 : x6 < (12 : Int)
       case neg => rw [if_neg hib1] at H; cases H
       rw [if_pos hib1] at H
       have ha02 := hib0; have ha12 := hib1
       refine RL.idxArr (T := 52) (e := 2) 1 .i64 x6 gb2 (24) 12 (some 43) (by kernel_rfl) (by kernel_rfl) (by kernel_rfl) (by kernel_rfl) hib0 hib1 (K' := [(43, .pointer (some ⟨gb2, 24 + (x6).toNat * 1, none⟩)), (42, .pointer (some ⟨gb2, 24, none⟩)), (41, .pointer (some ⟨gb2, 0, none⟩)), (40, .int .i64 (W .i64 ((x4.getD ((x6).toNat) 0) + a0))), (39, .int .i64 a0), (38, .int .i64 (x4.getD ((x6).toNat) 0)), (37, .pointer (some ⟨gb2, 24 + (x6).toNat * 1, none⟩)), (36, .pointer (some ⟨gb2, 24, none⟩)), (35, .pointer (some ⟨gb2, 0, none⟩)), (34, .int .i64 x6), (33, .pointer (some ⟨gb2, 0, none⟩)), (32, .bool (b3.getD ((x6).toNat) false)), (8, .int .i64 x6), (0, .int .i64 a0), (2, .pointer (some ⟨gb1, 0, none⟩)), (3, .pointer (some ⟨gb3, 0, none⟩)), (4, .pointer (some ⟨gb4, 0, none⟩)), (27, .int .i64 x6)]) (by kernel_rfl) ?_
       refine RL.stA (g := gb2) (ty := 58) (cs := ((arrV (Value.int .i64) 0 12 b2.f0) ++ ((arrV (Value.int .i64) 0 12 x1) ++ (arrV (Value.int .i64) 0 12 x4)))) (Value.int .i64) 0 12 x4 (W .i64 ((x4.getD ((x6).toNat) 0) + a0)) ((arrV (Value.int .i64) 0 12 b2.f0) ++ (arrV (Value.int .i64) 0 12 x1)) [] 24 ((x6).toNat) 2 (by kernel_rfl) (by kernel_rfl) (by kernel_rfl) (by omega) hz4 (24 + (x6).toNat * 1) (by omega) 2 (by kernel_rfl) (by kernel_rfl) (by kernel_rfl) (by rfl) (fun _ h => by cases h) (fun _ h => by cases h) (cs' := ((arrV (Value.int .i64) 0 12 b2.f0) ++ ((arrV (Value.int .i64) 0 12 x1) ++ (arrV (Value.int .i64) 0 12 (x4.set ((x6).toNat) (W .i64 ((x4.getD ((x6).toNat) 0) + a0))))))) (by kernel_rfl) ?_
       refine RL.nil (by kernel_rfl) ?_
       refine QN.sub (K' := [(0, .int .i64 a0), (2, .pointer (some ⟨gb1, 0, none⟩)), (3, .pointer (some ⟨gb3, 0, none⟩)), (4, .pointer (some ⟨gb4, 0, none⟩)), (27, .int .i64 x6)]) (L' := [⟨gb0, [.slice Ab0_0 b0_0.length cb0_0], 23⟩, ⟨gb1, [.pointer (some ⟨gb2, 0, none⟩)], 64⟩, ⟨gb2, ((arrV (Value.int .i64) 0 12 b2.f0) ++ ((arrV (Value.int .i64) 0 12 x1) ++ (arrV (Value.int .i64) 0 12 (x4.set ((x6).toNat) (W .i64 ((x4.getD ((x6).toNat) 0) + a0)))))), 58⟩, ⟨gb3, arrV Value.bool false 12 b3, 70⟩, ⟨gb4, arrV (Value.int .i64) 0 12 x5, 52⟩]) (by kernel_rfl) (.cons_cons _ (.cons_cons _ (.cons_cons _ (.cons_cons _ (.cons_cons _ .slnil))))) (.refl _) ?_
       obtain rfl := Option.some.inj H
       refine QN.sub (K' := [(0, .int .i64 a0), (2, .pointer (some ⟨gb1, 0, none⟩)), (3, .pointer (some ⟨gb3, 0, none⟩)), (4, .pointer (some ⟨gb4, 0, none⟩)), (27, .int .i64 x6)]) (L' := [⟨gb0, [.slice Ab0_0 b0_0.length cb0_0], 23⟩, ⟨gb1, [.pointer (some ⟨gb2, 0, none⟩)], 64⟩, ⟨gb2, ((arrV (Value.int .i64) 0 12 b2.f0) ++ ((arrV (Value.int .i64) 0 12 x1) ++ (arrV (Value.int .i64) 0 12 (x4.set ((x6).toNat) (W .i64 ((x4.getD ((x6).toNat) 0) + a0)))))), 58⟩, ⟨gb3, arrV Value.bool false 12 b3, 70⟩, ⟨gb4, arrV (Value.int .i64) 0 12 x5, 52⟩]) (by kernel_rfl) (.cons_cons _ (.cons_cons _ (.cons_cons _ (.cons_cons _ (.cons_cons _ .slnil))))) (.refl _) ?_
       exact hJ4 _ _ _ _ _ ⟨(x4.set ((x6).toNat) (W .i64 ((x4.getD ((x6).toNat) 0) + a0))), x5, rfl, rfl, rfl, hi5, (le_set hz4), hz5, HK3⟩
      ·skip
       have hc := (Bool.eq_false_iff.1 hb)
       rw [if_neg hc] at H
       clear hb
       refine OK.region 10 O40s0_45 (by kernel_rfl) ?_
       refine RL.simK (K' := [(44, .int .i64 x6), (0, .int .i64 a0), (2, .pointer (some ⟨gb1, 0, none⟩)), (3, .pointer (some ⟨gb3, 0, none⟩)), (4, .pointer (some ⟨gb4, 0, none⟩)), (27, .int .i64 x6)]) [] (RFacts.nil _ _ _) 1 [.no] (by kernel_rfl) (by kernel_rfl) ?_
       by_cases hib0 : 0 ≤ x6
       case neg => rw [if_neg hib0] at H; cases H
       rw [if_pos hib0] at H
       by_cases hib1 : x6 < (12 : Int)
       case neg => rw [if_neg hib1] at H; cases H
       rw [if_pos hib1] at H
       have ha03 := hib0; have ha13 := hib1
       refine RL.idxArr (T := 52) (e := 2) 1 .i64 x6 gb4 (0) 12 (some 45) (by kernel_rfl) (by kernel_rfl) (by kernel_rfl) (by kernel_rfl) hib0 hib1 (K' := [(45, .pointer (some ⟨gb4, 0 + (x6).toNat * 1, none⟩)), (44, .int .i64 x6), (0, .int .i64 a0), (2, .pointer (some ⟨gb1, 0, none⟩)), (3, .pointer (some ⟨gb3, 0, none⟩)), (4, .pointer (some ⟨gb4, 0, none⟩)), (27, .int .i64 x6)]) (by kernel_rfl) ?_
       refine RL.ldA (g := gb4) (ty := 52) (cs := arrV (Value.int .i64) 0 12 x5) (Value.int .i64) 0 12 x5 [] [] 0 ((x6).toNat) 4 (by kernel_rfl) (by kernel_rfl) (by kernel_rfl) (by omega) (0 + (x6).toNat * 1) (by omega) (some 46) (by kernel_rfl) (by kernel_rfl) (by kernel_rfl) (K' := [(46, .int .i64 (x5.getD ((x6).toNat) 0)), (45, .pointer (some ⟨gb4, 0 + (x6).toNat * 1, none⟩)), (44, .int .i64 x6), (0, .int .i64 a0), (2, .pointer (some ⟨gb1, 0, none⟩)), (3, .pointer (some ⟨gb3, 0, none⟩)), (4, .pointer (some ⟨gb4, 0, none⟩)), (27, .int .i64 x6)]) (by kernel_rfl) ?_
       refine RL.simK (K' := [(48, .int .i64 (W .i64 ((x5.getD ((x6).toNat) 0) - a0))), (44, .int .i64 x6), (0, .int .i64 a0), (2, .pointer (some ⟨gb1, 0, none⟩)), (3, .pointer (some ⟨gb3, 0, none⟩)), (4, .pointer (some ⟨gb4, 0, none⟩)), (27, .int .i64 x6)]) [] (RFacts.nil _ _ _) 2 [.no, .no] (by kernel_rfl) (by kernel_rfl) ?_
       by_cases hib0 : 0 ≤ x6
       case neg => rw [if_neg hib0] at H; cases H
       rw [if_pos hib0] at H
       by_cases hib1 : x6 < (12 : Int)
       case neg => rw [if_neg hib1] at H; cases H
       rw [if_pos hib1] at H
       have ha04 := hib0; have ha14 := hib1
       refine RL.idxArr (T := 52) (e := 2) 1 .i64 x6 gb4 (0) 12 (some 49) (by kernel_rfl) (by kernel_rfl) (by kernel_rfl) (by kernel_rfl) hib0 hib1 (K' := [(49, .pointer (some ⟨gb4, 0 + (x6).toNat * 1, none⟩)), (48, .int .i64 (W .i64 ((x5.getD ((x6).toNat) 0) - a0))), (44, .int .i64 x6), (0, .int .i64 a0), (2, .pointer (some ⟨gb1, 0, none⟩)), (3, .pointer (some ⟨gb3, 0, none⟩)), (4, .pointer (some ⟨gb4, 0, none⟩)), (27, .int .i64 x6)]) (by kernel_rfl) ?_
       refine RL.stA (g := gb4) (ty := 52) (cs := arrV (Value.int .i64) 0 12 x5) (Value.int .i64) 0 12 x5 (W .i64 ((x5.getD ((x6).toNat) 0) - a0)) [] [] 0 ((x6).toNat) 4 (by kernel_rfl) (by kernel_rfl) (by kernel_rfl) (by omega) hz5 (0 + (x6).toNat * 1) (by omega) 2 (by kernel_rfl) (by kernel_rfl) (by kernel_rfl) (by rfl) (fun _ h => by cases h) (fun _ h => by cases h) (cs' := arrV (Value.int .i64) 0 12 (x5.set ((x6).toNat) (W .i64 ((x5.getD ((x6).toNat) 0) - a0)))) (by kernel_rfl) ?_
       refine RL.nil (by kernel_rfl) ?_
       refine QN.sub (K' := [(0, .int .i64 a0), (2, .pointer (some ⟨gb1, 0, none⟩)), (3, .pointer (some ⟨gb3, 0, none⟩)), (4, .pointer (some ⟨gb4, 0, none⟩)), (27, .int .i64 x6)]) (L' := [⟨gb0, [.slice Ab0_0 b0_0.length cb0_0], 23⟩, ⟨gb1, [.pointer (some ⟨gb2, 0, none⟩)], 64⟩, ⟨gb2, ((arrV (Value.int .i64) 0 12 b2.f0) ++ ((arrV (Value.int .i64) 0 12 x1) ++ (arrV (Value.int .i64) 0 12 x4))), 58⟩, ⟨gb3, arrV Value.bool false 12 b3, 70⟩, ⟨gb4, arrV (Value.int .i64) 0 12 (x5.set ((x6).toNat) (W .i64 ((x5.getD ((x6).toNat) 0) - a0))), 52⟩]) (by kernel_rfl) (.cons_cons _ (.cons_cons _ (.cons_cons _ (.cons_cons _ (.cons_cons _ .slnil))))) (.refl _) ?_
       obtain rfl := Option.some.inj H
       refine QN.sub (K' := [(0, .int .i64 a0), (2, .pointer (some ⟨gb1, 0, none⟩)), (3, .pointer (some ⟨gb3, 0, none⟩)), (4, .pointer (some ⟨gb4, 0, none⟩)), (27, .int .i64 x6)]) (L' := [⟨gb0, [.slice Ab0_0 b0_0.length cb0_0], 23⟩, ⟨gb1, [.pointer (some ⟨gb2, 0, none⟩)], 64⟩, ⟨gb2, ((arrV (Value.int .i64) 0 12 b2.f0) ++ ((arrV (Value.int .i64) 0 12 x1) ++ (arrV (Value.int .i64) 0 12 x4))), 58⟩, ⟨gb3, arrV Value.bool false 12 b3, 70⟩, ⟨gb4, arrV (Value.int .i64) 0 12 (x5.set ((x6).toNat) (W .i64 ((x5.getD ((x6).toNat) 0) - a0))), 52⟩]) (by kernel_rfl) (.cons_cons _ (.cons_cons _ (.cons_cons _ (.cons_cons _ (.cons_cons _ .slnil))))) (.refl _) ?_
       exact hJ4 _ _ _ _ _ ⟨x4, (x5.set ((x6).toNat) (W .i64 ((x5.getD ((x6).toNat) 0) - a0))), rfl, rfl, rfl, (Imm.le_refl _), hz4, (le_set hz5), HK3⟩
    ·skip
     have hc := (of_decide_eq_false hb)
     rw [if_neg hc] at H
     clear hb
     refine OK.exit 2 (by kernel_rfl) ?_
     refine QN.thenE ?_
     refine QN.outE hQ3 ?_
     refine QN.blkE ?_
     obtain rfl := Option.some.inj H
     refine QN.sub (K' := []) (L' := [⟨gb0, [.slice Ab0_0 b0_0.length cb0_0], 23⟩, ⟨gb1, [.pointer (some ⟨gb2, 0, none⟩)], 64⟩, ⟨gb2, ((arrV (Value.int .i64) 0 12 b2.f0) ++ ((arrV (Value.int .i64) 0 12 x1) ++ (arrV (Value.int .i64) 0 12 x4))), 58⟩, ⟨gb3, arrV Value.bool false 12 b3, 70⟩, ⟨gb4, arrV (Value.int .i64) 0 12 x5, 52⟩]) (by kernel_rfl) (.cons_cons _ (.cons_cons _ (.cons_cons _ (.cons_cons _ (.cons_cons _ .slnil))))) (.refl _) ?_
     exact hJ2 _ _ _ _ _ ⟨x4, x5, rfl, rfl, rfl, hi3, hz4, hz5, HK2⟩
 ·intro Q_3 hJ1 hQ1
  obtain ⟨y1, H, HK1⟩ := Option.bind_eq_some_iff.mp H
  refine OK.block 0 K40s0_5 (by kernel_rfl) ?_
  refine OK.sub (K' := [(0, .int .i64 a0), (2, .pointer (some ⟨gb1, 0, none⟩)), (3, .pointer (some ⟨gb3, 0, none⟩)), (4, .pointer (some ⟨gb4, 0, none⟩)), (9, .slice Ab0_0 b0_0.length cb0_0), (10, .int .i64 (b0_0.length : Int)), (11, .int .i64 0)]) (L' := [⟨gb0, [.slice Ab0_0 b0_0.length cb0_0], 23⟩, ⟨gb1, [.pointer (some ⟨gb2, 0, none⟩)], 64⟩, ⟨gb2, ((arrV (Value.int .i64) 0 12 b2.f0) ++ ((arrV (Value.int .i64) 0 12 b2.f1) ++ (arrV (Value.int .i64) 0 12 b2.f2))), 58⟩, ⟨gb3, arrV Value.bool false 12 b3, 70⟩, ⟨gb4, arrV (Value.int .i64) 0 12 b4, 52⟩]) (by kernel_rfl) (.cons_cons _ (.cons_cons _ (.cons_cons _ (.cons_cons _ (.cons_cons _ .slnil))))) (.refl _) ?_
  refine OK.loopInv K40s0_6 (by kernel_rfl) (fun n_ K' I' _ L' X' => ∃ (x9 : List Int) (x10 : Int), K' = [(0, .int .i64 a0), (2, .pointer (some ⟨gb1, 0, none⟩)), (3, .pointer (some ⟨gb3, 0, none⟩)), (4, .pointer (some ⟨gb4, 0, none⟩)), (9, .slice Ab0_0 b0_0.length cb0_0), (10, .int .i64 (b0_0.length : Int)), (11, .int .i64 x10)] ∧ L' = [⟨gb0, [.slice Ab0_0 b0_0.length cb0_0], 23⟩, ⟨gb1, [.pointer (some ⟨gb2, 0, none⟩)], 64⟩, ⟨gb2, ((arrV (Value.int .i64) 0 12 b2.f0) ++ ((arrV (Value.int .i64) 0 12 x9) ++ (arrV (Value.int .i64) 0 12 b2.f2))), 58⟩, ⟨gb3, arrV Value.bool false 12 b3, 70⟩, ⟨gb4, arrV (Value.int .i64) 0 12 b4, 52⟩] ∧ X' = [orow 3 1 Ab0_0 b0_0.length cb0_0 csb0_0] ∧ Imm.le I0 I' ∧ 12 ≤ x9.length ∧ assign_solution_augment_1s0.l2 a0 b0_0 n_ x9 x10 = some y1) k ⟨b2.f1, 0, rfl, rfl, rfl, (Imm.le_refl _), hzb2_1, H⟩ ?_ ?_
  ·rintro _ _ _ _ _ ⟨x9, x10, rfl, rfl, rfl, _, hz8, H⟩
   cases H
  ·rintro kq2 _ I6 nx6 _ _ ⟨x9, x10, rfl, rfl, rfl, hi6, hz8, H⟩ Q_l2 hJ5 hQ5
   replace H : (if x10 < (b0_0.length : Int) then (if 0 ≤ x10 then (if x10 < (b0_0.length : Int) then (if 0 ≤ (b0_0.getD (x10).toNat 0) then (if (b0_0.getD (x10).toNat 0) < (12 : Int) then (if 0 ≤ (b0_0.getD (x10).toNat 0) then (if (b0_0.getD (x10).toNat 0) < (12 : Int) then (assign_solution_augment_1s0.l2 a0 b0_0 kq2 (x9.set (((b0_0.getD (x10).toNat 0)).toNat) (W .i64 ((x9.getD (((b0_0.getD (x10).toNat 0)).toNat) 0) - a0))) (W .i64 (x10 + 1))) else none) else none) else none) else none) else none) else none) else (some x9)) = some y1 := H
   refine OK.seq K40s0_7 K40s0_9 (by kernel_rfl) ?_
   refine OK.region 1 O40s0_7 (by kernel_rfl) ?_
   refine RL.simK (K' := [(12, .bool (decide (x10 < (b0_0.length : Int)))), (0, .int .i64 a0), (2, .pointer (some ⟨gb1, 0, none⟩)), (3, .pointer (some ⟨gb3, 0, none⟩)), (4, .pointer (some ⟨gb4, 0, none⟩)), (9, .slice Ab0_0 b0_0.length cb0_0), (10, .int .i64 (b0_0.length : Int)), (11, .int .i64 x10)]) [] (RFacts.nil _ _ _) 1 [.no] (by kernel_rfl) (by kernel_rfl) ?_
   refine RL.nil (by kernel_rfl) ?_
   refine QN.then_ ?_
   refine OK.seq K40s0_10 K40s0_13 (by kernel_rfl) ?_
   refine OK.cond (.tmp 12) K40s0_11 K40s0_12 (decide (x10 < (b0_0.length : Int))) (by kernel_rfl) (by kernel_rfl) (by kernel_rfl) (fun hb => ?_) (fun hb => ?_)
   ·skip
    have hc := (of_decide_eq_true hb)
    rw [if_pos hc] at H
    clear hb
    refine OK.skip (by kernel_rfl) ?_
    refine QN.then_ ?_
    refine OK.seq K40s0_14 K40s0_20 (by kernel_rfl) ?_
    refine OK.block 1 K40s0_15 (by kernel_rfl) ?_
    refine OK.seq K40s0_16 K40s0_18 (by kernel_rfl) ?_
    refine OK.region 2 O40s0_16 (by kernel_rfl) ?_
    by_cases hib0 : 0 ≤ x10
    case neg => rw [if_neg hib0] at H; cases H
    rw [if_pos hib0] at H
    by_cases hib1 : x10 < (b0_0.length : Int)
    case neg => rw [if_neg hib1] at H; cases H
    rw [if_pos hib1] at H
    have hx05_ := hib0; have hx15_ := hib1
    refine RL.ownAddr (e := 3) (sz := 1) (S := Ab0_0) (n := b0_0.length) (cap := cb0_0) (cs := csb0_0) 0 (by kernel_rfl) (by omega) (fun g5_ hA5_ => ?_)
    have hc5_ := Ty.int_own (Reps.ext hi6 hpb0_0) x10 hib0 hib1
    refine RL.idx 1 .i64 x10 hA5_ b0_0.length cb0_0 (some 13) (by kernel_rfl) (by kernel_rfl) (T := 23) (e := 3) (by kernel_rfl) (by kernel_rfl) hib0 hib1 (K' := [(13, .pointer (some ⟨g5_, 0 + (x10).toNat * 1, none⟩)), (12, .bool (decide (x10 < (b0_0.length : Int)))), (0, .int .i64 a0), (2, .pointer (some ⟨gb1, 0, none⟩)), (3, .pointer (some ⟨gb3, 0, none⟩)), (4, .pointer (some ⟨gb4, 0, none⟩)), (9, .slice Ab0_0 b0_0.length cb0_0), (10, .int .i64 (b0_0.length : Int)), (11, .int .i64 x10)]) (by kernel_rfl) ?_
    refine RL.simK (K' := [(7, .int .i64 (b0_0.getD (x10).toNat 0)), (0, .int .i64 a0), (2, .pointer (some ⟨gb1, 0, none⟩)), (3, .pointer (some ⟨gb3, 0, none⟩)), (4, .pointer (some ⟨gb4, 0, none⟩)), (9, .slice Ab0_0 b0_0.length cb0_0), (10, .int .i64 (b0_0.length : Int)), (11, .int .i64 x10)]) [(⟨g5_, 0 + (x10).toNat * 1, none⟩, .int .i64 (b0_0.getD (x10).toNat 0))] (RFacts.ownQ (e := 3) (sz := 1) (S := Ab0_0) (n := b0_0.length) (cap := cb0_0) (cs := csb0_0) 0 (by kernel_rfl) hA5_ (0 + (x10).toNat * 1) ((x10).toNat * 1 + 0) (by omega) (hc5_ 0 _ rfl) (RFacts.nil _ _ _)) 2 [.r 0, .no] (by kernel_rfl) (by kernel_rfl) ?_
    refine RL.nil (by kernel_rfl) ?_
    refine QN.then_ ?_
    by_cases hi0_2 : 0 ≤ (b0_0.getD (x10).toNat 0)
    case neg => rw [if_neg hi0_2] at H; cases H
    rw [if_pos hi0_2] at H
    by_cases hi1_2 : (b0_0.getD (x10).toNat 0) < (12 : Int)
    case neg => rw [if_neg hi1_2] at H; cases H
    rw [if_pos hi1_2] at H
    refine OK.drawnC 3 10 O40s0_18 a40s0_18n (by kernel_rfl) (by kernel_rfl) u40d2l (u40d2g gb2 b0_0 x10) [(⟨gb2, 12 + ((b0_0.getD (x10).toNat 0)).toNat * 1, none⟩, .int .i64 (x9.getD (((b0_0.getD (x10).toNat 0)).toNat) 0))] (RI.arr (g := gb2) (ty := 58) (cs := ((arrV (Value.int .i64) 0 12 b2.f0) ++ ((arrV (Value.int .i64) 0 12 x9) ++ (arrV (Value.int .i64) 0 12 b2.f2)))) (Value.int .i64) 0 12 x9 (arrV (Value.int .i64) 0 12 b2.f0) (arrV (Value.int .i64) 0 12 b2.f2) 12 (((b0_0.getD (x10).toNat 0)).toNat) 2 (by kernel_rfl) (by kernel_rfl) (by kernel_rfl) (by omega) (12 + ((b0_0.getD (x10).toNat 0)).toNat * 1) (by omega) (RI.nil _)) [.l 1, .no, .no, .no, .no, .r 0, .no, .no, .no, .no] a40s0_18 a40s0_18o (by kernel_rfl) (by kernel_rfl) (u40d2s gb2 a0 b0_0 x9 x10) (u40d2f gb1 gb2 gb3 gb4 a0 b0_0 Ab0_0 cb0_0 x9 x10 10) (u40d2v gb0 gb1 gb2 gb3 gb4 a0 b0_0 Ab0_0 cb0_0 b2 b3 b4 x9 x10) (u40d2e gb0 gb1 gb2 gb3 gb4 a0 b0_0 Ab0_0 cb0_0 b2 b3 b4 x9 x10) [] framesOk.nil ?_ [u40d2f gb1 gb2 gb3 gb4 a0 b0_0 Ab0_0 cb0_0 x9 x10 4] (framesOk.cons (fun u => rfl) framesOk.nil) ?_ ?_
    ·refine LoudsG.nil
    ·refine Givens.cons (fun u w =>  ?_) (fun _ _ _ => rfl) (Givens.nil)
     ·exact giv_idxArr (T := 52) (e := 2) 1 .i64 (b0_0.getD (x10).toNat 0) gb2 (12) 12 (by kernel_rfl) (by kernel_rfl) (by kernel_rfl) hi0_2 hi1_2 w
    intro u I7 nx7 hi7 hF
    clear hF
    refine RL.norm (K' := [(24, .pointer (some ⟨gb2, 12, none⟩)), (23, .pointer (some ⟨gb2, 0, none⟩)), (22, .int .i64 (W .i64 ((x9.getD (((b0_0.getD (x10).toNat 0)).toNat) 0) - a0))), (21, .int .i64 a0), (20, .int .i64 (x9.getD (((b0_0.getD (x10).toNat 0)).toNat) 0)), (19, .pointer (some ⟨gb2, 12 + ((b0_0.getD (x10).toNat 0)).toNat * 1, none⟩)), (18, .pointer (some ⟨gb2, 12, none⟩)), (17, .pointer (some ⟨gb2, 0, none⟩)), (16, .int .i64 (b0_0.getD (x10).toNat 0)), (15, .pointer (some ⟨gb2, 0, none⟩)), (7, .int .i64 (b0_0.getD (x10).toNat 0)), (0, .int .i64 a0), (2, .pointer (some ⟨gb1, 0, none⟩)), (3, .pointer (some ⟨gb3, 0, none⟩)), (4, .pointer (some ⟨gb4, 0, none⟩)), (9, .slice Ab0_0 b0_0.length cb0_0), (10, .int .i64 (b0_0.length : Int)), (11, .int .i64 x10)]) (X' := [orow 3 1 Ab0_0 b0_0.length cb0_0 csb0_0]) (by kernel_rfl) rfl rfl rfl ?_
    by_cases hib0 : 0 ≤ (b0_0.getD (x10).toNat 0)
    case neg => rw [if_neg hib0] at H; cases H
    rw [if_pos hib0] at H
    by_cases hib1 : (b0_0.getD (x10).toNat 0) < (12 : Int)
    case neg => rw [if_neg hib1] at H; cases H
    rw [if_pos hib1] at H
    have ha06 := hib0; have ha16 := hib1
    refine RL.idxArr (T := 52) (e := 2) 1 .i64 (b0_0.getD (x10).toNat 0) gb2 (12) 12 (some 25) (by kernel_rfl) (by kernel_rfl) (by kernel_rfl) (by kernel_rfl) hib0 hib1 (K' := [(25, .pointer (some ⟨gb2, 12 + ((b0_0.getD (x10).toNat 0)).toNat * 1, none⟩)), (24, .pointer (some ⟨gb2, 12, none⟩)), (23, .pointer (some ⟨gb2, 0, none⟩)), (22, .int .i64 (W .i64 ((x9.getD (((b0_0.getD (x10).toNat 0)).toNat) 0) - a0))), (21, .int .i64 a0), (20, .int .i64 (x9.getD (((b0_0.getD (x10).toNat 0)).toNat) 0)), (19, .pointer (some ⟨gb2, 12 + ((b0_0.getD (x10).toNat 0)).toNat * 1, none⟩)), (18, .pointer (some ⟨gb2, 12, none⟩)), (17, .pointer (some ⟨gb2, 0, none⟩)), (16, .int .i64 (b0_0.getD (x10).toNat 0)), (15, .pointer (some ⟨gb2, 0, none⟩)), (7, .int .i64 (b0_0.getD (x10).toNat 0)), (0, .int .i64 a0), (2, .pointer (some ⟨gb1, 0, none⟩)), (3, .pointer (some ⟨gb3, 0, none⟩)), (4, .pointer (some ⟨gb4, 0, none⟩)), (9, .slice Ab0_0 b0_0.length cb0_0), (10, .int .i64 (b0_0.length : Int)), (11, .int .i64 x10)]) (by kernel_rfl) ?_
    refine RL.stA (g := gb2) (ty := 58) (cs := ((arrV (Value.int .i64) 0 12 b2.f0) ++ ((arrV (Value.int .i64) 0 12 x9) ++ (arrV (Value.int .i64) 0 12 b2.f2)))) (Value.int .i64) 0 12 x9 (W .i64 ((x9.getD (((b0_0.getD (x10).toNat 0)).toNat) 0) - a0)) (arrV (Value.int .i64) 0 12 b2.f0) (arrV (Value.int .i64) 0 12 b2.f2) 12 (((b0_0.getD (x10).toNat 0)).toNat) 2 (by kernel_rfl) (by kernel_rfl) (by kernel_rfl) (by omega) hz8 (12 + ((b0_0.getD (x10).toNat 0)).toNat * 1) (by omega) 2 (by kernel_rfl) (by kernel_rfl) (by kernel_rfl) (by rfl) (fun _ h => by cases h) (fun _ h => by cases h) (cs' := ((arrV (Value.int .i64) 0 12 b2.f0) ++ ((arrV (Value.int .i64) 0 12 (x9.set (((b0_0.getD (x10).toNat 0)).toNat) (W .i64 ((x9.getD (((b0_0.getD (x10).toNat 0)).toNat) 0) - a0)))) ++ (arrV (Value.int .i64) 0 12 b2.f2)))) (by kernel_rfl) ?_
    refine RL.nil (by kernel_rfl) ?_
    refine QN.sub (K' := [(0, .int .i64 a0), (2, .pointer (some ⟨gb1, 0, none⟩)), (3, .pointer (some ⟨gb3, 0, none⟩)), (4, .pointer (some ⟨gb4, 0, none⟩)), (9, .slice Ab0_0 b0_0.length cb0_0), (10, .int .i64 (b0_0.length : Int)), (11, .int .i64 x10)]) (L' := [⟨gb0, [.slice Ab0_0 b0_0.length cb0_0], 23⟩, ⟨gb1, [.pointer (some ⟨gb2, 0, none⟩)], 64⟩, ⟨gb2, ((arrV (Value.int .i64) 0 12 b2.f0) ++ ((arrV (Value.int .i64) 0 12 (x9.set (((b0_0.getD (x10).toNat 0)).toNat) (W .i64 ((x9.getD (((b0_0.getD (x10).toNat 0)).toNat) 0) - a0)))) ++ (arrV (Value.int .i64) 0 12 b2.f2))), 58⟩, ⟨gb3, arrV Value.bool false 12 b3, 70⟩, ⟨gb4, arrV (Value.int .i64) 0 12 b4, 52⟩]) (by kernel_rfl) (.cons_cons _ (.cons_cons _ (.cons_cons _ (.cons_cons _ (.cons_cons _ .slnil))))) (.refl _) ?_
    refine QN.blkN ?_
    refine QN.then_ ?_
    refine OK.region 4 O40s0_20 (by kernel_rfl) ?_
    refine RL.simK (K' := [(11, .int .i64 (W .i64 (x10 + 1))), (0, .int .i64 a0), (2, .pointer (some ⟨gb1, 0, none⟩)), (3, .pointer (some ⟨gb3, 0, none⟩)), (4, .pointer (some ⟨gb4, 0, none⟩)), (9, .slice Ab0_0 b0_0.length cb0_0), (10, .int .i64 (b0_0.length : Int))]) [] (RFacts.nil _ _ _) 2 [.no, .no] (by kernel_rfl) (by kernel_rfl) ?_
    refine RL.nil (by kernel_rfl) ?_
    refine QN.sub (K' := [(0, .int .i64 a0), (2, .pointer (some ⟨gb1, 0, none⟩)), (3, .pointer (some ⟨gb3, 0, none⟩)), (4, .pointer (some ⟨gb4, 0, none⟩)), (9, .slice Ab0_0 b0_0.length cb0_0), (10, .int .i64 (b0_0.length : Int)), (11, .int .i64 (W .i64 (x10 + 1)))]) (L' := [⟨gb0, [.slice Ab0_0 b0_0.length cb0_0], 23⟩, ⟨gb1, [.pointer (some ⟨gb2, 0, none⟩)], 64⟩, ⟨gb2, ((arrV (Value.int .i64) 0 12 b2.f0) ++ ((arrV (Value.int .i64) 0 12 (x9.set (((b0_0.getD (x10).toNat 0)).toNat) (W .i64 ((x9.getD (((b0_0.getD (x10).toNat 0)).toNat) 0) - a0)))) ++ (arrV (Value.int .i64) 0 12 b2.f2))), 58⟩, ⟨gb3, arrV Value.bool false 12 b3, 70⟩, ⟨gb4, arrV (Value.int .i64) 0 12 b4, 52⟩]) (by kernel_rfl) (.cons_cons _ (.cons_cons _ (.cons_cons _ (.cons_cons _ (.cons_cons _ .slnil))))) (.refl _) ?_
    exact hJ5 _ _ _ _ _ ⟨(x9.set (((b0_0.getD (x10).toNat 0)).toNat) (W .i64 ((x9.getD (((b0_0.getD (x10).toNat 0)).toNat) 0) - a0))), W .i64 (x10 + 1), rfl, rfl, rfl, (Imm.le_trans hi6 hi7), (le_set hz8), H⟩
   ·skip
    have hc := (of_decide_eq_false hb)
    rw [if_neg hc] at H
    clear hb
    refine OK.exit 0 (by kernel_rfl) ?_
    refine QN.thenE ?_
    refine QN.outE hQ5 ?_
    refine QN.blkE ?_
    obtain rfl := Option.some.inj H
    refine QN.sub (K' := [(0, .int .i64 a0), (2, .pointer (some ⟨gb1, 0, none⟩)), (3, .pointer (some ⟨gb3, 0, none⟩)), (4, .pointer (some ⟨gb4, 0, none⟩))]) (L' := [⟨gb0, [.slice Ab0_0 b0_0.length cb0_0], 23⟩, ⟨gb1, [.pointer (some ⟨gb2, 0, none⟩)], 64⟩, ⟨gb2, ((arrV (Value.int .i64) 0 12 b2.f0) ++ ((arrV (Value.int .i64) 0 12 x9) ++ (arrV (Value.int .i64) 0 12 b2.f2))), 58⟩, ⟨gb3, arrV Value.bool false 12 b3, 70⟩, ⟨gb4, arrV (Value.int .i64) 0 12 b4, 52⟩]) (by kernel_rfl) (.cons_cons _ (.cons_cons _ (.cons_cons _ (.cons_cons _ (.cons_cons _ .slnil))))) (.refl _) ?_
    exact hJ1 _ _ _ _ _ ⟨x9, rfl, rfl, rfl, hi6, hz8, HK1⟩

end Go.Proofs.Ytdmhbcgmimfjcaa
